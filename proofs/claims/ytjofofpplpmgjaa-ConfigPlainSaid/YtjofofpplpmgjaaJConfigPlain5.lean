/- The row of ConfigPlain, with what stands under it.. -/
import Derived.Test.YtjofofpplpmgjaaJConfigPlain1
import Derived.Test.YtjofofpplpmgjaaJConfigPlain4
import Derived.Test.YtjofofpplpmgjaaJConfigPlain3
import Derived.Test.YtjofofpplpmgjaaJConfigPlain2
import Derived.Test.YtjofofpplpmgjaaJConfigPlain0
import Derived.Deep.Slices
import Derived.ChangeArms
import Derived.ChangeSame
import Derived.SizedLaws
import Derived.OpenShut
import Derived.ShutString
import Derived.WalkKit
import Derived.ProofKit
import Derived.ChangeOld
import Derived.Below
import Derived.Test.YtjofofpplpmgjaaRows
-- SLIMMED
namespace Go.Proofs.Ytjofofpplpmgjaa.Pr
open Go.RowKit Go.Proofs.YtjofofpplpmgjaaW.PrintWords Go.Proofs.YtjofofpplpmgjaaW.PrintLast Go.Proofs.YtjofofpplpmgjaaW.PrintMore
attribute [local go_sem] max2_int min2_int max_two min_two max_three min_three max_four min_four   -- for this text's walks alone
set_option linter.unusedVariables false
set_option linter.unusedSimpArgs false

/-! ### config_Canon: function 23 -/
def config_CanonK.l0 : Nat → List (S35) → List (S35) → Int → Int → Bool → Bool → List ByteArray → List ByteArray → List ByteArray → List (S35) → Bool → Bool → Option (Bool × Bool × List ByteArray × List ByteArray × List ByteArray × (List (S35)) × Bool × Bool)
 | 0, _, _, _, _, _, _, _, _, _, _, _, _ => none
 | k + 1, x3, x19, x20, x21, x189000, x189001, x189002, x189003, x189004, x189005, x189006, x189007 => if x21 < x20 then (if 0 ≤ x21 then (if x21 < (x19.length : Int) then (if (((rd_T35 x19 x21).f1).length : Int) > 0 then ((fold_Sorted.f ((rd_T35 x19 x21).f1)).bind fun t201 => (if x3.length < 3518437208883 then (config_CanonK.l0 k (x3 ++ [(⟨(rd_T35 x19 x21).f0, t201⟩ : S35)]) x19 x20 (wrap64 (x21 + 1)) x189000 x189001 x189002 x189003 x189004 x189005 x189006 x189007) else (none))) else (config_CanonK.l0 k x3 x19 x20 (wrap64 (x21 + 1)) x189000 x189001 x189002 x189003 x189004 x189005 x189006 x189007)) else (none)) else (none)) else (if x3.length < 20 then (some (x189000, x189001, x189002, x189003, x189004, (sortP x3), x189006, x189007)) else (none))
def config_CanonK.f (k : Nat) (a0_0 : Bool) (a0_1 : Bool) (l0_2 : List ByteArray) (l0_3 : List ByteArray) (l0_4 : List ByteArray) (l0_5 : List (S35)) (a0_6 : Bool) (a0_7 : Bool) : Option (Bool × Bool × List ByteArray × List ByteArray × List ByteArray × (List (S35)) × Bool × Bool) := (fold_Sorted.f l0_2).bind fun t190 => ((fold_Sorted.f l0_3).bind fun t193 => ((fold_Sorted.f l0_4).bind fun t196 => (config_CanonK.l0 k ([] : List (S35)) l0_5 (l0_5.length : Int) 0 a0_0 a0_1 t190 t193 t196 l0_5 a0_6 a0_7)))
def config_CanonK.T1 : Bool × List (List Nat × List Nat) := (true, [([], []), ([0], [0]), ([1], [1]), ([], []), ([3], [3]), ([4, 2], [4]), ([], []), ([6], [6]), ([7, 5], [7]), ([0, 1, 2, 3, 4, 6, 7], []), ([9, 2, 8, 0, 1, 2, 3, 4, 6, 7], [2, 9]), ([0, 1, 2, 3, 4, 5, 6, 7, 9, 10], []), ([11, 5, 10, 0, 1, 2, 3, 4, 5, 6, 7, 9, 10], [5, 11]), ([0, 1, 2, 3, 4, 5, 6, 7, 8, 9, 10, 11, 12], []), ([13, 8, 12, 0, 1, 2, 3, 4, 5, 6, 7, 8, 9, 10, 11, 12], [8, 13])])
def config_CanonK.B1 : List Nat := [0, 1, 3, 0, 8, 31, 0, 64, 255, 223, 1023, 2047, 4095, 8191, 16383]
theorem config_CanonK.tab1 : rtab .any (opsOf Try.f23 1) = config_CanonK.T1 := by kernel_rfl
theorem config_CanonK.bits1 : waitsOk config_CanonK.T1.2 config_CanonK.B1 = true := by kernel_rfl
def config_CanonK.T7 : Bool × List (List Nat × List Nat) := (true, [([], []), ([], []), ([1], [1]), ([], []), ([3], [3]), ([4], [4]), ([2, 5], [2, 5]), ([6], [6]), ([0, 7, 5], [0, 7]), ([8, 8, 0, 1, 2, 3, 4, 5, 6, 7, 8], [0, 8])])
def config_CanonK.B7 : List Nat := [0, 0, 2, 0, 8, 24, 62, 126, 255, 511]
theorem config_CanonK.tab7 : rtab .any (opsOf Try.f23 7) = config_CanonK.T7 := by kernel_rfl
theorem config_CanonK.bits7 : waitsOk config_CanonK.T7.2 config_CanonK.B7 = true := by kernel_rfl
set_option maxHeartbeats 8000000 in
set_option maxRecDepth 100000 in
theorem config_CanonK.calls (k : Nat) (a0_0 : Bool) (a0_1 : Bool) (A0_2 : Option Addr) (c0_2 : Nat) (l0_2 : List ByteArray) (A0_3 : Option Addr) (c0_3 : Nat) (l0_3 : List ByteArray) (A0_4 : Option Addr) (c0_4 : Nat) (l0_4 : List ByteArray) (A0_5 : Option Addr) (c0_5 : Nat) (l0_5 : List (S35)) (a0_6 : Bool) (a0_7 : Bool) (r1 : Bool) (r2 : Bool) (r3 : List ByteArray) (r4 : List ByteArray) (r5 : List ByteArray) (r6 : List (S35)) (r7 : Bool) (r8 : Bool) (w : World) (hr0_2 : Kd.C Kd.string w A0_2 l0_2.length l0_2) (hc0_2 : l0_2.length ≤ c0_2) (hr0_3 : Kd.C Kd.string w A0_3 l0_3.length l0_3) (hc0_3 : l0_3.length ≤ c0_3) (hr0_4 : Kd.C Kd.string w A0_4 l0_4.length l0_4) (hc0_4 : l0_4.length ≤ c0_4) (hr0_5 : Kd.C k35 w A0_5 l0_5.length l0_5) (hc0_5 : l0_5.length ≤ c0_5) (h : config_CanonK.f k a0_0 a0_1 l0_2 l0_3 l0_4 l0_5 a0_6 a0_7 = some (r1, r2, r3, r4, r5, r6, r7, r8)) :
  Calls Try.prog 23 #[.agg #[.bool a0_0, .bool a0_1, .slice A0_2 l0_2.length c0_2, .slice A0_3 l0_3.length c0_3, .slice A0_4 l0_4.length c0_4, .slice A0_5 l0_5.length c0_5, .bool a0_6, .bool a0_7]] w fun e w' => ∃ v2_ v3_ v4_ v5_ : Value, e = .returned (.agg #[.bool r1, .bool r2, v2_, v3_, v4_, v5_, .bool r7, .bool r8]) ∧ Kd.R Kd.string 9 w' w.heap.size (fun k_ => some k_ ≠ (v3_ : Value).ownBlock ∧ some k_ ≠ (v4_ : Value).ownBlock) v2_ r3 ∧ Kd.R Kd.string 9 w' w.heap.size (fun k_ => some k_ ≠ (v2_ : Value).ownBlock ∧ some k_ ≠ (v4_ : Value).ownBlock) v3_ r4 ∧ Kd.R Kd.string 9 w' w.heap.size (fun k_ => some k_ ≠ (v2_ : Value).ownBlock ∧ some k_ ≠ (v3_ : Value).ownBlock) v4_ r5 ∧ Kd.R k35 35 w' w.heap.size (fun k_ => some k_ ≠ (v2_ : Value).ownBlock ∧ some k_ ≠ (v3_ : Value).ownBlock ∧ some k_ ≠ (v4_ : Value).ownBlock) v5_ r6 ∧ Below w.heap.size w w' := by
 have hu25 := Try.underlying25
 have hu35 := Try.underlying35
 have HR0_2 := Aside0.mk hr0_2
 have HC0_2 := Aside0.mk hc0_2
 clear hr0_2 hc0_2
 have HR0_3 := Aside0.mk hr0_3
 have HC0_3 := Aside0.mk hc0_3
 clear hr0_3 hc0_3
 have HR0_4 := Aside0.mk hr0_4
 have HC0_4 := Aside0.mk hc0_4
 clear hr0_4 hc0_4
 have HR0_5 := Aside0.mk hr0_5
 have HC0_5 := Aside0.mk hc0_5
 clear hr0_5 hc0_5
 have HB := Aside0.mk (Below.refl w.heap.size w)
 have H : ((fold_Sorted.f l0_2).bind fun t190 => ((fold_Sorted.f l0_3).bind fun t193 => ((fold_Sorted.f l0_4).bind fun t196 => (config_CanonK.l0 k ([] : List (S35)) l0_5 (l0_5.length : Int) 0 a0_0 a0_1 t190 t193 t196 l0_5 a0_6 a0_7)))) = some (r1, r2, r3, r4, r5, r6, r7, r8) := h
 clear h
 replace H := Option.bind_eq_some_iff.mp H
 obtain ⟨t190, A20, H⟩ := H
 replace H : ((fold_Sorted.f l0_3).bind fun t193 => ((fold_Sorted.f l0_4).bind fun t196 => (config_CanonK.l0 k ([] : List (S35)) l0_5 (l0_5.length : Int) 0 a0_0 a0_1 t190 t193 t196 l0_5 a0_6 a0_7))) = some (r1, r2, r3, r4, r5, r6, r7, r8) := H
 have A2 := Aside0.mk A20
 clear A20
 replace H := Option.bind_eq_some_iff.mp H
 obtain ⟨t193, A30, H⟩ := H
 replace H : ((fold_Sorted.f l0_4).bind fun t196 => (config_CanonK.l0 k ([] : List (S35)) l0_5 (l0_5.length : Int) 0 a0_0 a0_1 t190 t193 t196 l0_5 a0_6 a0_7)) = some (r1, r2, r3, r4, r5, r6, r7, r8) := H
 have A3 := Aside0.mk A30
 clear A30
 replace H := Option.bind_eq_some_iff.mp H
 obtain ⟨t196, A40, H⟩ := H
 replace H : (config_CanonK.l0 k ([] : List (S35)) l0_5 (l0_5.length : Int) 0 a0_0 a0_1 t190 t193 t196 l0_5 a0_6 a0_7) = some (r1, r2, r3, r4, r5, r6, r7, r8) := H
 have A4 := Aside0.mk A40
 clear A40
 have H' := Aside0.mk H
 clear H
 go_enter Try.func23, Try.ntmps23
 try go_wp2_with (first | ((with_reducible refine gate_dst (N := 1) rfl ?_); refine box_event ?hg (N := 1) ?hd (cs := #[.bool a0_0, .bool a0_1, .slice A0_2 l0_2.length c0_2, .slice A0_3 l0_3.length c0_3, .slice A0_4 l0_4.length c0_4, .slice A0_5 l0_5.length c0_5, .bool a0_6, .bool a0_7]) (t := 25) ?hr ?_; (case hd => rfl); (case hg => rfl); (case hr => first | (go_simp; done) | (go_simp; rfl)); intro gb188 hg w5 hbox hb; have n0_ := Aside0.mk (below_step (by repeat (first | (with_reducible first | exact HB.out | apply below_alloc | apply pw_below_drewN | apply below_drew1) | exact HB.out)) hb); have n1_ := Aside0.mk (hbox); have n2_ := Aside0.mk ((by rw [hg]; exact (below_size (by repeat (first | (with_reducible first | exact HB.out | apply below_alloc | apply pw_below_drewN | apply below_drew1) | exact HB.out))) : w.heap.size ≤ gb188)); have n3_ := Aside0.mk ((by rw [hg]; exact (below_size (by repeat (first | (with_reducible first | exact HB.out | apply below_alloc | apply pw_below_drewN | apply below_drew1) | exact HB.out))) : w.heap.size ≤ gb188)); clear HB; have HB := n0_; have BK188 := n1_; have GW188 := n2_; have GE188 := n3_; clear n0_ n1_ n2_ n3_; clear hb hbox hg) | ((with_reducible refine gate_dst (N := 2) rfl ?_); refine box_event ?hg (N := 2) ?hd (cs := #[.bool false, .bool false, .slice none 0 0, .slice none 0 0, .slice none 0 0, .slice none 0 0, .bool false, .bool false]) (t := 25) ?hr ?_; (case hd => rfl); (case hg => rfl); (case hr => first | (go_simp; done) | (go_simp; rfl)); intro gb189 hg w6 hbox hb; have n0_ := Aside0.mk (blk_below (g := gb188) (o := .cells #[.bool a0_0, .bool a0_1, .slice A0_2 l0_2.length c0_2, .slice A0_3 l0_3.length c0_3, .slice A0_4 l0_4.length c0_4, .slice A0_5 l0_5.length c0_5, .bool a0_6, .bool a0_7] 25 (0, 0)) (by (with_reducible repeat (first | refine blk_drewN ?_ _ | refine blk_drew ?_ | refine blk_alloc ?_ _)); exact BK188.out) hb); have n1_ := Aside0.mk (below_step (by repeat (first | (with_reducible first | exact HB.out | apply below_alloc | apply pw_below_drewN | apply below_drew1 | refine below_set ?_ GE188.out) | exact HB.out)) hb); have n2_ := Aside0.mk (hbox); have n3_ := Aside0.mk ((by rw [hg]; exact (below_size (by repeat (first | (with_reducible first | exact HB.out | apply below_alloc | apply pw_below_drewN | apply below_drew1 | refine below_set ?_ GE188.out) | exact HB.out))) : w.heap.size ≤ gb189)); have n4_ := Aside0.mk ((by rw [hg]; exact (below_size (by repeat (first | (with_reducible first | exact HB.out | apply below_alloc | apply pw_below_drewN | apply below_drew1 | refine below_set ?_ GE188.out) | exact HB.out))) : w.heap.size ≤ gb189)); have n5_ := Aside0.mk ((by rw [hg]; exact Nat.ne_of_lt (blk_lt (g := gb188) (o := .cells #[.bool a0_0, .bool a0_1, .slice A0_2 l0_2.length c0_2, .slice A0_3 l0_3.length c0_3, .slice A0_4 l0_4.length c0_4, .slice A0_5 l0_5.length c0_5, .bool a0_6, .bool a0_7] 25 (0, 0)) (by (with_reducible repeat (first | refine blk_drewN ?_ _ | refine blk_drew ?_ | refine blk_alloc ?_ _)); exact BK188.out)) : gb188 ≠ gb189)); have n6_ := Aside0.mk ((by rw [hg]; exact Nat.ne_of_gt (blk_lt (g := gb188) (o := .cells #[.bool a0_0, .bool a0_1, .slice A0_2 l0_2.length c0_2, .slice A0_3 l0_3.length c0_3, .slice A0_4 l0_4.length c0_4, .slice A0_5 l0_5.length c0_5, .bool a0_6, .bool a0_7] 25 (0, 0)) (by (with_reducible repeat (first | refine blk_drewN ?_ _ | refine blk_drew ?_ | refine blk_alloc ?_ _)); exact BK188.out)) : gb189 ≠ gb188)); clear BK188; clear HB; have BK188 := n0_; have HB := n1_; have BK189 := n2_; have GW189 := n3_; have GE189 := n4_; have NB188_189 := n5_; have NB189_188 := n6_; clear n0_ n1_ n2_ n3_ n4_ n5_ n6_; clear hb hbox hg))
 have n0_ := Aside0.mk (blk_drew BK188.out)
 have n1_ := Aside0.mk (blk_drew BK189.out)
 have n2_ := Aside0.mk (below_drew1 HB.out)
 clear BK188
 clear BK189
 clear HB
 have BK188 := n0_
 have BK189 := n1_
 have HB := n2_
 clear n0_ n1_ n2_
 refine start_ (n := 15) (S := fun w' => w'.cell? ⟨gb188, 0, none⟩ = some (.bool a0_0) ∧ w'.cell? ⟨gb188, 1, none⟩ = some (.bool a0_1) ∧ w'.cell? ⟨gb188, 2, none⟩ = some (.slice A0_2 l0_2.length c0_2) ∧ w'.cell? ⟨gb188, 3, none⟩ = some (.slice A0_3 l0_3.length c0_3) ∧ w'.cell? ⟨gb188, 4, none⟩ = some (.slice A0_4 l0_4.length c0_4) ∧ w'.cell? ⟨gb188, 5, none⟩ = some (.slice A0_5 l0_5.length c0_5) ∧ w'.cell? ⟨gb188, 6, none⟩ = some (.bool a0_6) ∧ w'.cell? ⟨gb188, 7, none⟩ = some (.bool a0_7)) (ds := [10, 12, 14]) (tf 0 15) (by kernel_rfl) rfl rfl ⟨(blk_cell BK188.out 0).trans rfl, (blk_cell BK188.out 1).trans rfl, (blk_cell BK188.out 2).trans rfl, (blk_cell BK188.out 3).trans rfl, (blk_cell BK188.out 4).trans rfl, (blk_cell BK188.out 5).trans rfl, (blk_cell BK188.out 6).trans rfl, (blk_cell BK188.out 7).trans rfl⟩ (fun hHeld => ?_); refine with_tabW config_CanonK.tab1 config_CanonK.bits1 (fun HT_ HW_ => ?_)
 generalize w6.drew = w7 at BK188 BK189 HB hHeld ⊢
 refine pure_ (i := 0) (N := some 6) (v := ?_) (a' := ?_) (tf 1 14) rfl rfl (any_of HT_.out (by kernel_rfl)) (fun _ _ _ h => h) (Or.inl ⟨by rfl, ?_⟩) ?_ ?_
 rotate_left
 ·intro w'
  go_simp
  with_reducible rfl
 rotate_left
 ·simp only [Act.put, List.setIfInBounds_toArray, List.set_cons_zero, List.set_cons_succ, i64_w, i32_w]
  rfl
 refine pure_ (i := 3) (N := some 9) (v := ?_) (a' := ?_) #[true, false, false, true, false, false, false, false, false, false, false, false, false, false, false] rfl rfl (any_of HT_.out (by kernel_rfl)) (fun _ _ _ h => h) (Or.inl ⟨by rfl, ?_⟩) ?_ ?_
 rotate_left
 ·intro w'
  go_simp
  with_reducible rfl
 rotate_left
 ·simp only [Act.put, List.setIfInBounds_toArray, List.set_cons_zero, List.set_cons_succ, i64_w, i32_w]
  rfl
 refine pure_ (i := 6) (N := some 12) (v := ?_) (a' := ?_) #[true, false, false, true, false, false, true, false, false, false, false, false, false, false, false] rfl rfl (any_of HT_.out (by kernel_rfl)) (fun _ _ _ h => h) (Or.inl ⟨by rfl, ?_⟩) ?_ ?_
 rotate_left
 ·intro w'
  go_simp
  with_reducible rfl
 rotate_left
 ·simp only [Act.put, List.setIfInBounds_toArray, List.set_cons_zero, List.set_cons_succ, i64_w, i32_w]
  rfl
 refine take_ (i := 1) (N := some 7) (v := ?_) (a' := ?_) #[true, true, false, true, false, false, true, false, false, false, false, false, false, false, false] rfl rfl (take_ofW HT_.out HW_.out (by kernel_rfl)) (fun _ _ _ h => h) (Or.inl ⟨by rfl, ?_⟩) hHeld ?_ ?_
 rotate_left
 ·rintro w' ⟨s0, s1, s2, s3, s4, s5, s6, s7⟩
  go_simp
  with_reducible rfl
 rotate_left
 ·simp only [Act.put, List.setIfInBounds_toArray, List.set_cons_zero, List.set_cons_succ, i64_w, i32_w]
  rfl
 refine take_ (i := 4) (N := some 10) (v := ?_) (a' := ?_) #[true, true, false, true, true, false, true, false, false, false, false, false, false, false, false] rfl rfl (take_ofW HT_.out HW_.out (by kernel_rfl)) (fun _ _ _ h => h) (Or.inl ⟨by rfl, ?_⟩) hHeld ?_ ?_
 rotate_left
 ·rintro w' ⟨s0, s1, s2, s3, s4, s5, s6, s7⟩
  go_simp
  with_reducible rfl
 rotate_left
 ·simp only [Act.put, List.setIfInBounds_toArray, List.set_cons_zero, List.set_cons_succ, i64_w, i32_w]
  rfl
 refine take_ (i := 7) (N := some 13) (v := ?_) (a' := ?_) #[true, true, false, true, true, false, true, true, false, false, false, false, false, false, false] rfl rfl (take_ofW HT_.out HW_.out (by kernel_rfl)) (fun _ _ _ h => h) (Or.inl ⟨by rfl, ?_⟩) hHeld ?_ ?_
 rotate_left
 ·rintro w' ⟨s0, s1, s2, s3, s4, s5, s6, s7⟩
  go_simp
  with_reducible rfl
 rotate_left
 ·simp only [Act.put, List.setIfInBounds_toArray, List.set_cons_zero, List.set_cons_succ, i64_w, i32_w]
  rfl
 refine one_ (i := 2) (N := some 8) #[true, true, true, true, true, false, true, true, false, false, false, false, false, false, false] rfl rfl (one_of HT_.out (by kernel_rfl)) (by decide) (fun K hK => ?_)
 refine goes_ Try.func52 (by kernel_rfl) rfl #[.slice A0_2 l0_2.length c0_2] (by rfl) rfl rfl (by (try simp only [List.map_toArray, List.map_cons, List.map_nil]); first | done | rfl | (simp only [List.length_drop, List.length_take]; rfl)) ?_
 with_reducible refine (fold_Sorted.calls _ _ l0_2 t190 _ ?side1 ?side2 A2.out).mono ?_
 (case side1 => repeat (first | exact (Kd.C_below HR0_2.out HB.out) | (with_reducible refine Kd.C_alloc ?_ _) | (with_reducible refine Kd.C_drewN ?_ _) | (with_reducible refine Kd.C_drew ?_)))
 (case side2 => exact HC0_2.out)
 rintro e w8 ⟨v191, rfl, ho0, hb⟩
 refine ⟨_, rfl, ?_⟩
 have n0_ := Aside0.mk (Kd.R_lower ho0 (below_size (by repeat (first | (with_reducible first | exact HB.out | apply below_alloc | apply pw_below_drewN | apply below_drew1 | refine below_set ?_ GE188.out | refine below_set ?_ GE189.out) | exact HB.out))))
 have n1_ := Aside0.mk (blk_below (g := gb188) (o := .cells #[.bool a0_0, .bool a0_1, .slice A0_2 l0_2.length c0_2, .slice A0_3 l0_3.length c0_3, .slice A0_4 l0_4.length c0_4, .slice A0_5 l0_5.length c0_5, .bool a0_6, .bool a0_7] 25 (0, 0)) (by (with_reducible repeat (first | refine blk_drewN ?_ _ | refine blk_drew ?_ | refine blk_alloc ?_ _)); exact BK188.out) hb)
 have n2_ := Aside0.mk (blk_below (g := gb189) (o := .cells #[.bool false, .bool false, .slice none 0 0, .slice none 0 0, .slice none 0 0, .slice none 0 0, .bool false, .bool false] 25 (0, 0)) (by (with_reducible repeat (first | refine blk_drewN ?_ _ | refine blk_drew ?_ | refine blk_alloc ?_ _)); exact BK189.out) hb)
 have n3_ := Aside0.mk (below_step (by repeat (first | (with_reducible first | exact HB.out | apply below_alloc | apply pw_below_drewN | apply below_drew1 | refine below_set ?_ GE188.out | refine below_set ?_ GE189.out) | exact HB.out)) hb)
 clear BK188
 clear BK189
 clear HB
 have HO192 := n0_
 have BK188 := n1_
 have BK189 := n2_
 have HB := n3_
 clear n0_ n1_ n2_ n3_
 (try clear hb)
 (try clear hb2)
 (try clear hk)
 (try clear hi)
 (try clear ho0)
 refine hK.out _ _ ⟨(blk_cell BK188.out 0).trans rfl, (blk_cell BK188.out 1).trans rfl, (blk_cell BK188.out 2).trans rfl, (blk_cell BK188.out 3).trans rfl, (blk_cell BK188.out 4).trans rfl, (blk_cell BK188.out 5).trans rfl, (blk_cell BK188.out 6).trans rfl, (blk_cell BK188.out 7).trans rfl⟩ (fun hHeld => ?_)
 clear hK K
 refine norm_ (a' := ?_) ?_ ?_
 rotate_left
 ·show Act.put _ (some 8) _ = _
  simp only [Act.put, List.setIfInBounds_toArray, List.set_cons_zero, List.set_cons_succ, i64_w, i32_w]
  rfl
 refine pure_ (i := 9) (N := some 15) (v := ?_) (a' := ?_) #[true, true, true, true, true, false, true, true, false, true, false, false, false, false, false] rfl rfl (any_of HT_.out (by kernel_rfl)) (fun _ _ _ h => h) (Or.inl ⟨by rfl, ?_⟩) ?_ ?_
 rotate_left
 ·intro w'
  go_simp
  with_reducible rfl
 rotate_left
 ·simp only [Act.put, List.setIfInBounds_toArray, List.set_cons_zero, List.set_cons_succ, i64_w, i32_w]
  rfl
 refine one_ (i := 5) (N := some 11) #[true, true, true, true, true, true, true, true, false, true, false, false, false, false, false] rfl rfl (one_of HT_.out (by kernel_rfl)) (by decide) (fun K hK => ?_)
 refine goes_ Try.func52 (by kernel_rfl) rfl #[.slice A0_3 l0_3.length c0_3] (by rfl) rfl rfl (by (try simp only [List.map_toArray, List.map_cons, List.map_nil]); first | done | rfl | (simp only [List.length_drop, List.length_take]; rfl)) ?_
 with_reducible refine (fold_Sorted.calls _ _ l0_3 t193 _ ?side1 ?side2 A3.out).mono ?_
 (case side1 => repeat (first | exact (Kd.C_below HR0_3.out HB.out) | (with_reducible refine Kd.C_alloc ?_ _) | (with_reducible refine Kd.C_drewN ?_ _) | (with_reducible refine Kd.C_drew ?_)))
 (case side2 => exact HC0_3.out)
 rintro e w9 ⟨v194, rfl, ho0, hb⟩
 refine ⟨_, rfl, ?_⟩
 have n0_ := Aside0.mk (Kd.R_elder' (by (with_reducible repeat (first | apply Kd.R_alloc | apply Kd.R_drewN | apply Kd.R_drew)); exact HO192.out) (Kd.R_base ho0) hb)
 have n1_ := Aside0.mk (Kd.R_lower (Kd.R_new' ho0 (Kd.R_lt (by (with_reducible repeat (first | apply Kd.R_alloc | apply Kd.R_drewN | apply Kd.R_drew)); exact HO192.out))) (below_size (by repeat (first | (with_reducible first | exact HB.out | apply below_alloc | apply pw_below_drewN | apply below_drew1 | refine below_set ?_ GE188.out | refine below_set ?_ GE189.out) | exact HB.out))))
 have n2_ := Aside0.mk (blk_below (g := gb188) (o := .cells #[.bool a0_0, .bool a0_1, .slice A0_2 l0_2.length c0_2, .slice A0_3 l0_3.length c0_3, .slice A0_4 l0_4.length c0_4, .slice A0_5 l0_5.length c0_5, .bool a0_6, .bool a0_7] 25 (0, 0)) (by (with_reducible repeat (first | refine blk_drewN ?_ _ | refine blk_drew ?_ | refine blk_alloc ?_ _)); exact BK188.out) hb)
 have n3_ := Aside0.mk (blk_below (g := gb189) (o := .cells #[.bool false, .bool false, .slice none 0 0, .slice none 0 0, .slice none 0 0, .slice none 0 0, .bool false, .bool false] 25 (0, 0)) (by (with_reducible repeat (first | refine blk_drewN ?_ _ | refine blk_drew ?_ | refine blk_alloc ?_ _)); exact BK189.out) hb)
 have n4_ := Aside0.mk (below_step (by repeat (first | (with_reducible first | exact HB.out | apply below_alloc | apply pw_below_drewN | apply below_drew1 | refine below_set ?_ GE188.out | refine below_set ?_ GE189.out) | exact HB.out)) hb)
 clear HO192
 clear BK188
 clear BK189
 clear HB
 have HO192 := n0_
 have HO195 := n1_
 have BK188 := n2_
 have BK189 := n3_
 have HB := n4_
 clear n0_ n1_ n2_ n3_ n4_
 (try clear hb)
 (try clear hb2)
 (try clear hk)
 (try clear hi)
 (try clear ho0)
 refine hK.out _ _ ⟨(blk_cell BK188.out 0).trans rfl, (blk_cell BK188.out 1).trans rfl, (blk_cell BK188.out 2).trans rfl, (blk_cell BK188.out 3).trans rfl, (blk_cell BK188.out 4).trans rfl, (blk_cell BK188.out 5).trans rfl, (blk_cell BK188.out 6).trans rfl, (blk_cell BK188.out 7).trans rfl⟩ (fun hHeld => ?_)
 clear hK K
 refine norm_ (a' := ?_) ?_ ?_
 rotate_left
 ·show Act.put _ (some 11) _ = _
  simp only [Act.put, List.setIfInBounds_toArray, List.set_cons_zero, List.set_cons_succ, i64_w, i32_w]
  rfl
 refine one_ (i := 8) (N := some 14) (tf 10 5) rfl rfl (one_of HT_.out (by kernel_rfl)) (by decide) (fun K hK => ?_)
 refine goes_ Try.func52 (by kernel_rfl) rfl #[.slice A0_4 l0_4.length c0_4] (by rfl) rfl rfl (by (try simp only [List.map_toArray, List.map_cons, List.map_nil]); first | done | rfl | (simp only [List.length_drop, List.length_take]; rfl)) ?_
 with_reducible refine (fold_Sorted.calls _ _ l0_4 t196 _ ?side1 ?side2 A4.out).mono ?_
 (case side1 => repeat (first | exact (Kd.C_below HR0_4.out HB.out) | (with_reducible refine Kd.C_alloc ?_ _) | (with_reducible refine Kd.C_drewN ?_ _) | (with_reducible refine Kd.C_drew ?_)))
 (case side2 => exact HC0_4.out)
 rintro e w10 ⟨v197, rfl, ho0, hb⟩
 refine ⟨_, rfl, ?_⟩
 have n0_ := Aside0.mk (Kd.R_elder' (by (with_reducible repeat (first | apply Kd.R_alloc | apply Kd.R_drewN | apply Kd.R_drew)); exact HO192.out) (Kd.R_base ho0) hb)
 have n1_ := Aside0.mk (Kd.R_elder' (by (with_reducible repeat (first | apply Kd.R_alloc | apply Kd.R_drewN | apply Kd.R_drew)); exact HO195.out) (Kd.R_base ho0) hb)
 have n2_ := Aside0.mk (Kd.R_lower (Kd.R_new' (Kd.R_new' ho0 (Kd.R_lt (by (with_reducible repeat (first | apply Kd.R_alloc | apply Kd.R_drewN | apply Kd.R_drew)); exact HO192.out))) (Kd.R_lt (by (with_reducible repeat (first | apply Kd.R_alloc | apply Kd.R_drewN | apply Kd.R_drew)); exact HO195.out))) (below_size (by repeat (first | (with_reducible first | exact HB.out | apply below_alloc | apply pw_below_drewN | apply below_drew1 | refine below_set ?_ GE188.out | refine below_set ?_ GE189.out) | exact HB.out))))
 have n3_ := Aside0.mk (blk_below (g := gb188) (o := .cells #[.bool a0_0, .bool a0_1, .slice A0_2 l0_2.length c0_2, .slice A0_3 l0_3.length c0_3, .slice A0_4 l0_4.length c0_4, .slice A0_5 l0_5.length c0_5, .bool a0_6, .bool a0_7] 25 (0, 0)) (by (with_reducible repeat (first | refine blk_drewN ?_ _ | refine blk_drew ?_ | refine blk_alloc ?_ _)); exact BK188.out) hb)
 have n4_ := Aside0.mk (blk_below (g := gb189) (o := .cells #[.bool false, .bool false, .slice none 0 0, .slice none 0 0, .slice none 0 0, .slice none 0 0, .bool false, .bool false] 25 (0, 0)) (by (with_reducible repeat (first | refine blk_drewN ?_ _ | refine blk_drew ?_ | refine blk_alloc ?_ _)); exact BK189.out) hb)
 have n5_ := Aside0.mk (below_step (by repeat (first | (with_reducible first | exact HB.out | apply below_alloc | apply pw_below_drewN | apply below_drew1 | refine below_set ?_ GE188.out | refine below_set ?_ GE189.out) | exact HB.out)) hb)
 clear HO192
 clear HO195
 clear BK188
 clear BK189
 clear HB
 have HO192 := n0_
 have HO195 := n1_
 have HO198 := n2_
 have BK188 := n3_
 have BK189 := n4_
 have HB := n5_
 clear n0_ n1_ n2_ n3_ n4_ n5_
 (try clear hb)
 (try clear hb2)
 (try clear hk)
 (try clear hi)
 (try clear ho0)
 obtain ⟨Ao11, co11, eo11⟩ := Kd.R_slice HO192.out
 (first | subst eo11 | (injection eo11 with f1_ f2_ f3_; have f4_ := f1_.symm; have f5_ := f3_.symm; clear f1_ f2_ f3_; subst f4_; subst f5_))
 obtain ⟨Ao13, co13, eo13⟩ := Kd.R_slice HO195.out
 (first | subst eo13 | (injection eo13 with f1_ f2_ f3_; have f4_ := f1_.symm; have f5_ := f3_.symm; clear f1_ f2_ f3_; subst f4_; subst f5_))
 obtain ⟨Ao15, co15, eo15⟩ := Kd.R_slice HO198.out
 (first | subst eo15 | (injection eo15 with f1_ f2_ f3_; have f4_ := f1_.symm; have f5_ := f3_.symm; clear f1_ f2_ f3_; subst f4_; subst f5_))
 refine hK.out _ _ ⟨(blk_cell BK188.out 0).trans rfl, (blk_cell BK188.out 1).trans rfl, (blk_cell BK188.out 2).trans rfl, (blk_cell BK188.out 3).trans rfl, (blk_cell BK188.out 4).trans rfl, (blk_cell BK188.out 5).trans rfl, (blk_cell BK188.out 6).trans rfl, (blk_cell BK188.out 7).trans rfl⟩ (fun hHeld => ?_)
 clear hK K
 refine norm_ (a' := ?_) ?_ ?_
 rotate_left
 ·show Act.put _ (some 14) _ = _
  simp only [Act.put, List.setIfInBounds_toArray, List.set_cons_zero, List.set_cons_succ, i64_w, i32_w]
  rfl
 refine last_ (i := 10) (N := none) (tf 11 4) rfl rfl (one_of HT_.out (by kernel_rfl)) (by decide) (fun K hK => ?_)
 have hs12 : w10.cell? ⟨gb188, 2, none⟩ = some (.slice A0_2 l0_2.length c0_2) := (blk_cell BK188.out 2).trans rfl
 have hfs12 := blk_frozen BK188.out 2
 have hns12_1 := NB189_188.out
 have hms12_1 := NB188_189.out
 refine skip_ (w1 := ?_) (by rfl) rfl ?_ ?_
 rotate_left
 ·go_simp
  rfl
 refine hK.out _ _ ?_
 clear hK K
 refine pure_ (i := 11) (N := some 16) (v := ?_) (a' := ?_) (tf 12 3) rfl rfl (any_of HT_.out (by kernel_rfl)) (fun _ _ _ h => h) (Or.inl ⟨by rfl, ?_⟩) ?_ ?_
 rotate_left
 ·intro w'
  go_simp
  with_reducible rfl
 rotate_left
 ·simp only [Act.put, List.setIfInBounds_toArray, List.set_cons_zero, List.set_cons_succ, i64_w, i32_w]
  rfl
 refine last_ (i := 12) (N := none) (tf 13 2) rfl rfl (one_of HT_.out (by kernel_rfl)) (by decide) (fun K hK => ?_)
 have hs14 : w10.cell? ⟨gb188, 3, none⟩ = some (.slice A0_3 l0_3.length c0_3) := (blk_cell BK188.out 3).trans rfl
 have hfs14 := blk_frozen BK188.out 3
 have hns14_1 := NB189_188.out
 have hms14_1 := NB188_189.out
 refine skip_ (w1 := ?_) (by rfl) rfl ?_ ?_
 rotate_left
 ·go_simp
  rfl
 refine hK.out _ _ ?_
 clear hK K
 refine pure_ (i := 13) (N := some 17) (v := ?_) (a' := ?_) (tf 14 1) rfl rfl (any_of HT_.out (by kernel_rfl)) (fun _ _ _ h => h) (Or.inl ⟨by rfl, ?_⟩) ?_ ?_
 rotate_left
 ·intro w'
  go_simp
  with_reducible rfl
 rotate_left
 ·simp only [Act.put, List.setIfInBounds_toArray, List.set_cons_zero, List.set_cons_succ, i64_w, i32_w]
  rfl
 refine last_ (i := 14) (N := none) (tf 15 0) rfl rfl (one_of HT_.out (by kernel_rfl)) (by decide) (fun K hK => ?_)
 have hs16 : w10.cell? ⟨gb188, 4, none⟩ = some (.slice A0_4 l0_4.length c0_4) := (blk_cell BK188.out 4).trans rfl
 have hfs16 := blk_frozen BK188.out 4
 have hns16_1 := NB189_188.out
 have hms16_1 := NB188_189.out
 refine skip_ (w1 := ?_) (by rfl) rfl ?_ ?_
 rotate_left
 ·go_simp
  rfl
 refine hK.out _ _ ?_
 clear hK K
 refine done_ (done_of HT_.out (by kernel_rfl)) ?_
 have hnb17 := NB188_189.out
 have hnc17 := NB189_188.out
 have hcz18_0 : w10.cell? ⟨gb188, 0, none⟩ = some (.bool a0_0) := (blk_cell BK188.out 0).trans rfl
 have hcz18_1 : w10.cell? ⟨gb188, 1, none⟩ = some (.bool a0_1) := (blk_cell BK188.out 1).trans rfl
 have hcz18_2 : w10.cell? ⟨gb188, 2, none⟩ = some (.slice A0_2 l0_2.length c0_2) := (blk_cell BK188.out 2).trans rfl
 have hcz18_3 : w10.cell? ⟨gb188, 3, none⟩ = some (.slice A0_3 l0_3.length c0_3) := (blk_cell BK188.out 3).trans rfl
 have hcz18_4 : w10.cell? ⟨gb188, 4, none⟩ = some (.slice A0_4 l0_4.length c0_4) := (blk_cell BK188.out 4).trans rfl
 have hcz18_5 : w10.cell? ⟨gb188, 5, none⟩ = some (.slice A0_5 l0_5.length c0_5) := (blk_cell BK188.out 5).trans rfl
 have hcz18_6 : w10.cell? ⟨gb188, 6, none⟩ = some (.bool a0_6) := (blk_cell BK188.out 6).trans rfl
 have hcz18_7 : w10.cell? ⟨gb188, 7, none⟩ = some (.bool a0_7) := (blk_cell BK188.out 7).trans rfl
 have hfz18_0 := blk_frozen BK188.out 0
 have hfz18_1 := blk_frozen BK188.out 1
 have hfz18_2 := blk_frozen BK188.out 2
 have hfz18_3 := blk_frozen BK188.out 3
 have hfz18_4 := blk_frozen BK188.out 4
 have hfz18_5 := blk_frozen BK188.out 5
 have hfz18_6 := blk_frozen BK188.out 6
 have hfz18_7 := blk_frozen BK188.out 7
 try go_wp2
 go_loopg [3, 21] k (fun kq v3 v21 w' => ∃ (x3_1 : List (S35)) (x21_1 : Int), v21 = .int .i64 x21_1 ∧ Aside0 (config_CanonK.l0 kq x3_1 l0_5 (l0_5.length : Int) x21_1 a0_0 a0_1 t190 t193 t196 l0_5 a0_6 a0_7 = some (r1, r2, r3, r4, r5, r6, r7, r8)) ∧ Aside0 (kq ≤ k) ∧ Aside0 (Kd.S k35 35 w' w.heap.size (fun k_ => some k_ ≠ ((.slice Ao11 t190.length co11) : Value).ownBlock ∧ some k_ ≠ ((.slice Ao13 t193.length co13) : Value).ownBlock ∧ some k_ ≠ ((.slice Ao15 t196.length co15) : Value).ownBlock) v3 x3_1) ∧ Aside0 (Kd.R Kd.string 9 w' w.heap.size (fun k_ => some k_ ≠ ((.slice Ao13 t193.length co13) : Value).ownBlock ∧ some k_ ≠ ((.slice Ao15 t196.length co15) : Value).ownBlock) (.slice Ao11 t190.length co11) t190) ∧ Aside0 (Kd.R Kd.string 9 w' w.heap.size (fun k_ => some k_ ≠ ((.slice Ao11 t190.length co11) : Value).ownBlock ∧ some k_ ≠ ((.slice Ao15 t196.length co15) : Value).ownBlock) (.slice Ao13 t193.length co13) t193) ∧ Aside0 (Kd.R Kd.string 9 w' w.heap.size (fun k_ => some k_ ≠ ((.slice Ao11 t190.length co11) : Value).ownBlock ∧ some k_ ≠ ((.slice Ao13 t193.length co13) : Value).ownBlock) (.slice Ao15 t196.length co15) t196) ∧ Aside0 (w'.heap[gb188]? = some (.cells #[.bool a0_0, .bool a0_1, (.slice Ao11 t190.length co11), (.slice Ao13 t193.length co13), (.slice Ao15 t196.length co15), (.slice A0_5 l0_5.length c0_5), .bool a0_6, .bool a0_7] 25 (0, 0))) ∧ Aside0 (w'.heap[gb189]? = some (.cells #[.bool false, .bool false, (.slice none 0 0), (.slice none 0 0), (.slice none 0 0), (.slice none 0 0), .bool false, .bool false] 25 (0, 0))) ∧ Aside0 (Below w.heap.size w w'))
 case atStart => exact ⟨(([] : List (S35))), (0), (by first | rfl | (simp; done) | (simp [*]; done)), H', ⟨Nat.le_refl _⟩, ⟨by first | exact Kd.S_nil _ _ _ _ _ | exact Kd.N_nil _ _ _ _ _ | exact Kd.V_nil _ _ _ _ _ | exact Kd.Q_nil _ _ _ _ _ | exact Kd.R_nil _ _ _ _ _⟩, ⟨by (with_reducible repeat (first | apply Kd.R_alloc | apply Kd.R_drewN | apply Kd.R_drew)); exact Kd.R_mono (Kd.R_far (p := ⟨gb188, 4, none⟩) (Kd.R_far (p := ⟨gb188, 3, none⟩) (Kd.R_far (p := ⟨gb188, 2, none⟩) (Kd.R_types HO192.out BK188.out (by decide)) (fun _ hk => hk.2) (.slice Ao11 t190.length co11)) (fun _ hk => hk.2) (.slice Ao13 t193.length co13)) (fun _ hk => hk.2) (.slice Ao15 t196.length co15)) (fun _ hk => ⟨hk.1.1.2, hk.1.2⟩)⟩, ⟨by (with_reducible repeat (first | apply Kd.R_alloc | apply Kd.R_drewN | apply Kd.R_drew)); exact Kd.R_mono (Kd.R_far (p := ⟨gb188, 4, none⟩) (Kd.R_far (p := ⟨gb188, 3, none⟩) (Kd.R_far (p := ⟨gb188, 2, none⟩) (Kd.R_types HO195.out BK188.out (by decide)) (fun _ hk => hk.2) (.slice Ao11 t190.length co11)) (fun _ hk => hk.2) (.slice Ao13 t193.length co13)) (fun _ hk => hk.2) (.slice Ao15 t196.length co15)) (fun _ hk => ⟨hk.1.1.2, hk.1.2⟩)⟩, ⟨by (with_reducible repeat (first | apply Kd.R_alloc | apply Kd.R_drewN | apply Kd.R_drew)); exact Kd.R_mono (Kd.R_far (p := ⟨gb188, 4, none⟩) (Kd.R_far (p := ⟨gb188, 3, none⟩) (Kd.R_far (p := ⟨gb188, 2, none⟩) (Kd.R_types HO198.out BK188.out (by decide)) (fun _ hk => hk.2) (.slice Ao11 t190.length co11)) (fun _ hk => hk.2) (.slice Ao13 t193.length co13)) (fun _ hk => hk.2) (.slice Ao15 t196.length co15)) (fun _ hk => ⟨hk.1.1.2, hk.1.2⟩)⟩, ⟨by (with_reducible repeat (first | refine blk_drewN ?_ _ | refine blk_drew ?_ | refine blk_alloc ?_ _)); refine blk_put (cs := #[.bool a0_0, .bool a0_1, .slice Ao11 t190.length co11, .slice Ao13 t193.length co13, .slice A0_4 l0_4.length c0_4, .slice A0_5 l0_5.length c0_5, .bool a0_6, .bool a0_7]) ?_ 4 _ rfl; (with_reducible repeat (first | refine blk_drewN ?_ _ | refine blk_drew ?_ | refine blk_alloc ?_ _)); refine blk_put (cs := #[.bool a0_0, .bool a0_1, .slice Ao11 t190.length co11, .slice A0_3 l0_3.length c0_3, .slice A0_4 l0_4.length c0_4, .slice A0_5 l0_5.length c0_5, .bool a0_6, .bool a0_7]) ?_ 3 _ rfl; (with_reducible repeat (first | refine blk_drewN ?_ _ | refine blk_drew ?_ | refine blk_alloc ?_ _)); refine blk_put (cs := #[.bool a0_0, .bool a0_1, .slice A0_2 l0_2.length c0_2, .slice A0_3 l0_3.length c0_3, .slice A0_4 l0_4.length c0_4, .slice A0_5 l0_5.length c0_5, .bool a0_6, .bool a0_7]) ?_ 2 _ rfl; (with_reducible repeat (first | refine blk_drewN ?_ _ | refine blk_drew ?_ | refine blk_alloc ?_ _)); exact BK188.out⟩, ⟨by (with_reducible repeat (first | refine blk_drewN ?_ _ | refine blk_drew ?_ | refine blk_alloc ?_ _)); refine blk_far ?_ NB189_188.out _; (with_reducible repeat (first | refine blk_drewN ?_ _ | refine blk_drew ?_ | refine blk_alloc ?_ _)); refine blk_far ?_ NB189_188.out _; (with_reducible repeat (first | refine blk_drewN ?_ _ | refine blk_drew ?_ | refine blk_alloc ?_ _)); refine blk_far ?_ NB189_188.out _; (with_reducible repeat (first | refine blk_drewN ?_ _ | refine blk_drew ?_ | refine blk_alloc ?_ _)); exact BK189.out⟩, ⟨by repeat (first | (with_reducible first | exact HB.out | apply below_alloc | apply pw_below_drewN | apply below_drew1 | refine below_set ?_ GE188.out | refine below_set ?_ GE189.out) | exact HB.out)⟩⟩
 case round =>
  clear H'
  try clear c1
  try clear c2
  try clear p2
  try clear c5
  try clear c17
  try clear hcz18_0
  try clear hcz18_1
  try clear hcz18_2
  try clear hcz18_3
  try clear hcz18_4
  try clear hcz18_5
  try clear hcz18_6
  try clear hcz18_7
  try clear hfz18_0
  try clear hfz18_1
  try clear hfz18_2
  try clear hfz18_3
  try clear hfz18_4
  try clear hfz18_5
  try clear hfz18_6
  try clear hfz18_7
  obtain ⟨x3_1, x21_1, rfl, HA, HK1, HO_3, HO_189002, HO_189003, HO_189004, BK188, BK189, HB⟩ := hrel
  cases gk with
  | zero => exact absurd HA.out (by simp [config_CanonK.l0])
  | succ k1 =>
   have H := HA.out
   clear HA
   simp only [config_CanonK.l0] at H
   by_cases c19 : x21_1 < (l0_5.length : Int)
   ·rw [if_pos c19] at H
    have c19b0 : decide (x21_1 < (l0_5.length : Int)) = true := decide_eq_true c19
    clear c19
    by_cases c20 : 0 ≤ x21_1
    ·rw [if_pos c20] at H
     have c20b0 : decide (0 ≤ x21_1) = true := decide_eq_true c20
     clear c20
     by_cases c21 : x21_1 < (l0_5.length : Int)
     ·rw [if_pos c21] at H
      have c21b0 : decide (x21_1 < (l0_5.length : Int)) = true := decide_eq_true c21
      clear c21
      by_cases c22 : (((rd_T35 l0_5 x21_1).f1).length : Int) > 0
      ·rw [if_pos c22] at H
       have c22b0 : decide (0 < (((rd_T35 l0_5 x21_1).f1).length : Int)) = true := decide_eq_true c22
       have c22b1 : decide (0 < ((rd_T35 l0_5 x21_1).f1).length) = true := decide_eq_true (by omega)
       clear c22
       replace H := Option.bind_eq_some_iff.mp H
       obtain ⟨t201, A230, H⟩ := H
       replace H : (if x3_1.length < 3518437208883 then (config_CanonK.l0 k1 (x3_1 ++ [(⟨(rd_T35 l0_5 x21_1).f0, t201⟩ : S35)]) l0_5 (l0_5.length : Int) (wrap64 (x21_1 + 1)) a0_0 a0_1 t190 t193 t196 l0_5 a0_6 a0_7) else (none)) = some (r1, r2, r3, r4, r5, r6, r7, r8) := H
       have A23 := Aside0.mk A230
       clear A230
       by_cases c24 : x3_1.length < 3518437208883
       ·rw [if_pos c24] at H
        have LMc24 := Aside0.mk c24
        clear c24
        obtain ⟨y204, hy204⟩ : ∃ y_ : List (S35), y_ = (x3_1 ++ [(⟨(rd_T35 l0_5 x21_1).f0, t201⟩ : S35)]) := ⟨_, rfl⟩
        replace H : (config_CanonK.l0 k1 y204 l0_5 (l0_5.length : Int) (wrap64 (x21_1 + 1)) a0_0 a0_1 t190 t193 t196 l0_5 a0_6 a0_7) = some (r1, r2, r3, r4, r5, r6, r7, r8) := by first | (rw [hy204]; with_reducible exact H) | (have H2_ := (Option.bind_some _ _).symm.trans H; rw [hy204]; with_reducible exact H2_) | (have H2_ := (Option.bind_some _ _).symm.trans H; with_reducible exact H2_) | with_reducible exact H | (rw [hy204]; exact H) | exact H
        have Ny204 := Aside0.mk hy204
        clear hy204
        have H' := Aside0.mk H
        clear H
        have p199 : 0 ≤ (x21_1 : Int) := of_decide_eq_true (by first | (with_reducible assumption) | assumption)
        have q199 : x21_1 < (l0_5.length : Int) := of_decide_eq_true (by first | (with_reducible assumption) | assumption)
        obtain ⟨ad199, A199_1, c199_1, e199, hx199_0, hx199_1, hl199_1, hi199_1⟩ := at_T35 HR0_5.out x21_1 p199 q199
        cases e199
        replace hx199_0 := (HB.out.cell (World.block_lt_of_cell? w _ hx199_0)).trans hx199_0
        replace hx199_1 := (HB.out.cell (World.block_lt_of_cell? w _ hx199_1)).trans hx199_1
        have HR199_1 := Aside0.mk hi199_1
        have HC199_1 := Aside0.mk hl199_1
        clear hi199_1 hl199_1
        replace p199 := eq_true p199
        replace q199 := eq_true q199
        try go_wp2_with (first | ((with_reducible refine gate_dst (N := 5) rfl ?_); refine box_event ?hg (N := 5) ?hd (cs := #[.string (⟨#[]⟩ : ByteArray), .slice none 0 0]) (t := 35) ?hr ?_; (case hd => rfl); (case hg => rfl); (case hr => first | (go_simp; done) | (go_simp; rfl)); intro gb200 hg w25 hbox hb; have n0_ := Aside0.mk (Kd.S_below (Kd.S_elderB (by (with_reducible repeat (first | apply Kd.S_alloc | apply Kd.S_drewN | apply Kd.S_drew)); exact HO_3.out) gb200 (Nat.le_of_eq hg.symm)) hb); have n1_ := Aside0.mk (Kd.R_below (by (with_reducible repeat (first | apply Kd.R_alloc | apply Kd.R_drewN | apply Kd.R_drew)); exact HO_189002.out) hb); have n2_ := Aside0.mk (Kd.R_below (by (with_reducible repeat (first | apply Kd.R_alloc | apply Kd.R_drewN | apply Kd.R_drew)); exact HO_189003.out) hb); have n3_ := Aside0.mk (Kd.R_below (by (with_reducible repeat (first | apply Kd.R_alloc | apply Kd.R_drewN | apply Kd.R_drew)); exact HO_189004.out) hb); have n4_ := Aside0.mk (blk_below (g := gb188) (o := .cells #[.bool a0_0, .bool a0_1, .slice Ao11 t190.length co11, .slice Ao13 t193.length co13, .slice Ao15 t196.length co15, .slice (some ad199) l0_5.length c0_5, .bool a0_6, .bool a0_7] 25 (0, 0)) (by (with_reducible repeat (first | refine blk_drewN ?_ _ | refine blk_drew ?_ | refine blk_alloc ?_ _)); exact BK188.out) hb); have n5_ := Aside0.mk (blk_below (g := gb189) (o := .cells #[.bool false, .bool false, .slice none 0 0, .slice none 0 0, .slice none 0 0, .slice none 0 0, .bool false, .bool false] 25 (0, 0)) (by (with_reducible repeat (first | refine blk_drewN ?_ _ | refine blk_drew ?_ | refine blk_alloc ?_ _)); exact BK189.out) hb); have n6_ := Aside0.mk (below_step (by repeat (first | (with_reducible first | exact HB.out | apply below_alloc | apply pw_below_drewN | apply below_drew1 | refine below_set ?_ GE188.out | refine below_set ?_ GE189.out) | exact HB.out)) hb); have n7_ := Aside0.mk (hbox); have n8_ := Aside0.mk ((by rw [hg]; exact (below_size (by repeat (first | (with_reducible first | exact HB.out | apply below_alloc | apply pw_below_drewN | apply below_drew1 | refine below_set ?_ GE188.out | refine below_set ?_ GE189.out) | exact HB.out))) : w.heap.size ≤ gb200)); have n9_ := Aside0.mk ((by rw [hg]; exact (below_size (by repeat (first | (with_reducible first | exact HB.out | apply below_alloc | apply pw_below_drewN | apply below_drew1 | refine below_set ?_ GE188.out | refine below_set ?_ GE189.out) | exact HB.out))) : w.heap.size ≤ gb200)); have n10_ := Aside0.mk ((by rw [hg]; exact Nat.ne_of_lt (blk_lt (g := gb188) (o := .cells #[.bool a0_0, .bool a0_1, .slice Ao11 t190.length co11, .slice Ao13 t193.length co13, .slice Ao15 t196.length co15, .slice (some ad199) l0_5.length c0_5, .bool a0_6, .bool a0_7] 25 (0, 0)) (by (with_reducible repeat (first | refine blk_drewN ?_ _ | refine blk_drew ?_ | refine blk_alloc ?_ _)); exact BK188.out)) : gb188 ≠ gb200)); have n11_ := Aside0.mk ((by rw [hg]; exact Nat.ne_of_gt (blk_lt (g := gb188) (o := .cells #[.bool a0_0, .bool a0_1, .slice Ao11 t190.length co11, .slice Ao13 t193.length co13, .slice Ao15 t196.length co15, .slice (some ad199) l0_5.length c0_5, .bool a0_6, .bool a0_7] 25 (0, 0)) (by (with_reducible repeat (first | refine blk_drewN ?_ _ | refine blk_drew ?_ | refine blk_alloc ?_ _)); exact BK188.out)) : gb200 ≠ gb188)); have n12_ := Aside0.mk ((by rw [hg]; exact Nat.ne_of_lt (blk_lt (g := gb189) (o := .cells #[.bool false, .bool false, .slice none 0 0, .slice none 0 0, .slice none 0 0, .slice none 0 0, .bool false, .bool false] 25 (0, 0)) (by (with_reducible repeat (first | refine blk_drewN ?_ _ | refine blk_drew ?_ | refine blk_alloc ?_ _)); exact BK189.out)) : gb189 ≠ gb200)); have n13_ := Aside0.mk ((by rw [hg]; exact Nat.ne_of_gt (blk_lt (g := gb189) (o := .cells #[.bool false, .bool false, .slice none 0 0, .slice none 0 0, .slice none 0 0, .slice none 0 0, .bool false, .bool false] 25 (0, 0)) (by (with_reducible repeat (first | refine blk_drewN ?_ _ | refine blk_drew ?_ | refine blk_alloc ?_ _)); exact BK189.out)) : gb200 ≠ gb189)); clear HO_3; clear HO_189002; clear HO_189003; clear HO_189004; clear BK188; clear BK189; clear HB; have HO_3 := n0_; have HO_189002 := n1_; have HO_189003 := n2_; have HO_189004 := n3_; have BK188 := n4_; have BK189 := n5_; have HB := n6_; have BK200 := n7_; have GW200 := n8_; have GE200 := n9_; have NB188_200 := n10_; have NB200_188 := n11_; have NB189_200 := n12_; have NB200_189 := n13_; clear n0_ n1_ n2_ n3_ n4_ n5_ n6_ n7_ n8_ n9_ n10_ n11_ n12_ n13_; clear hb hbox hg; have hnb26 := NB200_188.out; have hnc26 := NB188_200.out; have hnb27 := NB200_189.out; have hnc27 := NB189_200.out; have hcz28_0 : w25.cell? ⟨gb200, 0, none⟩ = some (.string (⟨#[]⟩ : ByteArray)) := (blk_cell BK200.out 0).trans rfl; have hcz28_1 : w25.cell? ⟨gb200, 1, none⟩ = some (.slice none 0 0) := (blk_cell BK200.out 1).trans rfl; have hfz28_0 := blk_frozen BK200.out 0; have hfz28_1 := blk_frozen BK200.out 1))
        have n0_ : Aside0 (Kd.S k35 35 ((w25.setCell ⟨gb200, 0, none⟩ (.string ((rd_T35 l0_5 x21_1).f0))).setCell ⟨gb200, 1, none⟩ (.slice A199_1 ((rd_T35 l0_5 x21_1).f1).length c199_1)) w.heap.size (fun k_ => some k_ ≠ (.slice Ao11 t190.length co11 : Value).ownBlock ∧ some k_ ≠ (.slice Ao13 t193.length co13 : Value).ownBlock ∧ some k_ ≠ (.slice Ao15 t196.length co15 : Value).ownBlock ∧ k_ ≠ gb200) u3 x3_1) := ⟨by (with_reducible repeat (first | apply Kd.S_alloc | apply Kd.S_drewN | apply Kd.S_drew)); exact Kd.S_mono (Kd.S_far (p := ⟨gb200, 1, none⟩) (Kd.S_far (p := ⟨gb200, 0, none⟩) (Kd.S_mono HO_3.out (fun k_ hk => (⟨hk, hk.2⟩ : _ ∧ k_ ≠ gb200))) (fun _ hk => hk.2) (.string ((rd_T35 l0_5 x21_1).f0))) (fun _ hk => hk.2) (.slice A199_1 ((rd_T35 l0_5 x21_1).f1).length c199_1)) (fun _ hk => ⟨hk.1.1.1, ⟨hk.1.1.2.1, ⟨hk.1.1.2.2, hk.1.2⟩⟩⟩)⟩
        have n1_ : Aside0 (Kd.R Kd.string 9 ((w25.setCell ⟨gb200, 0, none⟩ (.string ((rd_T35 l0_5 x21_1).f0))).setCell ⟨gb200, 1, none⟩ (.slice A199_1 ((rd_T35 l0_5 x21_1).f1).length c199_1)) w.heap.size (fun k_ => some k_ ≠ (.slice Ao13 t193.length co13 : Value).ownBlock ∧ some k_ ≠ (.slice Ao15 t196.length co15 : Value).ownBlock) (.slice Ao11 t190.length co11) t190) := ⟨by (with_reducible repeat (first | apply Kd.R_alloc | apply Kd.R_drewN | apply Kd.R_drew)); exact Kd.R_mono (Kd.R_far (p := ⟨gb200, 1, none⟩) (Kd.R_far (p := ⟨gb200, 0, none⟩) (Kd.R_types HO_189002.out BK200.out (by decide)) (fun _ hk => hk.2) (.string ((rd_T35 l0_5 x21_1).f0))) (fun _ hk => hk.2) (.slice A199_1 ((rd_T35 l0_5 x21_1).f1).length c199_1)) (fun _ hk => ⟨hk.1.1, hk.1.2⟩)⟩
        have n2_ : Aside0 (Kd.R Kd.string 9 ((w25.setCell ⟨gb200, 0, none⟩ (.string ((rd_T35 l0_5 x21_1).f0))).setCell ⟨gb200, 1, none⟩ (.slice A199_1 ((rd_T35 l0_5 x21_1).f1).length c199_1)) w.heap.size (fun k_ => some k_ ≠ (.slice Ao11 t190.length co11 : Value).ownBlock ∧ some k_ ≠ (.slice Ao15 t196.length co15 : Value).ownBlock) (.slice Ao13 t193.length co13) t193) := ⟨by (with_reducible repeat (first | apply Kd.R_alloc | apply Kd.R_drewN | apply Kd.R_drew)); exact Kd.R_mono (Kd.R_far (p := ⟨gb200, 1, none⟩) (Kd.R_far (p := ⟨gb200, 0, none⟩) (Kd.R_types HO_189003.out BK200.out (by decide)) (fun _ hk => hk.2) (.string ((rd_T35 l0_5 x21_1).f0))) (fun _ hk => hk.2) (.slice A199_1 ((rd_T35 l0_5 x21_1).f1).length c199_1)) (fun _ hk => ⟨hk.1.1, hk.1.2⟩)⟩
        have n3_ : Aside0 (Kd.R Kd.string 9 ((w25.setCell ⟨gb200, 0, none⟩ (.string ((rd_T35 l0_5 x21_1).f0))).setCell ⟨gb200, 1, none⟩ (.slice A199_1 ((rd_T35 l0_5 x21_1).f1).length c199_1)) w.heap.size (fun k_ => some k_ ≠ (.slice Ao11 t190.length co11 : Value).ownBlock ∧ some k_ ≠ (.slice Ao13 t193.length co13 : Value).ownBlock) (.slice Ao15 t196.length co15) t196) := ⟨by (with_reducible repeat (first | apply Kd.R_alloc | apply Kd.R_drewN | apply Kd.R_drew)); exact Kd.R_mono (Kd.R_far (p := ⟨gb200, 1, none⟩) (Kd.R_far (p := ⟨gb200, 0, none⟩) (Kd.R_types HO_189004.out BK200.out (by decide)) (fun _ hk => hk.2) (.string ((rd_T35 l0_5 x21_1).f0))) (fun _ hk => hk.2) (.slice A199_1 ((rd_T35 l0_5 x21_1).f1).length c199_1)) (fun _ hk => ⟨hk.1.1, hk.1.2⟩)⟩
        have n4_ : Aside0 (((w25.setCell ⟨gb200, 0, none⟩ (.string ((rd_T35 l0_5 x21_1).f0))).setCell ⟨gb200, 1, none⟩ (.slice A199_1 ((rd_T35 l0_5 x21_1).f1).length c199_1)).heap[gb188]? = some (.cells #[.bool a0_0, .bool a0_1, .slice Ao11 t190.length co11, .slice Ao13 t193.length co13, .slice Ao15 t196.length co15, .slice (some ad199) l0_5.length c0_5, .bool a0_6, .bool a0_7] 25 (0, 0))) := ⟨by (with_reducible repeat (first | refine blk_drewN ?_ _ | refine blk_drew ?_ | refine blk_alloc ?_ _)); refine blk_far ?_ NB188_200.out _; (with_reducible repeat (first | refine blk_drewN ?_ _ | refine blk_drew ?_ | refine blk_alloc ?_ _)); refine blk_far ?_ NB188_200.out _; (with_reducible repeat (first | refine blk_drewN ?_ _ | refine blk_drew ?_ | refine blk_alloc ?_ _)); exact BK188.out⟩
        have n5_ : Aside0 (((w25.setCell ⟨gb200, 0, none⟩ (.string ((rd_T35 l0_5 x21_1).f0))).setCell ⟨gb200, 1, none⟩ (.slice A199_1 ((rd_T35 l0_5 x21_1).f1).length c199_1)).heap[gb189]? = some (.cells #[.bool false, .bool false, .slice none 0 0, .slice none 0 0, .slice none 0 0, .slice none 0 0, .bool false, .bool false] 25 (0, 0))) := ⟨by (with_reducible repeat (first | refine blk_drewN ?_ _ | refine blk_drew ?_ | refine blk_alloc ?_ _)); refine blk_far ?_ NB189_200.out _; (with_reducible repeat (first | refine blk_drewN ?_ _ | refine blk_drew ?_ | refine blk_alloc ?_ _)); refine blk_far ?_ NB189_200.out _; (with_reducible repeat (first | refine blk_drewN ?_ _ | refine blk_drew ?_ | refine blk_alloc ?_ _)); exact BK189.out⟩
        have n6_ : Aside0 (((w25.setCell ⟨gb200, 0, none⟩ (.string ((rd_T35 l0_5 x21_1).f0))).setCell ⟨gb200, 1, none⟩ (.slice A199_1 ((rd_T35 l0_5 x21_1).f1).length c199_1)).heap[gb200]? = some (.cells #[.string ((rd_T35 l0_5 x21_1).f0), .slice A199_1 ((rd_T35 l0_5 x21_1).f1).length c199_1] 35 (0, 0))) := ⟨by (with_reducible repeat (first | refine blk_drewN ?_ _ | refine blk_drew ?_ | refine blk_alloc ?_ _)); refine blk_put (cs := #[.string ((rd_T35 l0_5 x21_1).f0), .slice none 0 0]) ?_ 1 _ rfl; (with_reducible repeat (first | refine blk_drewN ?_ _ | refine blk_drew ?_ | refine blk_alloc ?_ _)); refine blk_put (cs := #[.string (⟨#[]⟩ : ByteArray), .slice none 0 0]) ?_ 0 _ rfl; (with_reducible repeat (first | refine blk_drewN ?_ _ | refine blk_drew ?_ | refine blk_alloc ?_ _)); exact BK200.out⟩
        have n7_ : Aside0 (Below w.heap.size w ((w25.setCell ⟨gb200, 0, none⟩ (.string ((rd_T35 l0_5 x21_1).f0))).setCell ⟨gb200, 1, none⟩ (.slice A199_1 ((rd_T35 l0_5 x21_1).f1).length c199_1))) := ⟨by repeat (first | (with_reducible first | exact HB.out | apply below_alloc | apply pw_below_drewN | apply below_drew1 | refine below_set ?_ GE188.out | refine below_set ?_ GE189.out | refine below_set ?_ GE200.out) | exact HB.out)⟩
        (try clear HO_3)
        (try clear HO_189002)
        (try clear HO_189003)
        (try clear HO_189004)
        (try clear BK188)
        (try clear BK189)
        (try clear BK200)
        (try clear HB)
        generalize ((w25.setCell ⟨gb200, 0, none⟩ (.string ((rd_T35 l0_5 x21_1).f0))).setCell ⟨gb200, 1, none⟩ (.slice A199_1 ((rd_T35 l0_5 x21_1).f1).length c199_1)) = w29 at n0_ n1_ n2_ n3_ n4_ n5_ n6_ n7_ ⊢
        have HO_3 := n0_
        have HO_189002 := n1_
        have HO_189003 := n2_
        have HO_189004 := n3_
        have BK188 := n4_
        have BK189 := n5_
        have BK200 := n6_
        have HB := n7_
        clear n0_ n1_ n2_ n3_ n4_ n5_ n6_ n7_
        have n0_ := Aside0.mk (Kd.S_drew HO_3.out)
        have n1_ := Aside0.mk (Kd.R_drew HO_189002.out)
        have n2_ := Aside0.mk (Kd.R_drew HO_189003.out)
        have n3_ := Aside0.mk (Kd.R_drew HO_189004.out)
        have n4_ := Aside0.mk (blk_drew BK188.out)
        have n5_ := Aside0.mk (blk_drew BK189.out)
        have n6_ := Aside0.mk (blk_drew BK200.out)
        have n7_ := Aside0.mk (below_drew1 HB.out)
        clear HO_3
        clear HO_189002
        clear HO_189003
        clear HO_189004
        clear BK188
        clear BK189
        clear BK200
        clear HB
        have HO_3 := n0_
        have HO_189002 := n1_
        have HO_189003 := n2_
        have HO_189004 := n3_
        have BK188 := n4_
        have BK189 := n5_
        have BK200 := n6_
        have HB := n7_
        clear n0_ n1_ n2_ n3_ n4_ n5_ n6_ n7_
        refine start_ (n := 10) (S := fun w' => w'.cell? ⟨gb200, 0, none⟩ = some (.string ((rd_T35 l0_5 x21_1).f0)) ∧ w'.cell? ⟨gb200, 1, none⟩ = some (.slice A199_1 ((rd_T35 l0_5 x21_1).f1).length c199_1)) (ds := []) (tf 0 10) (by kernel_rfl) rfl rfl ⟨(blk_cell BK200.out 0).trans rfl, (blk_cell BK200.out 1).trans rfl⟩ (fun hHeld => ?_); refine with_tabW config_CanonK.tab7 config_CanonK.bits7 (fun HT_ HW_ => ?_)
        generalize w29.drew = w30 at HO_3 HO_189002 HO_189003 HO_189004 BK188 BK189 BK200 HB hHeld ⊢
        refine pure_ (i := 0) (N := some 29) (v := ?_) (a' := ?_) (tf 1 9) rfl rfl (any_of HT_.out (by kernel_rfl)) (fun _ _ _ h => h) (Or.inl ⟨by rfl, ?_⟩) ?_ ?_
        rotate_left
        ·intro w'
         go_simp
         with_reducible rfl
        rotate_left
        ·simp only [Act.put, List.setIfInBounds_toArray, List.set_cons_zero, List.set_cons_succ, i64_w, i32_w]
         rfl
        refine pure_ (i := 1) (N := some 30) (v := ?_) (a' := ?_) (tf 2 8) rfl rfl (any_of HT_.out (by kernel_rfl)) (fun _ _ _ h => h) (Or.inl ⟨by rfl, ?_⟩) ?_ ?_
        rotate_left
        ·intro w'
         go_simp
         with_reducible rfl
        rotate_left
        ·simp only [Act.put, List.setIfInBounds_toArray, List.set_cons_zero, List.set_cons_succ, i64_w, i32_w]
         rfl
        refine pure_ (i := 3) (N := some 32) (v := ?_) (a' := ?_) #[true, true, false, true, false, false, false, false, false, false] rfl rfl (any_of HT_.out (by kernel_rfl)) (fun _ _ _ h => h) (Or.inl ⟨by rfl, ?_⟩) ?_ ?_
        rotate_left
        ·intro w'
         go_simp
         with_reducible rfl
        rotate_left
        ·simp only [Act.put, List.setIfInBounds_toArray, List.set_cons_zero, List.set_cons_succ, i64_w, i32_w]
         rfl
        refine take_ (i := 2) (N := some 31) (v := ?_) (a' := ?_) (tf 4 6) rfl rfl (take_ofW HT_.out HW_.out (by kernel_rfl)) (fun _ _ _ h => h) (Or.inl ⟨by rfl, ?_⟩) hHeld ?_ ?_
        rotate_left
        ·rintro w' ⟨s0, s1⟩
         go_simp
         with_reducible rfl
        rotate_left
        ·simp only [Act.put, List.setIfInBounds_toArray, List.set_cons_zero, List.set_cons_succ, i64_w, i32_w]
         rfl
        refine take_ (i := 4) (N := some 33) (v := ?_) (a' := ?_) (tf 5 5) rfl rfl (take_ofW HT_.out HW_.out (by kernel_rfl)) (fun _ _ _ h => h) (Or.inl ⟨by rfl, ?_⟩) hHeld ?_ ?_
        rotate_left
        ·rintro w' ⟨s0, s1⟩
         go_simp
         with_reducible rfl
        rotate_left
        ·simp only [Act.put, List.setIfInBounds_toArray, List.set_cons_zero, List.set_cons_succ, i64_w, i32_w]
         rfl
        refine one_ (i := 5) (N := some 34) (tf 6 4) rfl rfl (one_of HT_.out (by kernel_rfl)) (by decide) (fun K hK => ?_)
        refine goes_ Try.func52 (by kernel_rfl) rfl #[.slice A199_1 ((rd_T35 l0_5 x21_1).f1).length c199_1] (by rfl) rfl rfl (by (try simp only [List.map_toArray, List.map_cons, List.map_nil]); first | done | rfl | (simp only [List.length_drop, List.length_take]; rfl)) ?_
        with_reducible refine (fold_Sorted.calls _ _ ((rd_T35 l0_5 x21_1).f1) t201 _ ?side1 ?side2 A23.out).mono ?_
        (case side1 => repeat (first | exact (Kd.C_below HR199_1.out HB.out) | (with_reducible refine Kd.C_alloc ?_ _) | (with_reducible refine Kd.C_drewN ?_ _) | (with_reducible refine Kd.C_drew ?_)))
        (case side2 => exact HC199_1.out)
        rintro e w31 ⟨v202, rfl, ho0, hb⟩
        refine ⟨_, rfl, ?_⟩
        have n0_ := Aside0.mk (Kd.S_elder' (by (with_reducible repeat (first | apply Kd.S_alloc | apply Kd.S_drewN | apply Kd.S_drew)); exact HO_3.out) (Kd.R_base ho0) hb)
        have n1_ := Aside0.mk (Kd.R_elder' (by (with_reducible repeat (first | apply Kd.R_alloc | apply Kd.R_drewN | apply Kd.R_drew)); exact HO_189002.out) (Kd.R_base ho0) hb)
        have n2_ := Aside0.mk (Kd.R_elder' (by (with_reducible repeat (first | apply Kd.R_alloc | apply Kd.R_drewN | apply Kd.R_drew)); exact HO_189003.out) (Kd.R_base ho0) hb)
        have n3_ := Aside0.mk (Kd.R_elder' (by (with_reducible repeat (first | apply Kd.R_alloc | apply Kd.R_drewN | apply Kd.R_drew)); exact HO_189004.out) (Kd.R_base ho0) hb)
        have n4_ := Aside0.mk (Kd.R_lower (Kd.R_new' (Kd.R_new' (Kd.R_new' ho0 (Kd.R_lt (by (with_reducible repeat (first | apply Kd.R_alloc | apply Kd.R_drewN | apply Kd.R_drew)); exact HO_189002.out))) (Kd.R_lt (by (with_reducible repeat (first | apply Kd.R_alloc | apply Kd.R_drewN | apply Kd.R_drew)); exact HO_189003.out))) (Kd.R_lt (by (with_reducible repeat (first | apply Kd.R_alloc | apply Kd.R_drewN | apply Kd.R_drew)); exact HO_189004.out))) (below_size (by repeat (first | (with_reducible first | exact HB.out | apply below_alloc | apply pw_below_drewN | apply below_drew1 | refine below_set ?_ GE188.out | refine below_set ?_ GE189.out | refine below_set ?_ GE200.out) | exact HB.out))))
        have n5_ := Aside0.mk (blk_below (g := gb188) (o := .cells #[.bool a0_0, .bool a0_1, .slice Ao11 t190.length co11, .slice Ao13 t193.length co13, .slice Ao15 t196.length co15, .slice (some ad199) l0_5.length c0_5, .bool a0_6, .bool a0_7] 25 (0, 0)) (by (with_reducible repeat (first | refine blk_drewN ?_ _ | refine blk_drew ?_ | refine blk_alloc ?_ _)); exact BK188.out) hb)
        have n6_ := Aside0.mk (blk_below (g := gb189) (o := .cells #[.bool false, .bool false, .slice none 0 0, .slice none 0 0, .slice none 0 0, .slice none 0 0, .bool false, .bool false] 25 (0, 0)) (by (with_reducible repeat (first | refine blk_drewN ?_ _ | refine blk_drew ?_ | refine blk_alloc ?_ _)); exact BK189.out) hb)
        have n7_ := Aside0.mk (blk_below (g := gb200) (o := .cells #[.string ((rd_T35 l0_5 x21_1).f0), .slice A199_1 ((rd_T35 l0_5 x21_1).f1).length c199_1] 35 (0, 0)) (by (with_reducible repeat (first | refine blk_drewN ?_ _ | refine blk_drew ?_ | refine blk_alloc ?_ _)); exact BK200.out) hb)
        have n8_ := Aside0.mk (below_step (by repeat (first | (with_reducible first | exact HB.out | apply below_alloc | apply pw_below_drewN | apply below_drew1 | refine below_set ?_ GE188.out | refine below_set ?_ GE189.out | refine below_set ?_ GE200.out) | exact HB.out)) hb)
        clear HO_3
        clear HO_189002
        clear HO_189003
        clear HO_189004
        clear BK188
        clear BK189
        clear BK200
        clear HB
        have HO_3 := n0_
        have HO_189002 := n1_
        have HO_189003 := n2_
        have HO_189004 := n3_
        have HO203 := n4_
        have BK188 := n5_
        have BK189 := n6_
        have BK200 := n7_
        have HB := n8_
        clear n0_ n1_ n2_ n3_ n4_ n5_ n6_ n7_ n8_
        (try clear hb)
        (try clear hb2)
        (try clear hk)
        (try clear hi)
        (try clear ho0)
        obtain ⟨Ao32, co32, eo32⟩ := Kd.R_slice HO203.out
        (first | subst eo32 | (injection eo32 with f1_ f2_ f3_; have f4_ := f1_.symm; have f5_ := f3_.symm; clear f1_ f2_ f3_; subst f4_; subst f5_))
        refine hK.out _ _ ⟨(blk_cell BK200.out 0).trans rfl, (blk_cell BK200.out 1).trans rfl⟩ (fun hHeld => ?_)
        clear hK K
        refine norm_ (a' := ?_) ?_ ?_
        rotate_left
        ·show Act.put _ (some 34) _ = _
         simp only [Act.put, List.setIfInBounds_toArray, List.set_cons_zero, List.set_cons_succ, i64_w, i32_w]
         rfl
        refine pure_ (i := 6) (N := some 35) (v := ?_) (a' := ?_) (tf 7 3) rfl rfl (any_of HT_.out (by kernel_rfl)) (fun _ _ _ h => h) (Or.inl ⟨by rfl, ?_⟩) ?_ ?_
        rotate_left
        ·intro w'
         go_simp
         with_reducible rfl
        rotate_left
        ·simp only [Act.put, List.setIfInBounds_toArray, List.set_cons_zero, List.set_cons_succ, i64_w, i32_w]
         rfl
        refine one_ (i := 7) (N := some 36) (tf 8 2) rfl rfl (one_of HT_.out (by kernel_rfl)) (by decide) (fun K hK => ?_)
        refine value_ (w1 := ?_) (v := ?_) (by rfl) rfl ?_ ?_
        rotate_left 2
        ·go_simp
         constructor
         ·rfl
         ·rfl
        refine hK.out _ _ ⟨(blk_cell (blk_alloc BK200.out _) 0).trans rfl, (blk_cell (blk_alloc BK200.out _) 1).trans rfl⟩ (fun hHeld => ?_)
        clear hK K
        refine norm_ (a' := ?_) ?_ ?_
        rotate_left
        ·show Act.put _ (some 36) _ = _
         simp only [Act.put, List.setIfInBounds_toArray, List.set_cons_zero, List.set_cons_succ, i64_w, i32_w]
         rfl
        refine one_ (i := 8) (N := some 37) (tf 9 1) rfl rfl (one_of HT_.out (by kernel_rfl)) (by decide) (fun K hK => ?_)
        refine Kd.S_append_step k35 (w0 := w) w.heap.size (by rfl) (.tmp 29) (.tmp 36) 23 35 (.agg #[(.string ⟨#[]⟩), (.slice none 0 0)]) 40 rfl Try.underlying23 info35 rfl (by decide) (by omega) u3 x3_1 (⟨(rd_T35 l0_5 x21_1).f0, t201⟩ : S35) [.string ((rd_T35 l0_5 x21_1).f0), .slice Ao32 t201.length co32] (fun k_ => some k_ ≠ (.slice Ao11 t190.length co11 : Value).ownBlock ∧ some k_ ≠ (.slice Ao13 t193.length co13 : Value).ownBlock ∧ some k_ ≠ (.slice Ao15 t196.length co15 : Value).ownBlock ∧ k_ ≠ gb200) (fun k_ => some k_ = (.slice Ao32 t201.length co32 : Value).ownBlock) rfl rfl ?aP (fun k_ hk_ => ((Kd.R_mono (ok' := fun k_ => ((fun k_ => some k_ ≠ (.slice Ao11 t190.length co11 : Value).ownBlock ∧ some k_ ≠ (.slice Ao13 t193.length co13 : Value).ownBlock ∧ some k_ ≠ (.slice Ao15 t196.length co15 : Value).ownBlock ∧ k_ ≠ gb200)) k_ ∧ some k_ ≠ (u3 : Value).ownBlock) (Kd.R_types (Kd.R_apart' (HO203.out) (Kd.S_typed HO_3.out) (by decide)) BK200.out (by decide)) (fun k_ hk => ⟨⟨hk.1.1.1.1.2, ⟨hk.1.1.1.2, ⟨hk.1.1.2, hk.2⟩⟩⟩, hk.1.2⟩))).1 k_ hk_.symm) ?aF ?aO ?aB ?aS ?aL ?_
        (case aP => exact k35_mkM _ _ _ (⟨(rd_T35 l0_5 x21_1).f0, t201⟩ : S35) (Kd.R_mono (Kd.R_tight rfl (Kd.R_mono (ok' := fun k_ => ((fun k_ => some k_ ≠ (.slice Ao11 t190.length co11 : Value).ownBlock ∧ some k_ ≠ (.slice Ao13 t193.length co13 : Value).ownBlock ∧ some k_ ≠ (.slice Ao15 t196.length co15 : Value).ownBlock ∧ k_ ≠ gb200)) k_ ∧ some k_ ≠ (u3 : Value).ownBlock) (Kd.R_types (Kd.R_apart' (HO203.out) (Kd.S_typed HO_3.out) (by decide)) BK200.out (by decide)) (fun k_ hk => ⟨⟨hk.1.1.1.1.2, ⟨hk.1.1.1.2, ⟨hk.1.1.2, hk.2⟩⟩⟩, hk.1.2⟩))) (fun _ h_ => h_)))
        (case aB => exact (by repeat (first | (with_reducible first | exact HB.out | apply below_alloc | apply pw_below_drewN | apply below_drew1 | refine below_set ?_ GE188.out | refine below_set ?_ GE189.out | refine below_set ?_ GE200.out) | exact HB.out)))
        (case aF => exact (fun k_ hk => ⟨Kd.fresh' (Kd.R_lt (by (with_reducible repeat (first | apply Kd.R_alloc | apply Kd.R_drewN | apply Kd.R_drew)); exact HO_189002.out)) k_ hk, Kd.fresh' (Kd.R_lt (by (with_reducible repeat (first | apply Kd.R_alloc | apply Kd.R_drewN | apply Kd.R_drew)); exact HO_189003.out)) k_ hk, Kd.fresh' (Kd.R_lt (by (with_reducible repeat (first | apply Kd.R_alloc | apply Kd.R_drewN | apply Kd.R_drew)); exact HO_189004.out)) k_ hk, Kd.freshB (g := gb200) (o := .cells #[.string ((rd_T35 l0_5 x21_1).f0), .slice A199_1 ((rd_T35 l0_5 x21_1).f1).length c199_1] 35 (0, 0)) (by (with_reducible repeat (first | refine blk_drewN ?_ _ | refine blk_drew ?_ | refine blk_alloc ?_ _)); exact BK200.out) k_ hk⟩))
        (case aO => exact (by (with_reducible repeat (first | apply Kd.S_alloc | apply Kd.S_drewN | apply Kd.S_drew)); exact Kd.S_mono HO_3.out (fun k_ hk => ⟨⟨hk.1.1, ⟨hk.1.2.1, ⟨hk.1.2.2.1, hk.1.2.2.2⟩⟩⟩, fun e_ => hk.2 e_⟩)))
        (case aS => exact (below_size (by repeat (first | (with_reducible first | exact HB.out | apply below_alloc | apply pw_below_drewN | apply below_drew1 | refine below_set ?_ GE188.out | refine below_set ?_ GE189.out | refine below_set ?_ GE200.out) | exact HB.out))))
        (case aL => have := LMc24.out; omega)
        intro v205 w33 ho hb hg hat
        rw [← Ny204.out] at ho
        have n0_ := Aside0.mk (Kd.R_over' (by (with_reducible repeat (first | apply Kd.R_alloc | apply Kd.R_drewN | apply Kd.R_drew)); exact HO_189002.out) (Kd.S_typed (by (with_reducible repeat (first | apply Kd.S_alloc | apply Kd.S_drewN | apply Kd.S_drew)); exact HO_3.out)) (by decide) hg)
        have n1_ := Aside0.mk (Kd.R_over' (by (with_reducible repeat (first | apply Kd.R_alloc | apply Kd.R_drewN | apply Kd.R_drew)); exact HO_189003.out) (Kd.S_typed (by (with_reducible repeat (first | apply Kd.S_alloc | apply Kd.S_drewN | apply Kd.S_drew)); exact HO_3.out)) (by decide) hg)
        have n2_ := Aside0.mk (Kd.R_over' (by (with_reducible repeat (first | apply Kd.R_alloc | apply Kd.R_drewN | apply Kd.R_drew)); exact HO_189004.out) (Kd.S_typed (by (with_reducible repeat (first | apply Kd.S_alloc | apply Kd.S_drewN | apply Kd.S_drew)); exact HO_3.out)) (by decide) hg)
        have n3_ := Aside0.mk (blk_grown (g := gb188) (o := .cells #[.bool a0_0, .bool a0_1, .slice Ao11 t190.length co11, .slice Ao13 t193.length co13, .slice Ao15 t196.length co15, .slice (some ad199) l0_5.length c0_5, .bool a0_6, .bool a0_7] 25 (0, 0)) (by (with_reducible repeat (first | refine blk_drewN ?_ _ | refine blk_drew ?_ | refine blk_alloc ?_ _)); exact BK188.out) hg (Kd.S_ne HO_3.out BK188.out (by decide)))
        have n4_ := Aside0.mk (blk_grown (g := gb189) (o := .cells #[.bool false, .bool false, .slice none 0 0, .slice none 0 0, .slice none 0 0, .slice none 0 0, .bool false, .bool false] 25 (0, 0)) (by (with_reducible repeat (first | refine blk_drewN ?_ _ | refine blk_drew ?_ | refine blk_alloc ?_ _)); exact BK189.out) hg (Kd.S_ne HO_3.out BK189.out (by decide)))
        have n5_ := Aside0.mk (blk_grown (g := gb200) (o := .cells #[.string ((rd_T35 l0_5 x21_1).f0), .slice A199_1 ((rd_T35 l0_5 x21_1).f1).length c199_1] 35 (0, 0)) (by (with_reducible repeat (first | refine blk_drewN ?_ _ | refine blk_drew ?_ | refine blk_alloc ?_ _)); exact BK200.out) hg (Kd.S_away HO_3.out (fun _ hk => hk.1.2.2.2)))
        have n6_ := Aside0.mk (hb)
        have n7_ := Aside0.mk (ho)
        clear HO_189002
        clear HO_189003
        clear HO_189004
        clear BK188
        clear BK189
        clear BK200
        clear HB
        clear HO_3
        clear HO203
        have HO_189002 := n0_
        have HO_189003 := n1_
        have HO_189004 := n2_
        have BK188 := n3_
        have BK189 := n4_
        have BK200 := n5_
        have HB := n6_
        have HO206 := n7_
        clear n0_ n1_ n2_ n3_ n4_ n5_ n6_ n7_
        clear ho hb hg hat
        refine hK.out _ _ ⟨(blk_cell BK200.out 0).trans rfl, (blk_cell BK200.out 1).trans rfl⟩ (fun hHeld => ?_)
        clear hK K
        refine norm_ (a' := ?_) ?_ ?_
        rotate_left
        ·show Act.put _ (some 37) _ = _
         simp only [Act.put, List.setIfInBounds_toArray, List.set_cons_zero, List.set_cons_succ, i64_w, i32_w]
         rfl
        refine pure_ (i := 9) (N := some 3) (v := ?_) (a' := ?_) (tf 10 0) rfl rfl (any_of HT_.out (by kernel_rfl)) (fun _ _ _ h => h) (Or.inl ⟨by rfl, ?_⟩) ?_ ?_
        rotate_left
        ·intro w'
         go_simp
         with_reducible rfl
        rotate_left
        ·simp only [Act.put, List.setIfInBounds_toArray, List.set_cons_zero, List.set_cons_succ, i64_w, i32_w]
         rfl
        refine done_ (done_of HT_.out (by kernel_rfl)) ?_
        try go_wp2
        go_roundg k1
        case measure => have := HK1.out; omega
        case rel => exact ⟨(y204), (wrap64 (x21_1 + 1)), (by first | rfl | (simp; done) | (simp [*]; done)), H', ⟨by have := HK1.out; omega⟩, ⟨by (with_reducible repeat (first | apply Kd.S_alloc | apply Kd.S_drewN | apply Kd.S_drew)); exact Kd.S_mono HO206.out (fun _ hk => ⟨hk.1, ⟨hk.2.1, hk.2.2.1⟩⟩)⟩, ⟨by (with_reducible repeat (first | apply Kd.R_alloc | apply Kd.R_drewN | apply Kd.R_drew)); exact Kd.R_mono HO_189002.out (fun _ hk => ⟨hk.1.1, hk.1.2⟩)⟩, ⟨by (with_reducible repeat (first | apply Kd.R_alloc | apply Kd.R_drewN | apply Kd.R_drew)); exact Kd.R_mono HO_189003.out (fun _ hk => ⟨hk.1.1, hk.1.2⟩)⟩, ⟨by (with_reducible repeat (first | apply Kd.R_alloc | apply Kd.R_drewN | apply Kd.R_drew)); exact Kd.R_mono HO_189004.out (fun _ hk => ⟨hk.1.1, hk.1.2⟩)⟩, ⟨by (with_reducible repeat (first | refine blk_drewN ?_ _ | refine blk_drew ?_ | refine blk_alloc ?_ _)); exact BK188.out⟩, ⟨by (with_reducible repeat (first | refine blk_drewN ?_ _ | refine blk_drew ?_ | refine blk_alloc ?_ _)); exact BK189.out⟩, ⟨by repeat (first | (with_reducible first | exact HB.out | apply below_alloc | apply pw_below_drewN | apply below_drew1 | refine below_set ?_ GE188.out | refine below_set ?_ GE189.out | refine below_set ?_ GE200.out) | exact HB.out)⟩⟩
       ·rw [if_neg c24] at H
        exact absurd H (by simp)
      ·rw [if_neg c22] at H
       have c22b0 : decide (0 < (((rd_T35 l0_5 x21_1).f1).length : Int)) = false := decide_eq_false c22
       have c22b1 : decide (0 < ((rd_T35 l0_5 x21_1).f1).length) = false := decide_eq_false (by omega)
       clear c22
       have H' := Aside0.mk H
       clear H
       have p199 : 0 ≤ (x21_1 : Int) := of_decide_eq_true (by first | (with_reducible assumption) | assumption)
       have q199 : x21_1 < (l0_5.length : Int) := of_decide_eq_true (by first | (with_reducible assumption) | assumption)
       obtain ⟨ad199, A199_1, c199_1, e199, hx199_0, hx199_1, hl199_1, hi199_1⟩ := at_T35 HR0_5.out x21_1 p199 q199
       cases e199
       replace hx199_0 := (HB.out.cell (World.block_lt_of_cell? w _ hx199_0)).trans hx199_0
       replace hx199_1 := (HB.out.cell (World.block_lt_of_cell? w _ hx199_1)).trans hx199_1
       have HR199_1 := Aside0.mk hi199_1
       have HC199_1 := Aside0.mk hl199_1
       clear hi199_1 hl199_1
       replace p199 := eq_true p199
       replace q199 := eq_true q199
       go_wp2_with (first | ((with_reducible refine gate_dst (N := 5) rfl ?_); refine box_event ?hg (N := 5) ?hd (cs := #[.string (⟨#[]⟩ : ByteArray), .slice none 0 0]) (t := 35) ?hr ?_; (case hd => rfl); (case hg => rfl); (case hr => first | (go_simp; done) | (go_simp; rfl)); intro gb200 hg w34 hbox hb; have n0_ := Aside0.mk (Kd.S_below (Kd.S_elderB (by (with_reducible repeat (first | apply Kd.S_alloc | apply Kd.S_drewN | apply Kd.S_drew)); exact HO_3.out) gb200 (Nat.le_of_eq hg.symm)) hb); have n1_ := Aside0.mk (Kd.R_below (by (with_reducible repeat (first | apply Kd.R_alloc | apply Kd.R_drewN | apply Kd.R_drew)); exact HO_189002.out) hb); have n2_ := Aside0.mk (Kd.R_below (by (with_reducible repeat (first | apply Kd.R_alloc | apply Kd.R_drewN | apply Kd.R_drew)); exact HO_189003.out) hb); have n3_ := Aside0.mk (Kd.R_below (by (with_reducible repeat (first | apply Kd.R_alloc | apply Kd.R_drewN | apply Kd.R_drew)); exact HO_189004.out) hb); have n4_ := Aside0.mk (blk_below (g := gb188) (o := .cells #[.bool a0_0, .bool a0_1, .slice Ao11 t190.length co11, .slice Ao13 t193.length co13, .slice Ao15 t196.length co15, .slice (some ad199) l0_5.length c0_5, .bool a0_6, .bool a0_7] 25 (0, 0)) (by (with_reducible repeat (first | refine blk_drewN ?_ _ | refine blk_drew ?_ | refine blk_alloc ?_ _)); exact BK188.out) hb); have n5_ := Aside0.mk (blk_below (g := gb189) (o := .cells #[.bool false, .bool false, .slice none 0 0, .slice none 0 0, .slice none 0 0, .slice none 0 0, .bool false, .bool false] 25 (0, 0)) (by (with_reducible repeat (first | refine blk_drewN ?_ _ | refine blk_drew ?_ | refine blk_alloc ?_ _)); exact BK189.out) hb); have n6_ := Aside0.mk (below_step (by repeat (first | (with_reducible first | exact HB.out | apply below_alloc | apply pw_below_drewN | apply below_drew1 | refine below_set ?_ GE188.out | refine below_set ?_ GE189.out) | exact HB.out)) hb); have n7_ := Aside0.mk (hbox); have n8_ := Aside0.mk ((by rw [hg]; exact (below_size (by repeat (first | (with_reducible first | exact HB.out | apply below_alloc | apply pw_below_drewN | apply below_drew1 | refine below_set ?_ GE188.out | refine below_set ?_ GE189.out) | exact HB.out))) : w.heap.size ≤ gb200)); have n9_ := Aside0.mk ((by rw [hg]; exact (below_size (by repeat (first | (with_reducible first | exact HB.out | apply below_alloc | apply pw_below_drewN | apply below_drew1 | refine below_set ?_ GE188.out | refine below_set ?_ GE189.out) | exact HB.out))) : w.heap.size ≤ gb200)); have n10_ := Aside0.mk ((by rw [hg]; exact Nat.ne_of_lt (blk_lt (g := gb188) (o := .cells #[.bool a0_0, .bool a0_1, .slice Ao11 t190.length co11, .slice Ao13 t193.length co13, .slice Ao15 t196.length co15, .slice (some ad199) l0_5.length c0_5, .bool a0_6, .bool a0_7] 25 (0, 0)) (by (with_reducible repeat (first | refine blk_drewN ?_ _ | refine blk_drew ?_ | refine blk_alloc ?_ _)); exact BK188.out)) : gb188 ≠ gb200)); have n11_ := Aside0.mk ((by rw [hg]; exact Nat.ne_of_gt (blk_lt (g := gb188) (o := .cells #[.bool a0_0, .bool a0_1, .slice Ao11 t190.length co11, .slice Ao13 t193.length co13, .slice Ao15 t196.length co15, .slice (some ad199) l0_5.length c0_5, .bool a0_6, .bool a0_7] 25 (0, 0)) (by (with_reducible repeat (first | refine blk_drewN ?_ _ | refine blk_drew ?_ | refine blk_alloc ?_ _)); exact BK188.out)) : gb200 ≠ gb188)); have n12_ := Aside0.mk ((by rw [hg]; exact Nat.ne_of_lt (blk_lt (g := gb189) (o := .cells #[.bool false, .bool false, .slice none 0 0, .slice none 0 0, .slice none 0 0, .slice none 0 0, .bool false, .bool false] 25 (0, 0)) (by (with_reducible repeat (first | refine blk_drewN ?_ _ | refine blk_drew ?_ | refine blk_alloc ?_ _)); exact BK189.out)) : gb189 ≠ gb200)); have n13_ := Aside0.mk ((by rw [hg]; exact Nat.ne_of_gt (blk_lt (g := gb189) (o := .cells #[.bool false, .bool false, .slice none 0 0, .slice none 0 0, .slice none 0 0, .slice none 0 0, .bool false, .bool false] 25 (0, 0)) (by (with_reducible repeat (first | refine blk_drewN ?_ _ | refine blk_drew ?_ | refine blk_alloc ?_ _)); exact BK189.out)) : gb200 ≠ gb189)); clear HO_3; clear HO_189002; clear HO_189003; clear HO_189004; clear BK188; clear BK189; clear HB; have HO_3 := n0_; have HO_189002 := n1_; have HO_189003 := n2_; have HO_189004 := n3_; have BK188 := n4_; have BK189 := n5_; have HB := n6_; have BK200 := n7_; have GW200 := n8_; have GE200 := n9_; have NB188_200 := n10_; have NB200_188 := n11_; have NB189_200 := n12_; have NB200_189 := n13_; clear n0_ n1_ n2_ n3_ n4_ n5_ n6_ n7_ n8_ n9_ n10_ n11_ n12_ n13_; clear hb hbox hg; have hnb35 := NB200_188.out; have hnc35 := NB188_200.out; have hnb36 := NB200_189.out; have hnc36 := NB189_200.out; have hcz37_0 : w34.cell? ⟨gb200, 0, none⟩ = some (.string (⟨#[]⟩ : ByteArray)) := (blk_cell BK200.out 0).trans rfl; have hcz37_1 : w34.cell? ⟨gb200, 1, none⟩ = some (.slice none 0 0) := (blk_cell BK200.out 1).trans rfl; have hfz37_0 := blk_frozen BK200.out 0; have hfz37_1 := blk_frozen BK200.out 1))
       go_roundg k1
       case measure => have := HK1.out; omega
       case rel => exact ⟨(x3_1), (wrap64 (x21_1 + 1)), (by first | rfl | (simp; done) | (simp [*]; done)), H', ⟨by have := HK1.out; omega⟩, ⟨by (with_reducible repeat (first | apply Kd.S_alloc | apply Kd.S_drewN | apply Kd.S_drew)); exact Kd.S_mono (Kd.S_far (p := ⟨gb200, 1, none⟩) (Kd.S_far (p := ⟨gb200, 0, none⟩) (Kd.S_mono HO_3.out (fun k_ hk => (⟨hk, hk.2⟩ : _ ∧ k_ ≠ gb200))) (fun _ hk => hk.2) (.string ((rd_T35 l0_5 x21_1).f0))) (fun _ hk => hk.2) (.slice A199_1 ((rd_T35 l0_5 x21_1).f1).length c199_1)) (fun _ hk => ⟨hk.1.1.1, ⟨hk.1.1.2.1, hk.1.1.2.2⟩⟩)⟩, ⟨by (with_reducible repeat (first | apply Kd.R_alloc | apply Kd.R_drewN | apply Kd.R_drew)); exact Kd.R_mono (Kd.R_far (p := ⟨gb200, 1, none⟩) (Kd.R_far (p := ⟨gb200, 0, none⟩) (Kd.R_types HO_189002.out BK200.out (by decide)) (fun _ hk => hk.2) (.string ((rd_T35 l0_5 x21_1).f0))) (fun _ hk => hk.2) (.slice A199_1 ((rd_T35 l0_5 x21_1).f1).length c199_1)) (fun _ hk => ⟨hk.1.1, hk.1.2⟩)⟩, ⟨by (with_reducible repeat (first | apply Kd.R_alloc | apply Kd.R_drewN | apply Kd.R_drew)); exact Kd.R_mono (Kd.R_far (p := ⟨gb200, 1, none⟩) (Kd.R_far (p := ⟨gb200, 0, none⟩) (Kd.R_types HO_189003.out BK200.out (by decide)) (fun _ hk => hk.2) (.string ((rd_T35 l0_5 x21_1).f0))) (fun _ hk => hk.2) (.slice A199_1 ((rd_T35 l0_5 x21_1).f1).length c199_1)) (fun _ hk => ⟨hk.1.1, hk.1.2⟩)⟩, ⟨by (with_reducible repeat (first | apply Kd.R_alloc | apply Kd.R_drewN | apply Kd.R_drew)); exact Kd.R_mono (Kd.R_far (p := ⟨gb200, 1, none⟩) (Kd.R_far (p := ⟨gb200, 0, none⟩) (Kd.R_types HO_189004.out BK200.out (by decide)) (fun _ hk => hk.2) (.string ((rd_T35 l0_5 x21_1).f0))) (fun _ hk => hk.2) (.slice A199_1 ((rd_T35 l0_5 x21_1).f1).length c199_1)) (fun _ hk => ⟨hk.1.1, hk.1.2⟩)⟩, ⟨by (with_reducible repeat (first | refine blk_drewN ?_ _ | refine blk_drew ?_ | refine blk_alloc ?_ _)); refine blk_far ?_ NB188_200.out _; (with_reducible repeat (first | refine blk_drewN ?_ _ | refine blk_drew ?_ | refine blk_alloc ?_ _)); refine blk_far ?_ NB188_200.out _; (with_reducible repeat (first | refine blk_drewN ?_ _ | refine blk_drew ?_ | refine blk_alloc ?_ _)); exact BK188.out⟩, ⟨by (with_reducible repeat (first | refine blk_drewN ?_ _ | refine blk_drew ?_ | refine blk_alloc ?_ _)); refine blk_far ?_ NB189_200.out _; (with_reducible repeat (first | refine blk_drewN ?_ _ | refine blk_drew ?_ | refine blk_alloc ?_ _)); refine blk_far ?_ NB189_200.out _; (with_reducible repeat (first | refine blk_drewN ?_ _ | refine blk_drew ?_ | refine blk_alloc ?_ _)); exact BK189.out⟩, ⟨by repeat (first | (with_reducible first | exact HB.out | apply below_alloc | apply pw_below_drewN | apply below_drew1 | refine below_set ?_ GE188.out | refine below_set ?_ GE189.out | refine below_set ?_ GE200.out) | exact HB.out)⟩⟩
     ·rw [if_neg c21] at H
      exact absurd H (by simp)
    ·rw [if_neg c20] at H
     exact absurd H (by simp)
   ·rw [if_neg c19] at H
    have c19b0 : decide (x21_1 < (l0_5.length : Int)) = false := decide_eq_false c19
    clear c19
    by_cases c38 : x3_1.length < 20
    ·rw [if_pos c38] at H
     have LMc38 := Aside0.mk c38
     clear c38
     obtain ⟨y207, hy207⟩ : ∃ y_ : List (S35), y_ = (sortP x3_1) := ⟨_, rfl⟩
     replace H : (some (a0_0, a0_1, t190, t193, t196, y207, a0_6, a0_7)) = some (r1, r2, r3, r4, r5, r6, r7, r8) := by first | (rw [hy207]; with_reducible exact H) | (have H2_ := (Option.bind_some _ _).symm.trans H; rw [hy207]; with_reducible exact H2_) | (have H2_ := (Option.bind_some _ _).symm.trans H; with_reducible exact H2_) | with_reducible exact H | (rw [hy207]; exact H) | exact H
     have Ny207 := Aside0.mk hy207
     clear hy207
     simp only [Option.some.injEq, Prod.mk.injEq] at H
     obtain ⟨rfl, rfl, rfl, rfl, rfl, rfl, rfl, rfl⟩ := H
     go_wp2_with (first | ((with_reducible refine gate_callee (f := 53) rfl ?_); refine goesL_ (some 40) rfl rfl Try.func53 (by kernel_rfl) rfl #[u3, .func (.func 54) #[] #[]] rfl (by (try simp only [List.map_toArray, List.map_cons, List.map_nil]); first | done | rfl) ?_; refine sort_step (w0 := w) w.heap.size u3 x3_1 (fun k_ => some k_ ≠ (.slice Ao11 t190.length co11 : Value).ownBlock ∧ some k_ ≠ (.slice Ao13 t193.length co13 : Value).ownBlock ∧ some k_ ≠ (.slice Ao15 t196.length co15 : Value).ownBlock) ?aO ?aL ?aB ?aS ?_; (case aB => exact (by repeat (first | (with_reducible first | exact HB.out | apply below_alloc | apply pw_below_drewN | apply below_drew1 | refine below_set ?_ GE188.out | refine below_set ?_ GE189.out) | exact HB.out))); (case aO => exact (by (with_reducible repeat (first | apply Kd.S_alloc | apply Kd.S_drewN | apply Kd.S_drew)); exact Kd.S_mono HO_3.out (fun k_ hk => ⟨hk.1, ⟨hk.2.1, hk.2.2⟩⟩))); (case aS => exact (below_size (by repeat (first | (with_reducible first | exact HB.out | apply below_alloc | apply pw_below_drewN | apply below_drew1 | refine below_set ?_ GE188.out | refine below_set ?_ GE189.out) | exact HB.out)))); (case aL => have := LMc38.out; omega); intro w39 ho hb hg; refine ⟨_, rfl, ?_⟩; rw [← Ny207.out] at ho; have n0_ := Aside0.mk (Kd.R_over' (by (with_reducible repeat (first | apply Kd.R_alloc | apply Kd.R_drewN | apply Kd.R_drew)); exact HO_189002.out) (Kd.S_typed (by (with_reducible repeat (first | apply Kd.S_alloc | apply Kd.S_drewN | apply Kd.S_drew)); exact HO_3.out)) (by decide) hg); have n1_ := Aside0.mk (Kd.R_over' (by (with_reducible repeat (first | apply Kd.R_alloc | apply Kd.R_drewN | apply Kd.R_drew)); exact HO_189003.out) (Kd.S_typed (by (with_reducible repeat (first | apply Kd.S_alloc | apply Kd.S_drewN | apply Kd.S_drew)); exact HO_3.out)) (by decide) hg); have n2_ := Aside0.mk (Kd.R_over' (by (with_reducible repeat (first | apply Kd.R_alloc | apply Kd.R_drewN | apply Kd.R_drew)); exact HO_189004.out) (Kd.S_typed (by (with_reducible repeat (first | apply Kd.S_alloc | apply Kd.S_drewN | apply Kd.S_drew)); exact HO_3.out)) (by decide) hg); have n3_ := Aside0.mk (blk_grown (g := gb188) (o := .cells #[.bool a0_0, .bool a0_1, .slice Ao11 t190.length co11, .slice Ao13 t193.length co13, .slice Ao15 t196.length co15, .slice A0_5 l0_5.length c0_5, .bool a0_6, .bool a0_7] 25 (0, 0)) (by (with_reducible repeat (first | refine blk_drewN ?_ _ | refine blk_drew ?_ | refine blk_alloc ?_ _)); exact BK188.out) hg (Kd.S_ne HO_3.out BK188.out (by decide))); have n4_ := Aside0.mk (blk_grown (g := gb189) (o := .cells #[.bool false, .bool false, .slice none 0 0, .slice none 0 0, .slice none 0 0, .slice none 0 0, .bool false, .bool false] 25 (0, 0)) (by (with_reducible repeat (first | refine blk_drewN ?_ _ | refine blk_drew ?_ | refine blk_alloc ?_ _)); exact BK189.out) hg (Kd.S_ne HO_3.out BK189.out (by decide))); have n5_ := Aside0.mk (hb); have n6_ := Aside0.mk (ho); clear HO_189002; clear HO_189003; clear HO_189004; clear BK188; clear BK189; clear HB; clear HO_3; have HO_189002 := n0_; have HO_189003 := n1_; have HO_189004 := n2_; have BK188 := n3_; have BK189 := n4_; have HB := n5_; have HO209 := n6_; clear n0_ n1_ n2_ n3_ n4_ n5_ n6_; clear ho hb hg; obtain ⟨Ao40, co40, eo40⟩ := Kd.R_slice HO209.out; subst eo40; have hnb41 := NB188_189.out; have hnc41 := NB189_188.out; have hcz42_0 : w39.cell? ⟨gb188, 0, none⟩ = some (.bool a0_0) := (blk_cell BK188.out 0).trans rfl; have hcz42_1 : w39.cell? ⟨gb188, 1, none⟩ = some (.bool a0_1) := (blk_cell BK188.out 1).trans rfl; have hcz42_2 : w39.cell? ⟨gb188, 2, none⟩ = some (.slice Ao11 t190.length co11) := (blk_cell BK188.out 2).trans rfl; have hcz42_3 : w39.cell? ⟨gb188, 3, none⟩ = some (.slice Ao13 t193.length co13) := (blk_cell BK188.out 3).trans rfl; have hcz42_4 : w39.cell? ⟨gb188, 4, none⟩ = some (.slice Ao15 t196.length co15) := (blk_cell BK188.out 4).trans rfl; have hcz42_5 : w39.cell? ⟨gb188, 5, none⟩ = some (.slice A0_5 l0_5.length c0_5) := (blk_cell BK188.out 5).trans rfl; have hcz42_6 : w39.cell? ⟨gb188, 6, none⟩ = some (.bool a0_6) := (blk_cell BK188.out 6).trans rfl; have hcz42_7 : w39.cell? ⟨gb188, 7, none⟩ = some (.bool a0_7) := (blk_cell BK188.out 7).trans rfl; have hfz42_0 := blk_frozen BK188.out 0; have hfz42_1 := blk_frozen BK188.out 1; have hfz42_2 := blk_frozen BK188.out 2; have hfz42_3 := blk_frozen BK188.out 3; have hfz42_4 := blk_frozen BK188.out 4; have hfz42_5 := blk_frozen BK188.out 5; have hfz42_6 := blk_frozen BK188.out 6; have hfz42_7 := blk_frozen BK188.out 7; have hcz43_0 : w39.cell? ⟨gb189, 0, none⟩ = some (.bool false) := (blk_cell BK189.out 0).trans rfl; have hcz43_1 : w39.cell? ⟨gb189, 1, none⟩ = some (.bool false) := (blk_cell BK189.out 1).trans rfl; have hcz43_2 : w39.cell? ⟨gb189, 2, none⟩ = some (.slice none 0 0) := (blk_cell BK189.out 2).trans rfl; have hcz43_3 : w39.cell? ⟨gb189, 3, none⟩ = some (.slice none 0 0) := (blk_cell BK189.out 3).trans rfl; have hcz43_4 : w39.cell? ⟨gb189, 4, none⟩ = some (.slice none 0 0) := (blk_cell BK189.out 4).trans rfl; have hcz43_5 : w39.cell? ⟨gb189, 5, none⟩ = some (.slice none 0 0) := (blk_cell BK189.out 5).trans rfl; have hcz43_6 : w39.cell? ⟨gb189, 6, none⟩ = some (.bool false) := (blk_cell BK189.out 6).trans rfl; have hcz43_7 : w39.cell? ⟨gb189, 7, none⟩ = some (.bool false) := (blk_cell BK189.out 7).trans rfl; have hfz43_0 := blk_frozen BK189.out 0; have hfz43_1 := blk_frozen BK189.out 1; have hfz43_2 := blk_frozen BK189.out 2; have hfz43_3 := blk_frozen BK189.out 3; have hfz43_4 := blk_frozen BK189.out 4; have hfz43_5 := blk_frozen BK189.out 5; have hfz43_6 := blk_frozen BK189.out 6; have hfz43_7 := blk_frozen BK189.out 7))
     refine bodyPost_ret (results_cell_row rfl _ _ gb189 25 #[.bool a0_0, .bool a0_1, .slice Ao11 t190.length co11, .slice Ao13 t193.length co13, .slice Ao15 t196.length co15, .slice Ao40 y207.length co40, .bool a0_6, .bool a0_7] (0, 0) _ rfl (by (with_reducible repeat (first | refine blk_drewN ?_ _ | refine blk_drew ?_ | refine blk_alloc ?_ _)); refine blk_put (cs := #[.bool a0_0, .bool a0_1, .slice Ao11 t190.length co11, .slice Ao13 t193.length co13, .slice Ao15 t196.length co15, .slice Ao40 y207.length co40, .bool a0_6, .bool false]) ?_ 7 _ rfl; (with_reducible repeat (first | refine blk_drewN ?_ _ | refine blk_drew ?_ | refine blk_alloc ?_ _)); refine blk_put (cs := #[.bool a0_0, .bool a0_1, .slice Ao11 t190.length co11, .slice Ao13 t193.length co13, .slice Ao15 t196.length co15, .slice Ao40 y207.length co40, .bool false, .bool false]) ?_ 6 _ rfl; (with_reducible repeat (first | refine blk_drewN ?_ _ | refine blk_drew ?_ | refine blk_alloc ?_ _)); refine blk_put (cs := #[.bool a0_0, .bool a0_1, .slice Ao11 t190.length co11, .slice Ao13 t193.length co13, .slice Ao15 t196.length co15, .slice none 0 0, .bool false, .bool false]) ?_ 5 _ rfl; (with_reducible repeat (first | refine blk_drewN ?_ _ | refine blk_drew ?_ | refine blk_alloc ?_ _)); refine blk_put (cs := #[.bool a0_0, .bool a0_1, .slice Ao11 t190.length co11, .slice Ao13 t193.length co13, .slice none 0 0, .slice none 0 0, .bool false, .bool false]) ?_ 4 _ rfl; (with_reducible repeat (first | refine blk_drewN ?_ _ | refine blk_drew ?_ | refine blk_alloc ?_ _)); refine blk_put (cs := #[.bool a0_0, .bool a0_1, .slice Ao11 t190.length co11, .slice none 0 0, .slice none 0 0, .slice none 0 0, .bool false, .bool false]) ?_ 3 _ rfl; (with_reducible repeat (first | refine blk_drewN ?_ _ | refine blk_drew ?_ | refine blk_alloc ?_ _)); refine blk_put (cs := #[.bool a0_0, .bool a0_1, .slice none 0 0, .slice none 0 0, .slice none 0 0, .slice none 0 0, .bool false, .bool false]) ?_ 2 _ rfl; (with_reducible repeat (first | refine blk_drewN ?_ _ | refine blk_drew ?_ | refine blk_alloc ?_ _)); refine blk_put (cs := #[.bool a0_0, .bool false, .slice none 0 0, .slice none 0 0, .slice none 0 0, .slice none 0 0, .bool false, .bool false]) ?_ 1 _ rfl; (with_reducible repeat (first | refine blk_drewN ?_ _ | refine blk_drew ?_ | refine blk_alloc ?_ _)); refine blk_put (cs := #[.bool false, .bool false, .slice none 0 0, .slice none 0 0, .slice none 0 0, .slice none 0 0, .bool false, .bool false]) ?_ 0 _ rfl; (with_reducible repeat (first | refine blk_drewN ?_ _ | refine blk_drew ?_ | refine blk_alloc ?_ _)); refine blk_far ?_ NB189_188.out _; (with_reducible repeat (first | refine blk_drewN ?_ _ | refine blk_drew ?_ | refine blk_alloc ?_ _)); exact BK189.out) Try.underlying25 rfl (by kernel_rfl)) rfl ?_
     exact ⟨_, _, _, _, by first | rfl | (simp [errW_none, errW_some] <;> rfl) | (simp [*, errW_none, errW_some] <;> rfl), by (with_reducible repeat (first | apply Kd.R_alloc | apply Kd.R_drewN | apply Kd.R_drew)); exact Kd.R_mono (Kd.R_far (p := ⟨gb189, 7, none⟩) (Kd.R_far (p := ⟨gb189, 6, none⟩) (Kd.R_far (p := ⟨gb189, 5, none⟩) (Kd.R_far (p := ⟨gb189, 4, none⟩) (Kd.R_far (p := ⟨gb189, 3, none⟩) (Kd.R_far (p := ⟨gb189, 2, none⟩) (Kd.R_far (p := ⟨gb189, 1, none⟩) (Kd.R_far (p := ⟨gb189, 0, none⟩) (Kd.R_far (p := ⟨gb188, 5, none⟩) (Kd.R_types (Kd.R_types HO_189002.out BK188.out (by decide)) BK189.out (by decide)) (fun _ hk => hk.1.2) (.slice Ao40 y207.length co40)) (fun _ hk => hk.2) (.bool a0_0)) (fun _ hk => hk.2) (.bool a0_1)) (fun _ hk => hk.2) (.slice Ao11 t190.length co11)) (fun _ hk => hk.2) (.slice Ao13 t193.length co13)) (fun _ hk => hk.2) (.slice Ao15 t196.length co15)) (fun _ hk => hk.2) (.slice Ao40 y207.length co40)) (fun _ hk => hk.2) (.bool a0_6)) (fun _ hk => hk.2) (.bool a0_7)) (fun _ hk => ⟨hk.1.1.1, hk.1.1.2⟩), by (with_reducible repeat (first | apply Kd.R_alloc | apply Kd.R_drewN | apply Kd.R_drew)); exact Kd.R_mono (Kd.R_far (p := ⟨gb189, 7, none⟩) (Kd.R_far (p := ⟨gb189, 6, none⟩) (Kd.R_far (p := ⟨gb189, 5, none⟩) (Kd.R_far (p := ⟨gb189, 4, none⟩) (Kd.R_far (p := ⟨gb189, 3, none⟩) (Kd.R_far (p := ⟨gb189, 2, none⟩) (Kd.R_far (p := ⟨gb189, 1, none⟩) (Kd.R_far (p := ⟨gb189, 0, none⟩) (Kd.R_far (p := ⟨gb188, 5, none⟩) (Kd.R_types (Kd.R_types HO_189003.out BK188.out (by decide)) BK189.out (by decide)) (fun _ hk => hk.1.2) (.slice Ao40 y207.length co40)) (fun _ hk => hk.2) (.bool a0_0)) (fun _ hk => hk.2) (.bool a0_1)) (fun _ hk => hk.2) (.slice Ao11 t190.length co11)) (fun _ hk => hk.2) (.slice Ao13 t193.length co13)) (fun _ hk => hk.2) (.slice Ao15 t196.length co15)) (fun _ hk => hk.2) (.slice Ao40 y207.length co40)) (fun _ hk => hk.2) (.bool a0_6)) (fun _ hk => hk.2) (.bool a0_7)) (fun _ hk => ⟨hk.1.1.1, hk.1.1.2⟩), by (with_reducible repeat (first | apply Kd.R_alloc | apply Kd.R_drewN | apply Kd.R_drew)); exact Kd.R_mono (Kd.R_far (p := ⟨gb189, 7, none⟩) (Kd.R_far (p := ⟨gb189, 6, none⟩) (Kd.R_far (p := ⟨gb189, 5, none⟩) (Kd.R_far (p := ⟨gb189, 4, none⟩) (Kd.R_far (p := ⟨gb189, 3, none⟩) (Kd.R_far (p := ⟨gb189, 2, none⟩) (Kd.R_far (p := ⟨gb189, 1, none⟩) (Kd.R_far (p := ⟨gb189, 0, none⟩) (Kd.R_far (p := ⟨gb188, 5, none⟩) (Kd.R_types (Kd.R_types HO_189004.out BK188.out (by decide)) BK189.out (by decide)) (fun _ hk => hk.1.2) (.slice Ao40 y207.length co40)) (fun _ hk => hk.2) (.bool a0_0)) (fun _ hk => hk.2) (.bool a0_1)) (fun _ hk => hk.2) (.slice Ao11 t190.length co11)) (fun _ hk => hk.2) (.slice Ao13 t193.length co13)) (fun _ hk => hk.2) (.slice Ao15 t196.length co15)) (fun _ hk => hk.2) (.slice Ao40 y207.length co40)) (fun _ hk => hk.2) (.bool a0_6)) (fun _ hk => hk.2) (.bool a0_7)) (fun _ hk => ⟨hk.1.1.1, hk.1.1.2⟩), by (with_reducible repeat (first | apply Kd.R_alloc | apply Kd.R_drewN | apply Kd.R_drew)); exact Kd.R_mono (Kd.R_far (p := ⟨gb189, 7, none⟩) (Kd.R_far (p := ⟨gb189, 6, none⟩) (Kd.R_far (p := ⟨gb189, 5, none⟩) (Kd.R_far (p := ⟨gb189, 4, none⟩) (Kd.R_far (p := ⟨gb189, 3, none⟩) (Kd.R_far (p := ⟨gb189, 2, none⟩) (Kd.R_far (p := ⟨gb189, 1, none⟩) (Kd.R_far (p := ⟨gb189, 0, none⟩) (Kd.R_far (p := ⟨gb188, 5, none⟩) (Kd.R_types (Kd.R_types HO209.out BK188.out (by decide)) BK189.out (by decide)) (fun _ hk => hk.1.2) (.slice Ao40 y207.length co40)) (fun _ hk => hk.2) (.bool a0_0)) (fun _ hk => hk.2) (.bool a0_1)) (fun _ hk => hk.2) (.slice Ao11 t190.length co11)) (fun _ hk => hk.2) (.slice Ao13 t193.length co13)) (fun _ hk => hk.2) (.slice Ao15 t196.length co15)) (fun _ hk => hk.2) (.slice Ao40 y207.length co40)) (fun _ hk => hk.2) (.bool a0_6)) (fun _ hk => hk.2) (.bool a0_7)) (fun _ hk => ⟨hk.1.1.1, ⟨hk.1.1.2.1, hk.1.1.2.2⟩⟩), by repeat (first | (with_reducible first | exact HB.out | apply below_alloc | apply pw_below_drewN | apply below_drew1 | refine below_set ?_ GE188.out | refine below_set ?_ GE189.out) | exact HB.out)⟩
    ·rw [if_neg c38] at H
     exact absurd H (by simp)

end Go.Proofs.Ytjofofpplpmgjaa.Pr
/- config.Canon's contract as the printed texts ask for it. -/
namespace Go.Proofs.Ytjofofpplpmgjaa.Pr
set_option linter.unusedVariables false
set_option linter.unusedSimpArgs false
open Go.RowKit Go.Lib Go.Shelf Go.Proofs.Ytjofofpplpmgjaa Go.Proofs.Ytjofofpplpmgjaa.Pure Go.Proofs.YtjofofpplpmgjaaW.PrintWords Go.Proofs.YtjofofpplpmgjaaW.PrintLast Go.Proofs.YtjofofpplpmgjaaW.PrintMore
def sortL (l : List ByteArray) : List ByteArray := SS (sorted (l.map dat))
theorem sortL_f {l : List ByteArray} (h : l.length ≤ 1000) : fold_Sorted.f l = some (sortL l) := sorted_f l (by omega)
/-- The Per that have attributes, these in order. -/
def perL (l : List S35) : List S35 := (l.filter fun p => decide (0 < p.f1.length)).map fun p => ⟨p.f0, sortL p.f1⟩
theorem perL_cons (p : S35) (l : List S35) : perL (p :: l) = (if 0 < p.f1.length then [⟨p.f0, sortL p.f1⟩] else []) ++ perL l := by
  unfold perL
  rw [List.filter_cons]
  by_cases h : 0 < p.f1.length
  · rw [if_pos (decide_eq_true h), if_pos h]; rfl
  · rw [if_neg (by simpa using h), if_neg h]; rfl
theorem canon_l0 {c : Cf} (hf : Fit c) (hp : c.per.length ≤ 19) (a2 a3 a4 : List ByteArray) : ∀ (d i : Nat) (acc : List S35), i + d = c.per.length → acc.length ≤ i → ∀ k, d < k →
    config_CanonK.l0 k acc c.per (c.per.length : Int) (i : Int) c.al c.aal a2 a3 a4 c.per c.com c.dt = some (c.al, c.aal, a2, a3, a4, sortP (acc ++ perL (c.per.drop i)), c.com, c.dt) := by
  intro d
  induction d with
  | zero =>
    intro i acc h ha k hk
    obtain ⟨k, rfl⟩ : ∃ m, k = m + 1 := ⟨k - 1, by omega⟩
    unfold config_CanonK.l0
    rw [if_neg (by omega), if_pos (by omega), List.drop_of_length_le (by omega)]
    show some (_, _, _, _, _, sortP acc, _, _) = some (_, _, _, _, _, sortP (acc ++ []), _, _)
    rw [List.append_nil]
  | succ d ih =>
    intro i acc h ha k hk
    obtain ⟨k, rfl⟩ : ∃ m, k = m + 1 := ⟨k - 1, by omega⟩
    have hi : i < c.per.length := by omega
    have hx : c.per[i]? = some c.per[i] := List.getElem?_eq_getElem hi
    have hs := hf.sub _ (List.getElem_mem hi)
    have hd : c.per.drop i = c.per[i] :: c.per.drop (i + 1) := List.drop_eq_getElem_cons hi
    unfold config_CanonK.l0
    rw [if_pos (by omega), if_pos (by omega), if_pos (by omega), rd35_at hx, wrap_succ (by omega) (by omega), show ((i : Int) + 1) = ((i + 1 : Nat) : Int) from by omega, hd, perL_cons]
    by_cases h0 : 0 < c.per[i].f1.length
    · rw [if_pos (by omega), sortL_f hs, Option.bind_some, if_pos (by omega), if_pos h0, ih (i + 1) _ (by omega) (by rw [List.length_append, List.length_singleton]; omega) k (by omega), List.append_assoc]
    · rw [if_neg (by omega), if_neg h0, ih (i + 1) _ (by omega) (by omega) k (by omega)]
      rfl
def canonC (c : Cf) : Cf := { c with els := sortL c.els, rep := sortL c.rep, ats := sortL c.ats, per := sortP (perL c.per) }
theorem canonK_f {c : Cf} (hf : Fit c) (hp : c.per.length ≤ 19) : config_CanonK.f 30 c.al c.aal c.els c.rep c.ats c.per c.com c.dt = some (c.al, c.aal, sortL c.els, sortL c.rep, sortL c.ats, sortP (perL c.per), c.com, c.dt) := by
  unfold config_CanonK.f
  rw [sortL_f hf.els, Option.bind_some, sortL_f hf.rep, Option.bind_some, sortL_f hf.ats, Option.bind_some]
  have := canon_l0 hf hp (sortL c.els) (sortL c.rep) (sortL c.ats) c.per.length 0 [] (by omega) (Nat.le_refl _) 30 (by omega)
  exact this
def config_Canon.f (a0 a1 : Bool) (l2 l3 l4 : List ByteArray) (l5 : List S35) (a6 a7 : Bool) : Option (Bool × Bool × List ByteArray × List ByteArray × List ByteArray × (List (S35)) × Bool × Bool) :=
  if fitB ⟨a0, a1, l2, l3, l4, l5, a6, a7⟩ = true ∧ l5.length ≤ 19 then some (a0, a1, sortL l2, sortL l3, sortL l4, sortP (perL l5), a6, a7) else none
theorem config_Canon.calls (a0 a1 : Bool) (A2 : Option Addr) (c2 : Nat) (l2 : List ByteArray) (A3 : Option Addr) (c3 : Nat) (l3 : List ByteArray) (A4 : Option Addr) (c4 : Nat) (l4 : List ByteArray) (A5 : Option Addr) (c5 : Nat) (l5 : List S35) (a6 a7 : Bool)
    (r1 : Bool) (r2 : Bool) (r3 : List ByteArray) (r4 : List ByteArray) (r5 : List ByteArray) (r6 : List (S35)) (r7 : Bool) (r8 : Bool) (w : World)
    (hr2 : Kd.C Kd.string w A2 l2.length l2) (hc2 : l2.length ≤ c2) (hr3 : Kd.C Kd.string w A3 l3.length l3) (hc3 : l3.length ≤ c3) (hr4 : Kd.C Kd.string w A4 l4.length l4) (hc4 : l4.length ≤ c4) (hr5 : Kd.C k35 w A5 l5.length l5) (hc5 : l5.length ≤ c5) (h : config_Canon.f a0 a1 l2 l3 l4 l5 a6 a7 = some (r1, r2, r3, r4, r5, r6, r7, r8)) :
    Calls Try.prog 23 #[.agg #[.bool a0, .bool a1, .slice A2 l2.length c2, .slice A3 l3.length c3, .slice A4 l4.length c4, .slice A5 l5.length c5, .bool a6, .bool a7]] w fun e w' => ∃ v2_ v3_ v4_ v5_ : Value, e = .returned (.agg #[.bool r1, .bool r2, v2_, v3_, v4_, v5_, .bool r7, .bool r8]) ∧
      Kd.R Kd.string 9 w' w.heap.size (fun k_ => some k_ ≠ (v3_ : Value).ownBlock ∧ some k_ ≠ (v4_ : Value).ownBlock) v2_ r3 ∧ Kd.R Kd.string 9 w' w.heap.size (fun k_ => some k_ ≠ (v2_ : Value).ownBlock ∧ some k_ ≠ (v4_ : Value).ownBlock) v3_ r4 ∧
      Kd.R Kd.string 9 w' w.heap.size (fun k_ => some k_ ≠ (v2_ : Value).ownBlock ∧ some k_ ≠ (v3_ : Value).ownBlock) v4_ r5 ∧ Kd.R k35 35 w' w.heap.size (fun k_ => some k_ ≠ (v2_ : Value).ownBlock ∧ some k_ ≠ (v3_ : Value).ownBlock ∧ some k_ ≠ (v4_ : Value).ownBlock) v5_ r6 ∧ Below w.heap.size w w' := by
  unfold config_Canon.f at h
  split at h
  case isFalse => cases h
  rename_i hf
  have hs := canonK_f (c := ⟨a0, a1, l2, l3, l4, l5, a6, a7⟩) (fit_of hf.1) hf.2
  simp only at hs
  rw [h] at hs
  exact config_CanonK.calls 30 a0 a1 A2 c2 l2 A3 c3 l3 A4 c4 l4 A5 c5 l5 a6 a7 r1 r2 r3 r4 r5 r6 r7 r8 w hr2 hc2 hr3 hc3 hr4 hc4 hr5 hc5 hs
end Go.Proofs.Ytjofofpplpmgjaa.Pr
namespace Go.Proofs.Ytjofofpplpmgjaa.Pr
open Go.RowKit Go.Proofs.YtjofofpplpmgjaaW.PrintWords Go.Proofs.YtjofofpplpmgjaaW.PrintLast Go.Proofs.YtjofofpplpmgjaaW.PrintMore
attribute [local go_sem] max2_int min2_int max_two min_two max_three min_three max_four min_four   -- for this text's walks alone
set_option linter.unusedVariables false
set_option linter.unusedSimpArgs false

/-! ### boltinglaw12_ConfigPlain: function 10 -/
def boltinglaw12_ConfigPlain.f (k : Nat) (a0 : ByteArray) (a1 : ByteArray) : Option (Bool) := (config_Plain.f).bind fun bt659 => ((config_Check.f bt659.1 bt659.2.1 bt659.2.2.1 bt659.2.2.2.1 bt659.2.2.2.2.1 bt659.2.2.2.2.2.1 bt659.2.2.2.2.2.2.1 bt659.2.2.2.2.2.2.2).bind fun t676 => (if t676 = 0 then (if 2 + a1.size ≤ 9223372036854775807 then ((config_Attr.f bt659.1 bt659.2.1 bt659.2.2.1 bt659.2.2.2.1 bt659.2.2.2.2.1 bt659.2.2.2.2.2.1 bt659.2.2.2.2.2.2.1 bt659.2.2.2.2.2.2.2 a0 ((⟨#[111, 110]⟩ : ByteArray) ++ a1)).bind fun t677 => (if t677 = true then (some false) else ((config_Canon.f bt659.1 bt659.2.1 bt659.2.2.1 bt659.2.2.2.1 bt659.2.2.2.2.1 bt659.2.2.2.2.2.1 bt659.2.2.2.2.2.2.1 bt659.2.2.2.2.2.2.2).bind fun bt678 => ((boltingref12_Same.f k bt678.1 bt678.2.1 bt678.2.2.1 bt678.2.2.2.1 bt678.2.2.2.2.1 bt678.2.2.2.2.2.1 bt678.2.2.2.2.2.2.1 bt678.2.2.2.2.2.2.2 bt659.1 bt659.2.1 bt659.2.2.1 bt659.2.2.2.1 bt659.2.2.2.2.1 bt659.2.2.2.2.2.1 bt659.2.2.2.2.2.2.1 bt659.2.2.2.2.2.2.2).bind fun t694 => (if t694 = true then ((config_Strip.f bt659.1 bt659.2.1 bt659.2.2.1 bt659.2.2.2.1 bt659.2.2.2.2.1 bt659.2.2.2.2.2.1 bt659.2.2.2.2.2.2.1 bt659.2.2.2.2.2.2.2).bind fun bt695 => ((boltingref12_Same.f k bt695.1 bt695.2.1 bt695.2.2.1 bt695.2.2.2.1 bt695.2.2.2.2.1 bt695.2.2.2.2.2.1 bt695.2.2.2.2.2.2.1 bt695.2.2.2.2.2.2.2 bt659.1 bt659.2.1 bt659.2.2.1 bt659.2.2.2.1 bt659.2.2.2.2.1 bt659.2.2.2.2.2.1 bt659.2.2.2.2.2.2.1 bt659.2.2.2.2.2.2.2).bind fun t711 => (if t711 = true then ((config_All.f).bind fun bt712 => ((config_Strip.f bt712.1 bt712.2.1 bt712.2.2.1 bt712.2.2.2.1 bt712.2.2.2.2.1 bt712.2.2.2.2.2.1 bt712.2.2.2.2.2.2.1 bt712.2.2.2.2.2.2.2).bind fun bt728 => ((config_Check.f bt728.1 bt728.2.1 bt728.2.2.1 bt728.2.2.2.1 bt728.2.2.2.2.1 bt728.2.2.2.2.2.1 bt728.2.2.2.2.2.2.1 bt728.2.2.2.2.2.2.2).bind fun t744 => (if t744 = 0 then ((boltinglaw12_fixed.f).bind fun t745 => (some t745)) else (some false))))) else (some false)))) else (some false)))))) else (none)) else (some false)))
def boltinglaw12_ConfigPlain.T2 : Bool × List (List Nat × List Nat) := (true, [([], []), ([0], [0]), ([1], [1]), ([2, 1], [2]), ([3], [3]), ([3], [3]), ([3], [3]), ([6, 3], [3, 6]), ([4, 5, 7, 3, 3], [3, 4, 5, 7]), ([8, 3], [3, 8]), ([3, 9], [3, 9]), ([10, 8], [10]), ([11], [11]), ([12, 11, 11], [11, 12]), ([11], [11]), ([13, 14, 13, 11], [11, 13, 14]), ([11, 15], [11, 15]), ([16, 15], [16]), ([17], [17]), ([18, 17, 17], [17, 18]), ([17], [17]), ([19, 20, 19, 17], [17, 19, 20]), ([17, 21], [17, 21]), ([22, 21], [22]), ([23, 23], [23]), ([24, 24, 23], [23, 24]), ([25, 25, 23], [23, 25]), ([26, 23], [23, 26]), ([23, 27], [23, 27]), ([28, 26], [28]), ([29, 29], [29]), ([29, 30], [29, 30]), ([31, 30, 0, 1, 2, 3, 4, 5, 6, 7, 8, 9, 10, 11, 12, 13, 14, 15, 16, 17, 18, 19, 20, 21, 22, 23, 24, 25, 26, 27, 28, 29, 30, 31], [31])])
def boltinglaw12_ConfigPlain.B2 : List Nat := [0, 1, 3, 7, 15, 15, 15, 79, 255, 511, 1023, 2047, 4095, 8191, 4095, 32767, 65535, 131071, 262143, 524287, 262143, 2097151, 4194303, 8388607, 16777215, 33554431, 67108863, 134217727, 268435455, 536870911, 1073741823, 2147483647, 4294967295]
theorem boltinglaw12_ConfigPlain.tab2 : rtab .any (opsOf Try.f10 2) = boltinglaw12_ConfigPlain.T2 := by kernel_rfl
theorem boltinglaw12_ConfigPlain.bits2 : waitsOk boltinglaw12_ConfigPlain.T2.2 boltinglaw12_ConfigPlain.B2 = true := by kernel_rfl
set_option maxHeartbeats 8000000 in
set_option maxRecDepth 100000 in
theorem boltinglaw12_ConfigPlain.calls (k : Nat) (a0 : ByteArray) (a1 : ByteArray) (r : Bool) (w : World) (h : boltinglaw12_ConfigPlain.f k a0 a1 = some r) (hT : Aside0 (r = true) := by exact Aside0.mk rfl) :
    Calls Try.prog 10 #[.string a0, .string a1] w fun e w' => e = .returned (.bool r) ∧ Below w.heap.size w w' := by
  have hu25 := Try.underlying25
  have HB := Aside0.mk (Below.refl w.heap.size w)
  have H : ((config_Plain.f).bind fun bt659 => ((config_Check.f bt659.1 bt659.2.1 bt659.2.2.1 bt659.2.2.2.1 bt659.2.2.2.2.1 bt659.2.2.2.2.2.1 bt659.2.2.2.2.2.2.1 bt659.2.2.2.2.2.2.2).bind fun t676 => (if t676 = 0 then (if 2 + a1.size ≤ 9223372036854775807 then ((config_Attr.f bt659.1 bt659.2.1 bt659.2.2.1 bt659.2.2.2.1 bt659.2.2.2.2.1 bt659.2.2.2.2.2.1 bt659.2.2.2.2.2.2.1 bt659.2.2.2.2.2.2.2 a0 ((⟨#[111, 110]⟩ : ByteArray) ++ a1)).bind fun t677 => (if t677 = true then (some false) else ((config_Canon.f bt659.1 bt659.2.1 bt659.2.2.1 bt659.2.2.2.1 bt659.2.2.2.2.1 bt659.2.2.2.2.2.1 bt659.2.2.2.2.2.2.1 bt659.2.2.2.2.2.2.2).bind fun bt678 => ((boltingref12_Same.f k bt678.1 bt678.2.1 bt678.2.2.1 bt678.2.2.2.1 bt678.2.2.2.2.1 bt678.2.2.2.2.2.1 bt678.2.2.2.2.2.2.1 bt678.2.2.2.2.2.2.2 bt659.1 bt659.2.1 bt659.2.2.1 bt659.2.2.2.1 bt659.2.2.2.2.1 bt659.2.2.2.2.2.1 bt659.2.2.2.2.2.2.1 bt659.2.2.2.2.2.2.2).bind fun t694 => (if t694 = true then ((config_Strip.f bt659.1 bt659.2.1 bt659.2.2.1 bt659.2.2.2.1 bt659.2.2.2.2.1 bt659.2.2.2.2.2.1 bt659.2.2.2.2.2.2.1 bt659.2.2.2.2.2.2.2).bind fun bt695 => ((boltingref12_Same.f k bt695.1 bt695.2.1 bt695.2.2.1 bt695.2.2.2.1 bt695.2.2.2.2.1 bt695.2.2.2.2.2.1 bt695.2.2.2.2.2.2.1 bt695.2.2.2.2.2.2.2 bt659.1 bt659.2.1 bt659.2.2.1 bt659.2.2.2.1 bt659.2.2.2.2.1 bt659.2.2.2.2.2.1 bt659.2.2.2.2.2.2.1 bt659.2.2.2.2.2.2.2).bind fun t711 => (if t711 = true then ((config_All.f).bind fun bt712 => ((config_Strip.f bt712.1 bt712.2.1 bt712.2.2.1 bt712.2.2.2.1 bt712.2.2.2.2.1 bt712.2.2.2.2.2.1 bt712.2.2.2.2.2.2.1 bt712.2.2.2.2.2.2.2).bind fun bt728 => ((config_Check.f bt728.1 bt728.2.1 bt728.2.2.1 bt728.2.2.2.1 bt728.2.2.2.2.1 bt728.2.2.2.2.2.1 bt728.2.2.2.2.2.2.1 bt728.2.2.2.2.2.2.2).bind fun t744 => (if t744 = 0 then ((boltinglaw12_fixed.f).bind fun t745 => (some t745)) else (some false))))) else (some false)))) else (some false)))))) else (none)) else (some false)))) = some r := h
  clear h
  replace H := Option.bind_eq_some_iff.mp H
  obtain ⟨⟨t659, t660, t661, t664, t667, t670, t673, t674⟩, A30, H⟩ := H
  try dsimp only at H
  have A3 := Aside0.mk A30
  clear A30
  replace H := Option.bind_eq_some_iff.mp H
  obtain ⟨t676, A40, H⟩ := H
  have A4 := Aside0.mk A40
  clear A40
  by_cases c5 : t676 = 0
  · rw [if_pos c5] at H
    have c5b0 : (t676 == 0) = true := beq_iff_eq.mpr c5
    have c5b1 : (t676 != 0) = false := bne_eq_false_iff_eq.mpr c5
    clear c5
    by_cases c6 : 2 + a1.size ≤ 9223372036854775807
    · rw [if_pos c6] at H
      have c6b0 := eq_true c6
      have c6b1 : decide (2 + a1.size ≤ 9223372036854775807) = true := decide_eq_true c6
      try have c6b2 : (9223372036854775807 < 2 + a1.size) = False := eq_false (Nat.not_lt.2 c6)
      replace H := Option.bind_eq_some_iff.mp H
      obtain ⟨t677, A70, H⟩ := H
      have A7 := Aside0.mk A70
      clear A70
      by_cases c8 : t677 = true
      · subst c8
        replace H : (some false) = some r := by rw [if_pos rfl] at H; exact H
        exact absurd (Option.some.inj H) (by rw [hT.out]; decide)
      · replace c8 := Bool.eq_false_iff.mpr c8
        subst c8
        replace H : ((config_Canon.f t659 t660 t661 t664 t667 t670 t673 t674).bind fun bt678 => ((boltingref12_Same.f k bt678.1 bt678.2.1 bt678.2.2.1 bt678.2.2.2.1 bt678.2.2.2.2.1 bt678.2.2.2.2.2.1 bt678.2.2.2.2.2.2.1 bt678.2.2.2.2.2.2.2 t659 t660 t661 t664 t667 t670 t673 t674).bind fun t694 => (if t694 = true then ((config_Strip.f t659 t660 t661 t664 t667 t670 t673 t674).bind fun bt695 => ((boltingref12_Same.f k bt695.1 bt695.2.1 bt695.2.2.1 bt695.2.2.2.1 bt695.2.2.2.2.1 bt695.2.2.2.2.2.1 bt695.2.2.2.2.2.2.1 bt695.2.2.2.2.2.2.2 t659 t660 t661 t664 t667 t670 t673 t674).bind fun t711 => (if t711 = true then ((config_All.f).bind fun bt712 => ((config_Strip.f bt712.1 bt712.2.1 bt712.2.2.1 bt712.2.2.2.1 bt712.2.2.2.2.1 bt712.2.2.2.2.2.1 bt712.2.2.2.2.2.2.1 bt712.2.2.2.2.2.2.2).bind fun bt728 => ((config_Check.f bt728.1 bt728.2.1 bt728.2.2.1 bt728.2.2.2.1 bt728.2.2.2.2.1 bt728.2.2.2.2.2.1 bt728.2.2.2.2.2.2.1 bt728.2.2.2.2.2.2.2).bind fun t744 => (if t744 = 0 then ((boltinglaw12_fixed.f).bind fun t745 => (some t745)) else (some false))))) else (some false)))) else (some false)))) = some r := by rw [if_neg (show ¬ (false = true) by decide)] at H; exact H
        replace H := Option.bind_eq_some_iff.mp H
        obtain ⟨⟨t678, t679, t680, t683, t686, t689, t692, t693⟩, A200, H⟩ := H
        try dsimp only at H
        have A20 := Aside0.mk A200
        clear A200
        replace H := Option.bind_eq_some_iff.mp H
        obtain ⟨t694, A210, H⟩ := H
        have A21 := Aside0.mk A210
        clear A210
        by_cases c22 : t694 = true
        · subst c22
          replace H : ((config_Strip.f t659 t660 t661 t664 t667 t670 t673 t674).bind fun bt695 => ((boltingref12_Same.f k bt695.1 bt695.2.1 bt695.2.2.1 bt695.2.2.2.1 bt695.2.2.2.2.1 bt695.2.2.2.2.2.1 bt695.2.2.2.2.2.2.1 bt695.2.2.2.2.2.2.2 t659 t660 t661 t664 t667 t670 t673 t674).bind fun t711 => (if t711 = true then ((config_All.f).bind fun bt712 => ((config_Strip.f bt712.1 bt712.2.1 bt712.2.2.1 bt712.2.2.2.1 bt712.2.2.2.2.1 bt712.2.2.2.2.2.1 bt712.2.2.2.2.2.2.1 bt712.2.2.2.2.2.2.2).bind fun bt728 => ((config_Check.f bt728.1 bt728.2.1 bt728.2.2.1 bt728.2.2.2.1 bt728.2.2.2.2.1 bt728.2.2.2.2.2.1 bt728.2.2.2.2.2.2.1 bt728.2.2.2.2.2.2.2).bind fun t744 => (if t744 = 0 then ((boltinglaw12_fixed.f).bind fun t745 => (some t745)) else (some false))))) else (some false)))) = some r := by rw [if_pos rfl] at H; exact H
          replace H := Option.bind_eq_some_iff.mp H
          obtain ⟨⟨t695, t696, t697, t700, t703, t706, t709, t710⟩, A230, H⟩ := H
          try dsimp only at H
          have A23 := Aside0.mk A230
          clear A230
          replace H := Option.bind_eq_some_iff.mp H
          obtain ⟨t711, A240, H⟩ := H
          have A24 := Aside0.mk A240
          clear A240
          by_cases c25 : t711 = true
          · subst c25
            replace H : ((config_All.f).bind fun bt712 => ((config_Strip.f bt712.1 bt712.2.1 bt712.2.2.1 bt712.2.2.2.1 bt712.2.2.2.2.1 bt712.2.2.2.2.2.1 bt712.2.2.2.2.2.2.1 bt712.2.2.2.2.2.2.2).bind fun bt728 => ((config_Check.f bt728.1 bt728.2.1 bt728.2.2.1 bt728.2.2.2.1 bt728.2.2.2.2.1 bt728.2.2.2.2.2.1 bt728.2.2.2.2.2.2.1 bt728.2.2.2.2.2.2.2).bind fun t744 => (if t744 = 0 then ((boltinglaw12_fixed.f).bind fun t745 => (some t745)) else (some false))))) = some r := by rw [if_pos rfl] at H; exact H
            replace H := Option.bind_eq_some_iff.mp H
            obtain ⟨⟨t712, t713, t714, t717, t720, t723, t726, t727⟩, A260, H⟩ := H
            try dsimp only at H
            have A26 := Aside0.mk A260
            clear A260
            replace H := Option.bind_eq_some_iff.mp H
            obtain ⟨⟨t728, t729, t730, t733, t736, t739, t742, t743⟩, A270, H⟩ := H
            try dsimp only at H
            have A27 := Aside0.mk A270
            clear A270
            replace H := Option.bind_eq_some_iff.mp H
            obtain ⟨t744, A280, H⟩ := H
            have A28 := Aside0.mk A280
            clear A280
            by_cases c29 : t744 = 0
            · rw [if_pos c29] at H
              have c29b0 : (t744 == 0) = true := beq_iff_eq.mpr c29
              have c29b1 : (t744 != 0) = false := bne_eq_false_iff_eq.mpr c29
              clear c29
              replace H := Option.bind_eq_some_iff.mp H
              obtain ⟨t745, A300, H⟩ := H
              replace H : (some t745) = some r := H
              have A30 := Aside0.mk A300
              clear A300
              obtain rfl := Option.some.inj H
              go_enter Try.func10, Try.ntmps10
              try go_wp2_with (first | ((with_reducible refine gate_callee (f := 28) rfl ?_); refine goesL_ (some 6) rfl rfl Try.func28 (by kernel_rfl) rfl #[] rfl (by (try simp only [List.map_toArray, List.map_cons, List.map_nil]); first | done | rfl | (simp only [List.length_drop, List.length_take]; rfl)) ?_; (with_reducible refine (config_Plain.calls  t659 t660 t661 t664 t667 t670 t673 t674 _ A3.out).mono ?_); rintro e w31 ⟨v662, v665, v668, v671, rfl, ho0, ho1, ho2, ho3, hb⟩; refine ⟨_, rfl, ?_⟩; have n0_ := Aside0.mk (Kd.R_lower (Kd.R_mono (ok' := fun k_ => some k_ ≠ (v665 : Value).ownBlock ∧ some k_ ≠ (v668 : Value).ownBlock) ho0 (fun _ hk_ => hk_.2)) (below_size (by repeat (first | (with_reducible first | exact HB.out | apply below_alloc | apply pw_below_drewN | apply below_drew1) | exact HB.out)))); have n1_ := Aside0.mk (Kd.R_lower (Kd.R_mono (ok' := fun k_ => some k_ ≠ (v662 : Value).ownBlock ∧ some k_ ≠ (v668 : Value).ownBlock) ho1 (fun _ hk_ => hk_.2)) (below_size (by repeat (first | (with_reducible first | exact HB.out | apply below_alloc | apply pw_below_drewN | apply below_drew1) | exact HB.out)))); have n2_ := Aside0.mk (Kd.R_lower (Kd.R_mono (ok' := fun k_ => some k_ ≠ (v662 : Value).ownBlock ∧ some k_ ≠ (v665 : Value).ownBlock) ho2 (fun _ hk_ => hk_.2)) (below_size (by repeat (first | (with_reducible first | exact HB.out | apply below_alloc | apply pw_below_drewN | apply below_drew1) | exact HB.out)))); have n3_ := Aside0.mk (Kd.N_lower (Kd.N_mono (ok' := fun k_ => some k_ ≠ (v662 : Value).ownBlock ∧ some k_ ≠ (v665 : Value).ownBlock ∧ some k_ ≠ (v668 : Value).ownBlock) ho3 (fun k_ hk_ => ⟨hk_.2.1, hk_.2.2.1, hk_.2.2.2⟩)) (below_size (by repeat (first | (with_reducible first | exact HB.out | apply below_alloc | apply pw_below_drewN | apply below_drew1) | exact HB.out)))); have n4_ := Aside0.mk (below_step (by repeat (first | (with_reducible first | exact HB.out | apply below_alloc | apply pw_below_drewN | apply below_drew1) | exact HB.out)) hb); clear HB; have HO663 := n0_; have HO666 := n1_; have HO669 := n2_; have HO672 := n3_; have HB := n4_; clear n0_ n1_ n2_ n3_ n4_; (try clear hb); (try clear hb2); (try clear hk); (try clear hi); (try clear ho0); (try clear ho1); (try clear ho2); (try clear ho3)) | ((with_reducible refine gate_dst (N := 5) rfl ?_); refine box_event ?hg (N := 5) ?hd (cs := #[.bool false, .bool false, .slice none 0 0, .slice none 0 0, .slice none 0 0, .slice none 0 0, .bool false, .bool false]) (t := 25) ?hr ?_; (case hd => rfl); (case hg => rfl); (case hr => first | (go_simp; done) | (go_simp; rfl)); intro gb675 hg w32 hbox hb; have n0_ := Aside0.mk (Kd.R_below (by (with_reducible repeat (first | apply Kd.R_alloc | apply Kd.R_drewN | apply Kd.R_drew)); exact HO663.out) hb); have n1_ := Aside0.mk (Kd.R_below (by (with_reducible repeat (first | apply Kd.R_alloc | apply Kd.R_drewN | apply Kd.R_drew)); exact HO666.out) hb); have n2_ := Aside0.mk (Kd.R_below (by (with_reducible repeat (first | apply Kd.R_alloc | apply Kd.R_drewN | apply Kd.R_drew)); exact HO669.out) hb); have n3_ := Aside0.mk (Kd.N_below (Kd.N_elderB (by (with_reducible repeat (first | apply Kd.N_alloc | apply Kd.N_drewN | apply Kd.N_drew)); exact HO672.out) gb675 (Nat.le_of_eq hg.symm)) hb); have n4_ := Aside0.mk (below_step (by repeat (first | (with_reducible first | exact HB.out | apply below_alloc | apply pw_below_drewN | apply below_drew1) | exact HB.out)) hb); have n5_ := Aside0.mk (hbox); have n6_ := Aside0.mk ((by rw [hg]; exact (below_size (by repeat (first | (with_reducible first | exact HB.out | apply below_alloc | apply pw_below_drewN | apply below_drew1) | exact HB.out))) : w.heap.size ≤ gb675)); have n7_ := Aside0.mk ((by rw [hg]; exact (below_size (by repeat (first | (with_reducible first | exact HB.out | apply below_alloc | apply pw_below_drewN | apply below_drew1) | exact HB.out))) : w.heap.size ≤ gb675)); clear HO663; clear HO666; clear HO669; clear HO672; clear HB; have HO663 := n0_; have HO666 := n1_; have HO669 := n2_; have HO672 := n3_; have HB := n4_; have BK675 := n5_; have GW675 := n6_; have GE675 := n7_; clear n0_ n1_ n2_ n3_ n4_ n5_ n6_ n7_; clear hb hbox hg; have hcz33_0 : w32.cell? ⟨gb675, 0, none⟩ = some (.bool false) := (blk_cell BK675.out 0).trans rfl; have hcz33_1 : w32.cell? ⟨gb675, 1, none⟩ = some (.bool false) := (blk_cell BK675.out 1).trans rfl; have hcz33_2 : w32.cell? ⟨gb675, 2, none⟩ = some (.slice none 0 0) := (blk_cell BK675.out 2).trans rfl; have hcz33_3 : w32.cell? ⟨gb675, 3, none⟩ = some (.slice none 0 0) := (blk_cell BK675.out 3).trans rfl; have hcz33_4 : w32.cell? ⟨gb675, 4, none⟩ = some (.slice none 0 0) := (blk_cell BK675.out 4).trans rfl; have hcz33_5 : w32.cell? ⟨gb675, 5, none⟩ = some (.slice none 0 0) := (blk_cell BK675.out 5).trans rfl; have hcz33_6 : w32.cell? ⟨gb675, 6, none⟩ = some (.bool false) := (blk_cell BK675.out 6).trans rfl; have hcz33_7 : w32.cell? ⟨gb675, 7, none⟩ = some (.bool false) := (blk_cell BK675.out 7).trans rfl; have hfz33_0 := blk_frozen BK675.out 0; have hfz33_1 := blk_frozen BK675.out 1; have hfz33_2 := blk_frozen BK675.out 2; have hfz33_3 := blk_frozen BK675.out 3; have hfz33_4 := blk_frozen BK675.out 4; have hfz33_5 := blk_frozen BK675.out 5; have hfz33_6 := blk_frozen BK675.out 6; have hfz33_7 := blk_frozen BK675.out 7; obtain ⟨Ao34, co34, eo34⟩ := Kd.R_slice HO663.out; subst eo34; obtain ⟨Ao35, co35, eo35⟩ := Kd.R_slice HO666.out; subst eo35; obtain ⟨Ao36, co36, eo36⟩ := Kd.R_slice HO669.out; subst eo36; obtain ⟨Ao37, co37, eo37⟩ := Kd.N_slice HO672.out; subst eo37))
              have n0_ : Aside0 (Kd.R Kd.string 9 ((((((((w32.setCell ⟨gb675, 0, none⟩ (.bool t659)).setCell ⟨gb675, 1, none⟩ (.bool t660)).setCell ⟨gb675, 2, none⟩ (.slice Ao34 t661.length co34)).setCell ⟨gb675, 3, none⟩ (.slice Ao35 t664.length co35)).setCell ⟨gb675, 4, none⟩ (.slice Ao36 t667.length co36)).setCell ⟨gb675, 5, none⟩ (.slice Ao37 t670.length co37)).setCell ⟨gb675, 6, none⟩ (.bool t673)).setCell ⟨gb675, 7, none⟩ (.bool t674)) w.heap.size (fun k_ => some k_ ≠ (.slice Ao35 t664.length co35 : Value).ownBlock ∧ some k_ ≠ (.slice Ao36 t667.length co36 : Value).ownBlock) (.slice Ao34 t661.length co34) t661) := ⟨by (with_reducible repeat (first | apply Kd.R_alloc | apply Kd.R_drewN | apply Kd.R_drew)); exact Kd.R_mono (Kd.R_far (p := ⟨gb675, 7, none⟩) (Kd.R_far (p := ⟨gb675, 6, none⟩) (Kd.R_far (p := ⟨gb675, 5, none⟩) (Kd.R_far (p := ⟨gb675, 4, none⟩) (Kd.R_far (p := ⟨gb675, 3, none⟩) (Kd.R_far (p := ⟨gb675, 2, none⟩) (Kd.R_far (p := ⟨gb675, 1, none⟩) (Kd.R_far (p := ⟨gb675, 0, none⟩) (Kd.R_types HO663.out BK675.out (by decide)) (fun _ hk => hk.2) (.bool t659)) (fun _ hk => hk.2) (.bool t660)) (fun _ hk => hk.2) (.slice Ao34 t661.length co34)) (fun _ hk => hk.2) (.slice Ao35 t664.length co35)) (fun _ hk => hk.2) (.slice Ao36 t667.length co36)) (fun _ hk => hk.2) (.slice Ao37 t670.length co37)) (fun _ hk => hk.2) (.bool t673)) (fun _ hk => hk.2) (.bool t674)) (fun _ hk => ⟨hk.1.1, hk.1.2⟩)⟩
              have n1_ : Aside0 (Kd.R Kd.string 9 ((((((((w32.setCell ⟨gb675, 0, none⟩ (.bool t659)).setCell ⟨gb675, 1, none⟩ (.bool t660)).setCell ⟨gb675, 2, none⟩ (.slice Ao34 t661.length co34)).setCell ⟨gb675, 3, none⟩ (.slice Ao35 t664.length co35)).setCell ⟨gb675, 4, none⟩ (.slice Ao36 t667.length co36)).setCell ⟨gb675, 5, none⟩ (.slice Ao37 t670.length co37)).setCell ⟨gb675, 6, none⟩ (.bool t673)).setCell ⟨gb675, 7, none⟩ (.bool t674)) w.heap.size (fun k_ => some k_ ≠ (.slice Ao34 t661.length co34 : Value).ownBlock ∧ some k_ ≠ (.slice Ao36 t667.length co36 : Value).ownBlock) (.slice Ao35 t664.length co35) t664) := ⟨by (with_reducible repeat (first | apply Kd.R_alloc | apply Kd.R_drewN | apply Kd.R_drew)); exact Kd.R_mono (Kd.R_far (p := ⟨gb675, 7, none⟩) (Kd.R_far (p := ⟨gb675, 6, none⟩) (Kd.R_far (p := ⟨gb675, 5, none⟩) (Kd.R_far (p := ⟨gb675, 4, none⟩) (Kd.R_far (p := ⟨gb675, 3, none⟩) (Kd.R_far (p := ⟨gb675, 2, none⟩) (Kd.R_far (p := ⟨gb675, 1, none⟩) (Kd.R_far (p := ⟨gb675, 0, none⟩) (Kd.R_types HO666.out BK675.out (by decide)) (fun _ hk => hk.2) (.bool t659)) (fun _ hk => hk.2) (.bool t660)) (fun _ hk => hk.2) (.slice Ao34 t661.length co34)) (fun _ hk => hk.2) (.slice Ao35 t664.length co35)) (fun _ hk => hk.2) (.slice Ao36 t667.length co36)) (fun _ hk => hk.2) (.slice Ao37 t670.length co37)) (fun _ hk => hk.2) (.bool t673)) (fun _ hk => hk.2) (.bool t674)) (fun _ hk => ⟨hk.1.1, hk.1.2⟩)⟩
              have n2_ : Aside0 (Kd.R Kd.string 9 ((((((((w32.setCell ⟨gb675, 0, none⟩ (.bool t659)).setCell ⟨gb675, 1, none⟩ (.bool t660)).setCell ⟨gb675, 2, none⟩ (.slice Ao34 t661.length co34)).setCell ⟨gb675, 3, none⟩ (.slice Ao35 t664.length co35)).setCell ⟨gb675, 4, none⟩ (.slice Ao36 t667.length co36)).setCell ⟨gb675, 5, none⟩ (.slice Ao37 t670.length co37)).setCell ⟨gb675, 6, none⟩ (.bool t673)).setCell ⟨gb675, 7, none⟩ (.bool t674)) w.heap.size (fun k_ => some k_ ≠ (.slice Ao34 t661.length co34 : Value).ownBlock ∧ some k_ ≠ (.slice Ao35 t664.length co35 : Value).ownBlock) (.slice Ao36 t667.length co36) t667) := ⟨by (with_reducible repeat (first | apply Kd.R_alloc | apply Kd.R_drewN | apply Kd.R_drew)); exact Kd.R_mono (Kd.R_far (p := ⟨gb675, 7, none⟩) (Kd.R_far (p := ⟨gb675, 6, none⟩) (Kd.R_far (p := ⟨gb675, 5, none⟩) (Kd.R_far (p := ⟨gb675, 4, none⟩) (Kd.R_far (p := ⟨gb675, 3, none⟩) (Kd.R_far (p := ⟨gb675, 2, none⟩) (Kd.R_far (p := ⟨gb675, 1, none⟩) (Kd.R_far (p := ⟨gb675, 0, none⟩) (Kd.R_types HO669.out BK675.out (by decide)) (fun _ hk => hk.2) (.bool t659)) (fun _ hk => hk.2) (.bool t660)) (fun _ hk => hk.2) (.slice Ao34 t661.length co34)) (fun _ hk => hk.2) (.slice Ao35 t664.length co35)) (fun _ hk => hk.2) (.slice Ao36 t667.length co36)) (fun _ hk => hk.2) (.slice Ao37 t670.length co37)) (fun _ hk => hk.2) (.bool t673)) (fun _ hk => hk.2) (.bool t674)) (fun _ hk => ⟨hk.1.1, hk.1.2⟩)⟩
              have n3_ : Aside0 (Kd.N k35 35 ((((((((w32.setCell ⟨gb675, 0, none⟩ (.bool t659)).setCell ⟨gb675, 1, none⟩ (.bool t660)).setCell ⟨gb675, 2, none⟩ (.slice Ao34 t661.length co34)).setCell ⟨gb675, 3, none⟩ (.slice Ao35 t664.length co35)).setCell ⟨gb675, 4, none⟩ (.slice Ao36 t667.length co36)).setCell ⟨gb675, 5, none⟩ (.slice Ao37 t670.length co37)).setCell ⟨gb675, 6, none⟩ (.bool t673)).setCell ⟨gb675, 7, none⟩ (.bool t674)) w.heap.size (fun k_ => some k_ ≠ (.slice Ao34 t661.length co34 : Value).ownBlock ∧ some k_ ≠ (.slice Ao35 t664.length co35 : Value).ownBlock ∧ some k_ ≠ (.slice Ao36 t667.length co36 : Value).ownBlock ∧ k_ ≠ gb675) (.slice Ao37 t670.length co37) t670) := ⟨by (with_reducible repeat (first | apply Kd.N_alloc | apply Kd.N_drewN | apply Kd.N_drew)); exact Kd.N_mono (Kd.N_far (p := ⟨gb675, 7, none⟩) (Kd.N_far (p := ⟨gb675, 6, none⟩) (Kd.N_far (p := ⟨gb675, 5, none⟩) (Kd.N_far (p := ⟨gb675, 4, none⟩) (Kd.N_far (p := ⟨gb675, 3, none⟩) (Kd.N_far (p := ⟨gb675, 2, none⟩) (Kd.N_far (p := ⟨gb675, 1, none⟩) (Kd.N_far (p := ⟨gb675, 0, none⟩) (Kd.N_mono HO672.out (fun k_ hk => (⟨hk, hk.2⟩ : _ ∧ k_ ≠ gb675))) (fun _ hk => hk.2) (.bool t659)) (fun _ hk => hk.2) (.bool t660)) (fun _ hk => hk.2) (.slice Ao34 t661.length co34)) (fun _ hk => hk.2) (.slice Ao35 t664.length co35)) (fun _ hk => hk.2) (.slice Ao36 t667.length co36)) (fun _ hk => hk.2) (.slice Ao37 t670.length co37)) (fun _ hk => hk.2) (.bool t673)) (fun _ hk => hk.2) (.bool t674)) (fun _ hk => ⟨hk.1.1.1, ⟨hk.1.1.2.1, ⟨hk.1.1.2.2, hk.1.2⟩⟩⟩)⟩
              have n4_ : Aside0 (((((((((w32.setCell ⟨gb675, 0, none⟩ (.bool t659)).setCell ⟨gb675, 1, none⟩ (.bool t660)).setCell ⟨gb675, 2, none⟩ (.slice Ao34 t661.length co34)).setCell ⟨gb675, 3, none⟩ (.slice Ao35 t664.length co35)).setCell ⟨gb675, 4, none⟩ (.slice Ao36 t667.length co36)).setCell ⟨gb675, 5, none⟩ (.slice Ao37 t670.length co37)).setCell ⟨gb675, 6, none⟩ (.bool t673)).setCell ⟨gb675, 7, none⟩ (.bool t674)).heap[gb675]? = some (.cells #[.bool t659, .bool t660, .slice Ao34 t661.length co34, .slice Ao35 t664.length co35, .slice Ao36 t667.length co36, .slice Ao37 t670.length co37, .bool t673, .bool t674] 25 (0, 0))) := ⟨by (with_reducible repeat (first | refine blk_drewN ?_ _ | refine blk_drew ?_ | refine blk_alloc ?_ _)); refine blk_put (cs := #[.bool t659, .bool t660, .slice Ao34 t661.length co34, .slice Ao35 t664.length co35, .slice Ao36 t667.length co36, .slice Ao37 t670.length co37, .bool t673, .bool false]) ?_ 7 _ rfl; (with_reducible repeat (first | refine blk_drewN ?_ _ | refine blk_drew ?_ | refine blk_alloc ?_ _)); refine blk_put (cs := #[.bool t659, .bool t660, .slice Ao34 t661.length co34, .slice Ao35 t664.length co35, .slice Ao36 t667.length co36, .slice Ao37 t670.length co37, .bool false, .bool false]) ?_ 6 _ rfl; (with_reducible repeat (first | refine blk_drewN ?_ _ | refine blk_drew ?_ | refine blk_alloc ?_ _)); refine blk_put (cs := #[.bool t659, .bool t660, .slice Ao34 t661.length co34, .slice Ao35 t664.length co35, .slice Ao36 t667.length co36, .slice none 0 0, .bool false, .bool false]) ?_ 5 _ rfl; (with_reducible repeat (first | refine blk_drewN ?_ _ | refine blk_drew ?_ | refine blk_alloc ?_ _)); refine blk_put (cs := #[.bool t659, .bool t660, .slice Ao34 t661.length co34, .slice Ao35 t664.length co35, .slice none 0 0, .slice none 0 0, .bool false, .bool false]) ?_ 4 _ rfl; (with_reducible repeat (first | refine blk_drewN ?_ _ | refine blk_drew ?_ | refine blk_alloc ?_ _)); refine blk_put (cs := #[.bool t659, .bool t660, .slice Ao34 t661.length co34, .slice none 0 0, .slice none 0 0, .slice none 0 0, .bool false, .bool false]) ?_ 3 _ rfl; (with_reducible repeat (first | refine blk_drewN ?_ _ | refine blk_drew ?_ | refine blk_alloc ?_ _)); refine blk_put (cs := #[.bool t659, .bool t660, .slice none 0 0, .slice none 0 0, .slice none 0 0, .slice none 0 0, .bool false, .bool false]) ?_ 2 _ rfl; (with_reducible repeat (first | refine blk_drewN ?_ _ | refine blk_drew ?_ | refine blk_alloc ?_ _)); refine blk_put (cs := #[.bool t659, .bool false, .slice none 0 0, .slice none 0 0, .slice none 0 0, .slice none 0 0, .bool false, .bool false]) ?_ 1 _ rfl; (with_reducible repeat (first | refine blk_drewN ?_ _ | refine blk_drew ?_ | refine blk_alloc ?_ _)); refine blk_put (cs := #[.bool false, .bool false, .slice none 0 0, .slice none 0 0, .slice none 0 0, .slice none 0 0, .bool false, .bool false]) ?_ 0 _ rfl; (with_reducible repeat (first | refine blk_drewN ?_ _ | refine blk_drew ?_ | refine blk_alloc ?_ _)); exact BK675.out⟩
              have n5_ : Aside0 (Below w.heap.size w ((((((((w32.setCell ⟨gb675, 0, none⟩ (.bool t659)).setCell ⟨gb675, 1, none⟩ (.bool t660)).setCell ⟨gb675, 2, none⟩ (.slice Ao34 t661.length co34)).setCell ⟨gb675, 3, none⟩ (.slice Ao35 t664.length co35)).setCell ⟨gb675, 4, none⟩ (.slice Ao36 t667.length co36)).setCell ⟨gb675, 5, none⟩ (.slice Ao37 t670.length co37)).setCell ⟨gb675, 6, none⟩ (.bool t673)).setCell ⟨gb675, 7, none⟩ (.bool t674))) := ⟨by repeat (first | (with_reducible first | exact HB.out | apply below_alloc | apply pw_below_drewN | apply below_drew1 | refine below_set ?_ GE675.out) | exact HB.out)⟩
              (try clear HO663)
              (try clear HO666)
              (try clear HO669)
              (try clear HO672)
              (try clear BK675)
              (try clear HB)
              generalize ((((((((w32.setCell ⟨gb675, 0, none⟩ (.bool t659)).setCell ⟨gb675, 1, none⟩ (.bool t660)).setCell ⟨gb675, 2, none⟩ (.slice Ao34 t661.length co34)).setCell ⟨gb675, 3, none⟩ (.slice Ao35 t664.length co35)).setCell ⟨gb675, 4, none⟩ (.slice Ao36 t667.length co36)).setCell ⟨gb675, 5, none⟩ (.slice Ao37 t670.length co37)).setCell ⟨gb675, 6, none⟩ (.bool t673)).setCell ⟨gb675, 7, none⟩ (.bool t674)) = w38 at n0_ n1_ n2_ n3_ n4_ n5_ ⊢
              have HO663 := n0_
              have HO666 := n1_
              have HO669 := n2_
              have HO672 := n3_
              have BK675 := n4_
              have HB := n5_
              clear n0_ n1_ n2_ n3_ n4_ n5_
              have n0_ := Aside0.mk (Kd.R_drew HO663.out)
              have n1_ := Aside0.mk (Kd.R_drew HO666.out)
              have n2_ := Aside0.mk (Kd.R_drew HO669.out)
              have n3_ := Aside0.mk (Kd.N_drew HO672.out)
              have n4_ := Aside0.mk (blk_drew BK675.out)
              have n5_ := Aside0.mk (below_drew1 HB.out)
              clear HO663
              clear HO666
              clear HO669
              clear HO672
              clear BK675
              clear HB
              have HO663 := n0_
              have HO666 := n1_
              have HO669 := n2_
              have HO672 := n3_
              have BK675 := n4_
              have HB := n5_
              clear n0_ n1_ n2_ n3_ n4_ n5_
              refine start_ (n := 33) (S := fun w' => w'.cell? ⟨gb675, 0, none⟩ = some (.bool t659) ∧ w'.cell? ⟨gb675, 1, none⟩ = some (.bool t660) ∧ w'.cell? ⟨gb675, 2, none⟩ = some (.slice Ao34 t661.length co34) ∧ w'.cell? ⟨gb675, 3, none⟩ = some (.slice Ao35 t664.length co35) ∧ w'.cell? ⟨gb675, 4, none⟩ = some (.slice Ao36 t667.length co36) ∧ w'.cell? ⟨gb675, 5, none⟩ = some (.slice Ao37 t670.length co37) ∧ w'.cell? ⟨gb675, 6, none⟩ = some (.bool t673) ∧ w'.cell? ⟨gb675, 7, none⟩ = some (.bool t674)) (ds := []) #[false, false, false, false, false, false, false, false, false, false, false, false, false, false, false, false, false, false, false, false, false, false, false, false, false, false, false, false, false, false, false, false, false] (by kernel_rfl) rfl rfl ⟨(blk_cell BK675.out 0).trans rfl, (blk_cell BK675.out 1).trans rfl, (blk_cell BK675.out 2).trans rfl, (blk_cell BK675.out 3).trans rfl, (blk_cell BK675.out 4).trans rfl, (blk_cell BK675.out 5).trans rfl, (blk_cell BK675.out 6).trans rfl, (blk_cell BK675.out 7).trans rfl⟩ (fun hHeld => ?_); refine with_tabW boltinglaw12_ConfigPlain.tab2 boltinglaw12_ConfigPlain.bits2 (fun HT_ HW_ => ?_)
              generalize w38.drew = w39 at HO663 HO666 HO669 HO672 BK675 HB hHeld ⊢
              refine take_ (i := 0) (N := some 7) (v := ?_) (a' := ?_) #[true, false, false, false, false, false, false, false, false, false, false, false, false, false, false, false, false, false, false, false, false, false, false, false, false, false, false, false, false, false, false, false, false] rfl rfl (take_ofW HT_.out HW_.out (by kernel_rfl)) (fun _ _ _ h => h) (Or.inl ⟨by rfl, ?_⟩) hHeld ?_ ?_
              rotate_left
              · rintro w' ⟨s0, s1, s2, s3, s4, s5, s6, s7⟩
                go_simp
                with_reducible rfl
              rotate_left
              · simp only [Act.put, List.setIfInBounds_toArray, List.set_cons_zero, List.set_cons_succ, i64_w, i32_w]
                rfl
              refine one_ (i := 1) (N := some 8) #[true, true, false, false, false, false, false, false, false, false, false, false, false, false, false, false, false, false, false, false, false, false, false, false, false, false, false, false, false, false, false, false, false] rfl rfl (one_of HT_.out (by kernel_rfl)) (by decide) (fun K hK => ?_)
              refine goes_ Try.func18 (by kernel_rfl) rfl #[.agg #[.bool t659, .bool t660, .slice Ao34 t661.length co34, .slice Ao35 t664.length co35, .slice Ao36 t667.length co36, .slice Ao37 t670.length co37, .bool t673, .bool t674]] (by rfl) rfl rfl (by (try simp only [List.map_toArray, List.map_cons, List.map_nil]); first | done | rfl | (simp only [List.length_drop, List.length_take]; rfl)) ?_
              with_reducible refine (config_Check.calls t659 t660 _ _ t661 _ _ t664 _ _ t667 _ _ t670 t673 t674 t676 _ ?side1 ?side2 ?side3 ?side4 ?side5 ?side6 ?side7 ?side8 A4.out).mono ?_
              (case side1 => repeat (first | exact (Kd.R_reads' HO663.out).2.2 | (with_reducible refine Kd.C_alloc ?_ _) | (with_reducible refine Kd.C_drewN ?_ _) | (with_reducible refine Kd.C_drew ?_)))
              (case side2 => exact (Kd.R_reads' HO663.out).2.1)
              (case side3 => repeat (first | exact (Kd.R_reads' HO666.out).2.2 | (with_reducible refine Kd.C_alloc ?_ _) | (with_reducible refine Kd.C_drewN ?_ _) | (with_reducible refine Kd.C_drew ?_)))
              (case side4 => exact (Kd.R_reads' HO666.out).2.1)
              (case side5 => repeat (first | exact (Kd.R_reads' HO669.out).2.2 | (with_reducible refine Kd.C_alloc ?_ _) | (with_reducible refine Kd.C_drewN ?_ _) | (with_reducible refine Kd.C_drew ?_)))
              (case side6 => exact (Kd.R_reads' HO669.out).2.1)
              (case side7 => repeat (first | exact (Kd.N_reads' HO672.out).2.2 | (with_reducible refine Kd.C_alloc ?_ _) | (with_reducible refine Kd.C_drewN ?_ _) | (with_reducible refine Kd.C_drew ?_)))
              (case side8 => exact (Kd.N_reads' HO672.out).2.1)
              rintro e w40 ⟨rfl, hb⟩
              refine ⟨_, rfl, ?_⟩
              have n0_ := Aside0.mk (Kd.R_below (by (with_reducible repeat (first | apply Kd.R_alloc | apply Kd.R_drewN | apply Kd.R_drew)); exact HO663.out) hb)
              have n1_ := Aside0.mk (Kd.R_below (by (with_reducible repeat (first | apply Kd.R_alloc | apply Kd.R_drewN | apply Kd.R_drew)); exact HO666.out) hb)
              have n2_ := Aside0.mk (Kd.R_below (by (with_reducible repeat (first | apply Kd.R_alloc | apply Kd.R_drewN | apply Kd.R_drew)); exact HO669.out) hb)
              have n3_ := Aside0.mk (Kd.N_below (by (with_reducible repeat (first | apply Kd.N_alloc | apply Kd.N_drewN | apply Kd.N_drew)); exact HO672.out) hb)
              have n4_ := Aside0.mk (blk_below (g := gb675) (o := .cells #[.bool t659, .bool t660, .slice Ao34 t661.length co34, .slice Ao35 t664.length co35, .slice Ao36 t667.length co36, .slice Ao37 t670.length co37, .bool t673, .bool t674] 25 (0, 0)) (by (with_reducible repeat (first | refine blk_drewN ?_ _ | refine blk_drew ?_ | refine blk_alloc ?_ _)); exact BK675.out) hb)
              have n5_ := Aside0.mk (below_step (by repeat (first | (with_reducible first | exact HB.out | apply below_alloc | apply pw_below_drewN | apply below_drew1 | refine below_set ?_ GE675.out) | exact HB.out)) hb)
              clear HO663
              clear HO666
              clear HO669
              clear HO672
              clear BK675
              clear HB
              have HO663 := n0_
              have HO666 := n1_
              have HO669 := n2_
              have HO672 := n3_
              have BK675 := n4_
              have HB := n5_
              clear n0_ n1_ n2_ n3_ n4_ n5_
              (try clear hb)
              (try clear hb2)
              (try clear hk)
              (try clear hi)
              refine hK.out _ _ ⟨(blk_cell BK675.out 0).trans rfl, (blk_cell BK675.out 1).trans rfl, (blk_cell BK675.out 2).trans rfl, (blk_cell BK675.out 3).trans rfl, (blk_cell BK675.out 4).trans rfl, (blk_cell BK675.out 5).trans rfl, (blk_cell BK675.out 6).trans rfl, (blk_cell BK675.out 7).trans rfl⟩ (fun hHeld => ?_)
              clear hK K
              refine norm_ (a' := ?_) ?_ ?_
              rotate_left
              · show Act.put _ (some 8) _ = _
                simp only [Act.put, List.setIfInBounds_toArray, List.set_cons_zero, List.set_cons_succ, i64_w, i32_w]
                rfl
              refine pure_ (i := 2) (N := some 9) (v := ?_) (a' := ?_) #[true, true, true, false, false, false, false, false, false, false, false, false, false, false, false, false, false, false, false, false, false, false, false, false, false, false, false, false, false, false, false, false, false] rfl rfl (any_of HT_.out (by kernel_rfl)) (fun _ _ _ h => h) (Or.inl ⟨by rfl, ?_⟩) ?_ ?_
              rotate_left
              · intro w'
                go_simp
                with_reducible rfl
              rotate_left
              · simp only [Act.put, List.setIfInBounds_toArray, List.set_cons_zero, List.set_cons_succ, i64_w, i32_w]
                rfl
              refine pure_ (i := 3) (N := some 10) (v := ?_) (a' := ?_) #[true, true, true, true, false, false, false, false, false, false, false, false, false, false, false, false, false, false, false, false, false, false, false, false, false, false, false, false, false, false, false, false, false] rfl rfl (any_of HT_.out (by kernel_rfl)) (fun _ _ _ h => h) (Or.inl ⟨by rfl, ?_⟩) ?_ ?_
              rotate_left
              · intro w'
                go_simp
                with_reducible rfl
              rotate_left
              · simp only [Act.put, List.setIfInBounds_toArray, List.set_cons_zero, List.set_cons_succ, i64_w, i32_w]
                rfl
              refine pure_ (i := 5) (N := some 12) (v := ?_) (a' := ?_) #[true, true, true, true, false, true, false, false, false, false, false, false, false, false, false, false, false, false, false, false, false, false, false, false, false, false, false, false, false, false, false, false, false] rfl rfl (any_of HT_.out (by kernel_rfl)) (fun _ _ _ h => h) (Or.inl ⟨by rfl, ?_⟩) ?_ ?_
              rotate_left
              · intro w'
                go_simp
                with_reducible rfl
              rotate_left
              · simp only [Act.put, List.setIfInBounds_toArray, List.set_cons_zero, List.set_cons_succ, i64_w, i32_w]
                rfl
              refine pure_ (i := 6) (N := some 13) (v := ?_) (a' := ?_) #[true, true, true, true, false, true, true, false, false, false, false, false, false, false, false, false, false, false, false, false, false, false, false, false, false, false, false, false, false, false, false, false, false] rfl rfl (any_of HT_.out (by kernel_rfl)) (fun _ _ _ h => h) (Or.inl ⟨by rfl, ?_⟩) ?_ ?_
              rotate_left
              · intro w'
                go_simp
                with_reducible rfl
              rotate_left
              · simp only [Act.put, List.setIfInBounds_toArray, List.set_cons_zero, List.set_cons_succ, i64_w, i32_w]
                rfl
              refine pure_ (i := 7) (N := some 14) (v := ?_) (a' := ?_) #[true, true, true, true, false, true, true, true, false, false, false, false, false, false, false, false, false, false, false, false, false, false, false, false, false, false, false, false, false, false, false, false, false] rfl rfl (any_of HT_.out (by kernel_rfl)) (fun _ _ _ h => h) (Or.inl ⟨by rfl, ?_⟩) ?_ ?_
              rotate_left
              · intro w'
                go_simp
                with_reducible rfl
              rotate_left
              · simp only [Act.put, List.setIfInBounds_toArray, List.set_cons_zero, List.set_cons_succ, i64_w, i32_w]
                rfl
              refine take_ (i := 4) (N := some 11) (v := ?_) (a' := ?_) #[true, true, true, true, true, true, true, true, false, false, false, false, false, false, false, false, false, false, false, false, false, false, false, false, false, false, false, false, false, false, false, false, false] rfl rfl (take_ofW HT_.out HW_.out (by kernel_rfl)) (fun _ _ _ h => h) (Or.inl ⟨by rfl, ?_⟩) hHeld ?_ ?_
              rotate_left
              · rintro w' ⟨s0, s1, s2, s3, s4, s5, s6, s7⟩
                go_simp
                with_reducible rfl
              rotate_left
              · simp only [Act.put, List.setIfInBounds_toArray, List.set_cons_zero, List.set_cons_succ, i64_w, i32_w]
                rfl
              refine one_ (i := 8) (N := some 15) #[true, true, true, true, true, true, true, true, true, false, false, false, false, false, false, false, false, false, false, false, false, false, false, false, false, false, false, false, false, false, false, false, false] rfl rfl (one_of HT_.out (by kernel_rfl)) (by decide) (fun K hK => ?_)
              refine goes_ Try.func15 (by kernel_rfl) rfl #[.agg #[.bool t659, .bool t660, .slice Ao34 t661.length co34, .slice Ao35 t664.length co35, .slice Ao36 t667.length co36, .slice Ao37 t670.length co37, .bool t673, .bool t674], .string a0, .string ((⟨#[111, 110]⟩ : ByteArray) ++ a1)] (by rfl) rfl rfl (by (try simp only [List.map_toArray, List.map_cons, List.map_nil]); first | done | rfl | (simp only [List.length_drop, List.length_take]; rfl)) ?_
              with_reducible refine (config_Attr.calls t659 t660 _ _ t661 _ _ t664 _ _ t667 _ _ t670 t673 t674 a0 ((⟨#[111, 110]⟩ : ByteArray) ++ a1) false _ ?side1 ?side2 ?side3 ?side4 ?side5 ?side6 ?side7 ?side8 A7.out).mono ?_
              (case side1 => repeat (first | exact (Kd.R_reads' HO663.out).2.2 | (with_reducible refine Kd.C_alloc ?_ _) | (with_reducible refine Kd.C_drewN ?_ _) | (with_reducible refine Kd.C_drew ?_)))
              (case side2 => exact (Kd.R_reads' HO663.out).2.1)
              (case side3 => repeat (first | exact (Kd.R_reads' HO666.out).2.2 | (with_reducible refine Kd.C_alloc ?_ _) | (with_reducible refine Kd.C_drewN ?_ _) | (with_reducible refine Kd.C_drew ?_)))
              (case side4 => exact (Kd.R_reads' HO666.out).2.1)
              (case side5 => repeat (first | exact (Kd.R_reads' HO669.out).2.2 | (with_reducible refine Kd.C_alloc ?_ _) | (with_reducible refine Kd.C_drewN ?_ _) | (with_reducible refine Kd.C_drew ?_)))
              (case side6 => exact (Kd.R_reads' HO669.out).2.1)
              (case side7 => repeat (first | exact (Kd.N_reads' HO672.out).2.2 | (with_reducible refine Kd.C_alloc ?_ _) | (with_reducible refine Kd.C_drewN ?_ _) | (with_reducible refine Kd.C_drew ?_)))
              (case side8 => exact (Kd.N_reads' HO672.out).2.1)
              rintro e w41 ⟨rfl, hb⟩
              refine ⟨_, rfl, ?_⟩
              have n0_ := Aside0.mk (Kd.R_below (by (with_reducible repeat (first | apply Kd.R_alloc | apply Kd.R_drewN | apply Kd.R_drew)); exact HO663.out) hb)
              have n1_ := Aside0.mk (Kd.R_below (by (with_reducible repeat (first | apply Kd.R_alloc | apply Kd.R_drewN | apply Kd.R_drew)); exact HO666.out) hb)
              have n2_ := Aside0.mk (Kd.R_below (by (with_reducible repeat (first | apply Kd.R_alloc | apply Kd.R_drewN | apply Kd.R_drew)); exact HO669.out) hb)
              have n3_ := Aside0.mk (Kd.N_below (by (with_reducible repeat (first | apply Kd.N_alloc | apply Kd.N_drewN | apply Kd.N_drew)); exact HO672.out) hb)
              have n4_ := Aside0.mk (blk_below (g := gb675) (o := .cells #[.bool t659, .bool t660, .slice Ao34 t661.length co34, .slice Ao35 t664.length co35, .slice Ao36 t667.length co36, .slice Ao37 t670.length co37, .bool t673, .bool t674] 25 (0, 0)) (by (with_reducible repeat (first | refine blk_drewN ?_ _ | refine blk_drew ?_ | refine blk_alloc ?_ _)); exact BK675.out) hb)
              have n5_ := Aside0.mk (below_step (by repeat (first | (with_reducible first | exact HB.out | apply below_alloc | apply pw_below_drewN | apply below_drew1 | refine below_set ?_ GE675.out) | exact HB.out)) hb)
              clear HO663
              clear HO666
              clear HO669
              clear HO672
              clear BK675
              clear HB
              have HO663 := n0_
              have HO666 := n1_
              have HO669 := n2_
              have HO672 := n3_
              have BK675 := n4_
              have HB := n5_
              clear n0_ n1_ n2_ n3_ n4_ n5_
              (try clear hb)
              (try clear hb2)
              (try clear hk)
              (try clear hi)
              refine hK.out _ _ ⟨(blk_cell BK675.out 0).trans rfl, (blk_cell BK675.out 1).trans rfl, (blk_cell BK675.out 2).trans rfl, (blk_cell BK675.out 3).trans rfl, (blk_cell BK675.out 4).trans rfl, (blk_cell BK675.out 5).trans rfl, (blk_cell BK675.out 6).trans rfl, (blk_cell BK675.out 7).trans rfl⟩ (fun hHeld => ?_)
              clear hK K
              refine norm_ (a' := ?_) ?_ ?_
              rotate_left
              · show Act.put _ (some 15) _ = _
                simp only [Act.put, List.setIfInBounds_toArray, List.set_cons_zero, List.set_cons_succ, i64_w, i32_w]
                rfl
              refine pure_ (i := 9) (N := some 16) (v := ?_) (a' := ?_) #[true, true, true, true, true, true, true, true, true, true, false, false, false, false, false, false, false, false, false, false, false, false, false, false, false, false, false, false, false, false, false, false, false] rfl rfl (any_of HT_.out (by kernel_rfl)) (fun _ _ _ h => h) (Or.inl ⟨by rfl, ?_⟩) ?_ ?_
              rotate_left
              · intro w'
                go_simp
                with_reducible rfl
              rotate_left
              · simp only [Act.put, List.setIfInBounds_toArray, List.set_cons_zero, List.set_cons_succ, i64_w, i32_w]
                rfl
              refine pure_ (i := 10) (N := some 17) (v := ?_) (a' := ?_) #[true, true, true, true, true, true, true, true, true, true, true, false, false, false, false, false, false, false, false, false, false, false, false, false, false, false, false, false, false, false, false, false, false] rfl rfl (any_of HT_.out (by kernel_rfl)) (fun _ _ _ h => h) (Or.inl ⟨by rfl, ?_⟩) ?_ ?_
              rotate_left
              · intro w'
                go_simp
                with_reducible rfl
              rotate_left
              · simp only [Act.put, List.setIfInBounds_toArray, List.set_cons_zero, List.set_cons_succ, i64_w, i32_w]
                rfl
              refine pure_ (i := 11) (N := some 18) (v := ?_) (a' := ?_) #[true, true, true, true, true, true, true, true, true, true, true, true, false, false, false, false, false, false, false, false, false, false, false, false, false, false, false, false, false, false, false, false, false] rfl rfl (any_of HT_.out (by kernel_rfl)) (fun _ _ _ h => h) (Or.inl ⟨by rfl, ?_⟩) ?_ ?_
              rotate_left
              · intro w'
                go_simp
                with_reducible rfl
              rotate_left
              · simp only [Act.put, List.setIfInBounds_toArray, List.set_cons_zero, List.set_cons_succ, i64_w, i32_w]
                rfl
              refine take_ (i := 12) (N := some 19) (v := ?_) (a' := ?_) #[true, true, true, true, true, true, true, true, true, true, true, true, true, false, false, false, false, false, false, false, false, false, false, false, false, false, false, false, false, false, false, false, false] rfl rfl (take_ofW HT_.out HW_.out (by kernel_rfl)) (fun _ _ _ h => h) (Or.inl ⟨by rfl, ?_⟩) hHeld ?_ ?_
              rotate_left
              · rintro w' ⟨s0, s1, s2, s3, s4, s5, s6, s7⟩
                go_simp
                with_reducible rfl
              rotate_left
              · simp only [Act.put, List.setIfInBounds_toArray, List.set_cons_zero, List.set_cons_succ, i64_w, i32_w]
                rfl
              refine take_ (i := 14) (N := some 21) (v := ?_) (a' := ?_) #[true, true, true, true, true, true, true, true, true, true, true, true, true, false, true, false, false, false, false, false, false, false, false, false, false, false, false, false, false, false, false, false, false] rfl rfl (take_ofW HT_.out HW_.out (by kernel_rfl)) (fun _ _ _ h => h) (Or.inl ⟨by rfl, ?_⟩) hHeld ?_ ?_
              rotate_left
              · rintro w' ⟨s0, s1, s2, s3, s4, s5, s6, s7⟩
                go_simp
                with_reducible rfl
              rotate_left
              · simp only [Act.put, List.setIfInBounds_toArray, List.set_cons_zero, List.set_cons_succ, i64_w, i32_w]
                rfl
              refine one_ (i := 13) (N := some 20) #[true, true, true, true, true, true, true, true, true, true, true, true, true, true, true, false, false, false, false, false, false, false, false, false, false, false, false, false, false, false, false, false, false] rfl rfl (one_of HT_.out (by kernel_rfl)) (by decide) (fun K hK => ?_)
              refine goes_ Try.func23 (by kernel_rfl) rfl #[.agg #[.bool t659, .bool t660, .slice Ao34 t661.length co34, .slice Ao35 t664.length co35, .slice Ao36 t667.length co36, .slice Ao37 t670.length co37, .bool t673, .bool t674]] (by rfl) rfl rfl (by (try simp only [List.map_toArray, List.map_cons, List.map_nil]); first | done | rfl | (simp only [List.length_drop, List.length_take]; rfl)) ?_
              with_reducible refine (config_Canon.calls t659 t660 _ _ t661 _ _ t664 _ _ t667 _ _ t670 t673 t674 t678 t679 t680 t683 t686 t689 t692 t693 _ ?side1 ?side2 ?side3 ?side4 ?side5 ?side6 ?side7 ?side8 A20.out).mono ?_
              (case side1 => repeat (first | exact (Kd.R_reads' HO663.out).2.2 | (with_reducible refine Kd.C_alloc ?_ _) | (with_reducible refine Kd.C_drewN ?_ _) | (with_reducible refine Kd.C_drew ?_)))
              (case side2 => exact (Kd.R_reads' HO663.out).2.1)
              (case side3 => repeat (first | exact (Kd.R_reads' HO666.out).2.2 | (with_reducible refine Kd.C_alloc ?_ _) | (with_reducible refine Kd.C_drewN ?_ _) | (with_reducible refine Kd.C_drew ?_)))
              (case side4 => exact (Kd.R_reads' HO666.out).2.1)
              (case side5 => repeat (first | exact (Kd.R_reads' HO669.out).2.2 | (with_reducible refine Kd.C_alloc ?_ _) | (with_reducible refine Kd.C_drewN ?_ _) | (with_reducible refine Kd.C_drew ?_)))
              (case side6 => exact (Kd.R_reads' HO669.out).2.1)
              (case side7 => repeat (first | exact (Kd.N_reads' HO672.out).2.2 | (with_reducible refine Kd.C_alloc ?_ _) | (with_reducible refine Kd.C_drewN ?_ _) | (with_reducible refine Kd.C_drew ?_)))
              (case side8 => exact (Kd.N_reads' HO672.out).2.1)
              rintro e w42 ⟨v681, v684, v687, v690, rfl, ho0, ho1, ho2, ho3, hb⟩
              refine ⟨_, rfl, ?_⟩
              have n0_ := Aside0.mk (Kd.R_mono (Kd.R_told (Kd.R_told (Kd.R_told (Kd.R_old (by (with_reducible repeat (first | apply Kd.R_alloc | apply Kd.R_drewN | apply Kd.R_drew)); exact HO663.out) hb) (Kd.R_base ho0)) (Kd.R_base ho1)) (Kd.R_base ho2)) (fun _ h_ => h_.1))
              have n1_ := Aside0.mk (Kd.R_mono (Kd.R_told (Kd.R_told (Kd.R_told (Kd.R_old (by (with_reducible repeat (first | apply Kd.R_alloc | apply Kd.R_drewN | apply Kd.R_drew)); exact HO666.out) hb) (Kd.R_base ho0)) (Kd.R_base ho1)) (Kd.R_base ho2)) (fun _ h_ => h_.1))
              have n2_ := Aside0.mk (Kd.R_mono (Kd.R_told (Kd.R_told (Kd.R_told (Kd.R_old (by (with_reducible repeat (first | apply Kd.R_alloc | apply Kd.R_drewN | apply Kd.R_drew)); exact HO669.out) hb) (Kd.R_base ho0)) (Kd.R_base ho1)) (Kd.R_base ho2)) (fun _ h_ => h_.1))
              have n3_ := Aside0.mk (Kd.N_mono (Kd.N_told (Kd.N_told (Kd.N_told (Kd.N_told (Kd.N_old (by (with_reducible repeat (first | apply Kd.N_alloc | apply Kd.N_drewN | apply Kd.N_drew)); exact HO672.out) hb) (Kd.R_base ho0)) (Kd.R_base ho1)) (Kd.R_base ho2)) (Kd.R_base ho3)) (fun _ h_ => h_.1))
              have n4_ := Aside0.mk (Kd.R_lower (Kd.R_new' (Kd.R_new' (Kd.R_new' ho0 (Kd.R_lt (by (with_reducible repeat (first | apply Kd.R_alloc | apply Kd.R_drewN | apply Kd.R_drew)); exact HO663.out))) (Kd.R_lt (by (with_reducible repeat (first | apply Kd.R_alloc | apply Kd.R_drewN | apply Kd.R_drew)); exact HO666.out))) (Kd.R_lt (by (with_reducible repeat (first | apply Kd.R_alloc | apply Kd.R_drewN | apply Kd.R_drew)); exact HO669.out))) (below_size (by repeat (first | (with_reducible first | exact HB.out | apply below_alloc | apply pw_below_drewN | apply below_drew1 | refine below_set ?_ GE675.out) | exact HB.out))))
              have n5_ := Aside0.mk (Kd.R_lower (Kd.R_new' (Kd.R_new' (Kd.R_new' ho1 (Kd.R_lt (by (with_reducible repeat (first | apply Kd.R_alloc | apply Kd.R_drewN | apply Kd.R_drew)); exact HO663.out))) (Kd.R_lt (by (with_reducible repeat (first | apply Kd.R_alloc | apply Kd.R_drewN | apply Kd.R_drew)); exact HO666.out))) (Kd.R_lt (by (with_reducible repeat (first | apply Kd.R_alloc | apply Kd.R_drewN | apply Kd.R_drew)); exact HO669.out))) (below_size (by repeat (first | (with_reducible first | exact HB.out | apply below_alloc | apply pw_below_drewN | apply below_drew1 | refine below_set ?_ GE675.out) | exact HB.out))))
              have n6_ := Aside0.mk (Kd.R_lower (Kd.R_new' (Kd.R_new' (Kd.R_new' ho2 (Kd.R_lt (by (with_reducible repeat (first | apply Kd.R_alloc | apply Kd.R_drewN | apply Kd.R_drew)); exact HO663.out))) (Kd.R_lt (by (with_reducible repeat (first | apply Kd.R_alloc | apply Kd.R_drewN | apply Kd.R_drew)); exact HO666.out))) (Kd.R_lt (by (with_reducible repeat (first | apply Kd.R_alloc | apply Kd.R_drewN | apply Kd.R_drew)); exact HO669.out))) (below_size (by repeat (first | (with_reducible first | exact HB.out | apply below_alloc | apply pw_below_drewN | apply below_drew1 | refine below_set ?_ GE675.out) | exact HB.out))))
              have n7_ := Aside0.mk (Kd.N_lower (Kd.N_mono (ok' := fun k_ => some k_ ≠ (v681 : Value).ownBlock ∧ some k_ ≠ (v684 : Value).ownBlock ∧ some k_ ≠ (v687 : Value).ownBlock ∧ some k_ ≠ (.slice Ao34 t661.length co34 : Value).ownBlock ∧ some k_ ≠ (.slice Ao35 t664.length co35 : Value).ownBlock ∧ some k_ ≠ (.slice Ao36 t667.length co36 : Value).ownBlock ∧ some k_ ≠ (.slice Ao37 t670.length co37 : Value).ownBlock ∧ k_ ≠ gb675) (Kd.R_N (Kd.R_bound ho3)) (fun k_ hk_ => ⟨hk_.1.1, hk_.1.2.1, hk_.1.2.2, (Kd.fresh' (Kd.R_lt (by (with_reducible repeat (first | apply Kd.R_alloc | apply Kd.R_drewN | apply Kd.R_drew)); exact HO663.out)) k_ hk_.2.1), (Kd.fresh' (Kd.R_lt (by (with_reducible repeat (first | apply Kd.R_alloc | apply Kd.R_drewN | apply Kd.R_drew)); exact HO666.out)) k_ hk_.2.1), (Kd.fresh' (Kd.R_lt (by (with_reducible repeat (first | apply Kd.R_alloc | apply Kd.R_drewN | apply Kd.R_drew)); exact HO669.out)) k_ hk_.2.1), (Kd.fresh' (Kd.N_lt (by (with_reducible repeat (first | apply Kd.N_alloc | apply Kd.N_drewN | apply Kd.N_drew)); exact HO672.out)) k_ hk_.2.1), (Kd.freshB (g := gb675) (o := .cells #[.bool t659, .bool t660, .slice Ao34 t661.length co34, .slice Ao35 t664.length co35, .slice Ao36 t667.length co36, .slice Ao37 t670.length co37, .bool t673, .bool t674] 25 (0, 0)) (by (with_reducible repeat (first | refine blk_drewN ?_ _ | refine blk_drew ?_ | refine blk_alloc ?_ _)); exact BK675.out) k_ hk_.2.1)⟩)) (below_size (by repeat (first | (with_reducible first | exact HB.out | apply below_alloc | apply pw_below_drewN | apply below_drew1 | refine below_set ?_ GE675.out) | exact HB.out))))
              have n8_ := Aside0.mk (blk_below (g := gb675) (o := .cells #[.bool t659, .bool t660, .slice Ao34 t661.length co34, .slice Ao35 t664.length co35, .slice Ao36 t667.length co36, .slice Ao37 t670.length co37, .bool t673, .bool t674] 25 (0, 0)) (by (with_reducible repeat (first | refine blk_drewN ?_ _ | refine blk_drew ?_ | refine blk_alloc ?_ _)); exact BK675.out) hb)
              have n9_ := Aside0.mk (below_step (by repeat (first | (with_reducible first | exact HB.out | apply below_alloc | apply pw_below_drewN | apply below_drew1 | refine below_set ?_ GE675.out) | exact HB.out)) hb)
              clear HO663
              clear HO666
              clear HO669
              clear HO672
              clear BK675
              clear HB
              have HO663 := n0_
              have HO666 := n1_
              have HO669 := n2_
              have HO672 := n3_
              have HO682 := n4_
              have HO685 := n5_
              have HO688 := n6_
              have HO691 := n7_
              have BK675 := n8_
              have HB := n9_
              clear n0_ n1_ n2_ n3_ n4_ n5_ n6_ n7_ n8_ n9_
              (try clear hb)
              (try clear hb2)
              (try clear hk)
              (try clear hi)
              (try clear ho0)
              (try clear ho1)
              (try clear ho2)
              (try clear ho3)
              obtain ⟨Ao43, co43, eo43⟩ := Kd.R_slice HO682.out
              (first | subst eo43 | (injection eo43 with f1_ f2_ f3_; have f4_ := f1_.symm; have f5_ := f3_.symm; clear f1_ f2_ f3_; subst f4_; subst f5_))
              obtain ⟨Ao44, co44, eo44⟩ := Kd.R_slice HO685.out
              (first | subst eo44 | (injection eo44 with f1_ f2_ f3_; have f4_ := f1_.symm; have f5_ := f3_.symm; clear f1_ f2_ f3_; subst f4_; subst f5_))
              obtain ⟨Ao45, co45, eo45⟩ := Kd.R_slice HO688.out
              (first | subst eo45 | (injection eo45 with f1_ f2_ f3_; have f4_ := f1_.symm; have f5_ := f3_.symm; clear f1_ f2_ f3_; subst f4_; subst f5_))
              obtain ⟨Ao46, co46, eo46⟩ := Kd.N_slice HO691.out
              (first | subst eo46 | (injection eo46 with f1_ f2_ f3_; have f4_ := f1_.symm; have f5_ := f3_.symm; clear f1_ f2_ f3_; subst f4_; subst f5_))
              refine hK.out _ _ ⟨(blk_cell BK675.out 0).trans rfl, (blk_cell BK675.out 1).trans rfl, (blk_cell BK675.out 2).trans rfl, (blk_cell BK675.out 3).trans rfl, (blk_cell BK675.out 4).trans rfl, (blk_cell BK675.out 5).trans rfl, (blk_cell BK675.out 6).trans rfl, (blk_cell BK675.out 7).trans rfl⟩ (fun hHeld => ?_)
              clear hK K
              refine norm_ (a' := ?_) ?_ ?_
              rotate_left
              · show Act.put _ (some 20) _ = _
                simp only [Act.put, List.setIfInBounds_toArray, List.set_cons_zero, List.set_cons_succ, i64_w, i32_w]
                rfl
              refine one_ (i := 15) (N := some 22) #[true, true, true, true, true, true, true, true, true, true, true, true, true, true, true, true, false, false, false, false, false, false, false, false, false, false, false, false, false, false, false, false, false] rfl rfl (one_of HT_.out (by kernel_rfl)) (by decide) (fun K hK => ?_)
              refine goes_ Try.func24 (by kernel_rfl) rfl #[.agg #[.bool t678, .bool t679, .slice Ao43 t680.length co43, .slice Ao44 t683.length co44, .slice Ao45 t686.length co45, .slice Ao46 t689.length co46, .bool t692, .bool t693], .agg #[.bool t659, .bool t660, .slice Ao34 t661.length co34, .slice Ao35 t664.length co35, .slice Ao36 t667.length co36, .slice Ao37 t670.length co37, .bool t673, .bool t674]] (by rfl) rfl rfl (by (try simp only [List.map_toArray, List.map_cons, List.map_nil]); first | done | rfl | (simp only [List.length_drop, List.length_take]; rfl)) ?_
              with_reducible refine (boltingref12_Same.calls k t678 t679 _ _ t680 _ _ t683 _ _ t686 _ _ t689 t692 t693 t659 t660 _ _ t661 _ _ t664 _ _ t667 _ _ t670 t673 t674 true _ ?side1 ?side2 ?side3 ?side4 ?side5 ?side6 ?side7 ?side8 ?side9 ?side10 ?side11 ?side12 ?side13 ?side14 ?side15 ?side16 A21.out).mono ?_
              (case side1 => repeat (first | exact (Kd.R_reads' HO682.out).2.2 | (with_reducible refine Kd.C_alloc ?_ _) | (with_reducible refine Kd.C_drewN ?_ _) | (with_reducible refine Kd.C_drew ?_)))
              (case side2 => exact (Kd.R_reads' HO682.out).2.1)
              (case side3 => repeat (first | exact (Kd.R_reads' HO685.out).2.2 | (with_reducible refine Kd.C_alloc ?_ _) | (with_reducible refine Kd.C_drewN ?_ _) | (with_reducible refine Kd.C_drew ?_)))
              (case side4 => exact (Kd.R_reads' HO685.out).2.1)
              (case side5 => repeat (first | exact (Kd.R_reads' HO688.out).2.2 | (with_reducible refine Kd.C_alloc ?_ _) | (with_reducible refine Kd.C_drewN ?_ _) | (with_reducible refine Kd.C_drew ?_)))
              (case side6 => exact (Kd.R_reads' HO688.out).2.1)
              (case side7 => repeat (first | exact (Kd.N_reads' HO691.out).2.2 | (with_reducible refine Kd.C_alloc ?_ _) | (with_reducible refine Kd.C_drewN ?_ _) | (with_reducible refine Kd.C_drew ?_)))
              (case side8 => exact (Kd.N_reads' HO691.out).2.1)
              (case side9 => repeat (first | exact (Kd.R_reads' HO663.out).2.2 | (with_reducible refine Kd.C_alloc ?_ _) | (with_reducible refine Kd.C_drewN ?_ _) | (with_reducible refine Kd.C_drew ?_)))
              (case side10 => exact (Kd.R_reads' HO663.out).2.1)
              (case side11 => repeat (first | exact (Kd.R_reads' HO666.out).2.2 | (with_reducible refine Kd.C_alloc ?_ _) | (with_reducible refine Kd.C_drewN ?_ _) | (with_reducible refine Kd.C_drew ?_)))
              (case side12 => exact (Kd.R_reads' HO666.out).2.1)
              (case side13 => repeat (first | exact (Kd.R_reads' HO669.out).2.2 | (with_reducible refine Kd.C_alloc ?_ _) | (with_reducible refine Kd.C_drewN ?_ _) | (with_reducible refine Kd.C_drew ?_)))
              (case side14 => exact (Kd.R_reads' HO669.out).2.1)
              (case side15 => repeat (first | exact (Kd.N_reads' HO672.out).2.2 | (with_reducible refine Kd.C_alloc ?_ _) | (with_reducible refine Kd.C_drewN ?_ _) | (with_reducible refine Kd.C_drew ?_)))
              (case side16 => exact (Kd.N_reads' HO672.out).2.1)
              rintro e w47 ⟨rfl, hb⟩
              refine ⟨_, rfl, ?_⟩
              have n0_ := Aside0.mk (Kd.R_below (by (with_reducible repeat (first | apply Kd.R_alloc | apply Kd.R_drewN | apply Kd.R_drew)); exact HO663.out) hb)
              have n1_ := Aside0.mk (Kd.R_below (by (with_reducible repeat (first | apply Kd.R_alloc | apply Kd.R_drewN | apply Kd.R_drew)); exact HO666.out) hb)
              have n2_ := Aside0.mk (Kd.R_below (by (with_reducible repeat (first | apply Kd.R_alloc | apply Kd.R_drewN | apply Kd.R_drew)); exact HO669.out) hb)
              have n3_ := Aside0.mk (Kd.N_below (by (with_reducible repeat (first | apply Kd.N_alloc | apply Kd.N_drewN | apply Kd.N_drew)); exact HO672.out) hb)
              have n4_ := Aside0.mk (Kd.R_below (by (with_reducible repeat (first | apply Kd.R_alloc | apply Kd.R_drewN | apply Kd.R_drew)); exact HO682.out) hb)
              have n5_ := Aside0.mk (Kd.R_below (by (with_reducible repeat (first | apply Kd.R_alloc | apply Kd.R_drewN | apply Kd.R_drew)); exact HO685.out) hb)
              have n6_ := Aside0.mk (Kd.R_below (by (with_reducible repeat (first | apply Kd.R_alloc | apply Kd.R_drewN | apply Kd.R_drew)); exact HO688.out) hb)
              have n7_ := Aside0.mk (Kd.N_below (by (with_reducible repeat (first | apply Kd.N_alloc | apply Kd.N_drewN | apply Kd.N_drew)); exact HO691.out) hb)
              have n8_ := Aside0.mk (blk_below (g := gb675) (o := .cells #[.bool t659, .bool t660, .slice Ao34 t661.length co34, .slice Ao35 t664.length co35, .slice Ao36 t667.length co36, .slice Ao37 t670.length co37, .bool t673, .bool t674] 25 (0, 0)) (by (with_reducible repeat (first | refine blk_drewN ?_ _ | refine blk_drew ?_ | refine blk_alloc ?_ _)); exact BK675.out) hb)
              have n9_ := Aside0.mk (below_step (by repeat (first | (with_reducible first | exact HB.out | apply below_alloc | apply pw_below_drewN | apply below_drew1 | refine below_set ?_ GE675.out) | exact HB.out)) hb)
              clear HO663
              clear HO666
              clear HO669
              clear HO672
              clear HO682
              clear HO685
              clear HO688
              clear HO691
              clear BK675
              clear HB
              have HO663 := n0_
              have HO666 := n1_
              have HO669 := n2_
              have HO672 := n3_
              have HO682 := n4_
              have HO685 := n5_
              have HO688 := n6_
              have HO691 := n7_
              have BK675 := n8_
              have HB := n9_
              clear n0_ n1_ n2_ n3_ n4_ n5_ n6_ n7_ n8_ n9_
              (try clear hb)
              (try clear hb2)
              (try clear hk)
              (try clear hi)
              refine hK.out _ _ ⟨(blk_cell BK675.out 0).trans rfl, (blk_cell BK675.out 1).trans rfl, (blk_cell BK675.out 2).trans rfl, (blk_cell BK675.out 3).trans rfl, (blk_cell BK675.out 4).trans rfl, (blk_cell BK675.out 5).trans rfl, (blk_cell BK675.out 6).trans rfl, (blk_cell BK675.out 7).trans rfl⟩ (fun hHeld => ?_)
              clear hK K
              refine norm_ (a' := ?_) ?_ ?_
              rotate_left
              · show Act.put _ (some 22) _ = _
                simp only [Act.put, List.setIfInBounds_toArray, List.set_cons_zero, List.set_cons_succ, i64_w, i32_w]
                rfl
              refine pure_ (i := 16) (N := some 23) (v := ?_) (a' := ?_) #[true, true, true, true, true, true, true, true, true, true, true, true, true, true, true, true, true, false, false, false, false, false, false, false, false, false, false, false, false, false, false, false, false] rfl rfl (any_of HT_.out (by kernel_rfl)) (fun _ _ _ h => h) (Or.inl ⟨by rfl, ?_⟩) ?_ ?_
              rotate_left
              · intro w'
                go_simp
                with_reducible rfl
              rotate_left
              · simp only [Act.put, List.setIfInBounds_toArray, List.set_cons_zero, List.set_cons_succ, i64_w, i32_w]
                rfl
              refine pure_ (i := 17) (N := some 24) (v := ?_) (a' := ?_) #[true, true, true, true, true, true, true, true, true, true, true, true, true, true, true, true, true, true, false, false, false, false, false, false, false, false, false, false, false, false, false, false, false] rfl rfl (any_of HT_.out (by kernel_rfl)) (fun _ _ _ h => h) (Or.inl ⟨by rfl, ?_⟩) ?_ ?_
              rotate_left
              · intro w'
                go_simp
                with_reducible rfl
              rotate_left
              · simp only [Act.put, List.setIfInBounds_toArray, List.set_cons_zero, List.set_cons_succ, i64_w, i32_w]
                rfl
              refine take_ (i := 18) (N := some 25) (v := ?_) (a' := ?_) #[true, true, true, true, true, true, true, true, true, true, true, true, true, true, true, true, true, true, true, false, false, false, false, false, false, false, false, false, false, false, false, false, false] rfl rfl (take_ofW HT_.out HW_.out (by kernel_rfl)) (fun _ _ _ h => h) (Or.inl ⟨by rfl, ?_⟩) hHeld ?_ ?_
              rotate_left
              · rintro w' ⟨s0, s1, s2, s3, s4, s5, s6, s7⟩
                go_simp
                with_reducible rfl
              rotate_left
              · simp only [Act.put, List.setIfInBounds_toArray, List.set_cons_zero, List.set_cons_succ, i64_w, i32_w]
                rfl
              refine take_ (i := 20) (N := some 27) (v := ?_) (a' := ?_) #[true, true, true, true, true, true, true, true, true, true, true, true, true, true, true, true, true, true, true, false, true, false, false, false, false, false, false, false, false, false, false, false, false] rfl rfl (take_ofW HT_.out HW_.out (by kernel_rfl)) (fun _ _ _ h => h) (Or.inl ⟨by rfl, ?_⟩) hHeld ?_ ?_
              rotate_left
              · rintro w' ⟨s0, s1, s2, s3, s4, s5, s6, s7⟩
                go_simp
                with_reducible rfl
              rotate_left
              · simp only [Act.put, List.setIfInBounds_toArray, List.set_cons_zero, List.set_cons_succ, i64_w, i32_w]
                rfl
              refine one_ (i := 19) (N := some 26) #[true, true, true, true, true, true, true, true, true, true, true, true, true, true, true, true, true, true, true, true, true, false, false, false, false, false, false, false, false, false, false, false, false] rfl rfl (one_of HT_.out (by kernel_rfl)) (by decide) (fun K hK => ?_)
              refine goes_ Try.func17 (by kernel_rfl) rfl #[.agg #[.bool t659, .bool t660, .slice Ao34 t661.length co34, .slice Ao35 t664.length co35, .slice Ao36 t667.length co36, .slice Ao37 t670.length co37, .bool t673, .bool t674]] (by rfl) rfl rfl (by (try simp only [List.map_toArray, List.map_cons, List.map_nil]); first | done | rfl | (simp only [List.length_drop, List.length_take]; rfl)) ?_
              with_reducible refine (config_Strip.calls t659 t660 _ _ t661 _ _ t664 _ _ t667 _ _ t670 t673 t674 t695 t696 t697 t700 t703 t706 t709 t710 _ ?side1 ?side2 ?side3 ?side4 ?side5 ?side6 ?okp7_0 ?side7 ?side8 A23.out).mono ?_
              (case side1 => repeat (first | exact (Kd.R_reads' HO663.out).2.2 | (with_reducible refine Kd.C_alloc ?_ _) | (with_reducible refine Kd.C_drewN ?_ _) | (with_reducible refine Kd.C_drew ?_)))
              (case side2 => exact (Kd.R_reads' HO663.out).2.1)
              (case side3 => repeat (first | exact (Kd.R_reads' HO666.out).2.2 | (with_reducible refine Kd.C_alloc ?_ _) | (with_reducible refine Kd.C_drewN ?_ _) | (with_reducible refine Kd.C_drew ?_)))
              (case side4 => exact (Kd.R_reads' HO666.out).2.1)
              (case side5 => repeat (first | exact (Kd.R_reads' HO669.out).2.2 | (with_reducible refine Kd.C_alloc ?_ _) | (with_reducible refine Kd.C_drewN ?_ _) | (with_reducible refine Kd.C_drew ?_)))
              (case side6 => exact (Kd.R_reads' HO669.out).2.1)
              (case side7 => repeat (first | exact Shares.of_N HO672.out | (with_reducible refine Shares.alloc ?_ _) | (with_reducible refine Shares.drewN ?_ _) | (with_reducible refine Shares.drew ?_)))
              (case side8 => exact (Kd.N_reads' HO672.out).2.1)
              rintro e w48 ⟨v698, v701, v704, v707, rfl, ho0, ho1, ho2, ho3, hb⟩
              refine ⟨_, rfl, ?_⟩
              have n0_ := Aside0.mk (Kd.R_mono (Kd.R_told (Kd.R_told (Kd.R_told (Kd.R_old (by (with_reducible repeat (first | apply Kd.R_alloc | apply Kd.R_drewN | apply Kd.R_drew)); exact HO663.out) hb) (Kd.R_base ho0)) (Kd.R_base ho1)) (Kd.R_base ho2)) (fun _ h_ => h_.1))
              have n1_ := Aside0.mk (Kd.R_mono (Kd.R_told (Kd.R_told (Kd.R_told (Kd.R_old (by (with_reducible repeat (first | apply Kd.R_alloc | apply Kd.R_drewN | apply Kd.R_drew)); exact HO666.out) hb) (Kd.R_base ho0)) (Kd.R_base ho1)) (Kd.R_base ho2)) (fun _ h_ => h_.1))
              have n2_ := Aside0.mk (Kd.R_mono (Kd.R_told (Kd.R_told (Kd.R_told (Kd.R_old (by (with_reducible repeat (first | apply Kd.R_alloc | apply Kd.R_drewN | apply Kd.R_drew)); exact HO669.out) hb) (Kd.R_base ho0)) (Kd.R_base ho1)) (Kd.R_base ho2)) (fun _ h_ => h_.1))
              have n3_ := Aside0.mk (Kd.N_mono (Kd.N_told (Kd.N_told (Kd.N_told (Kd.N_told (Kd.N_old (by (with_reducible repeat (first | apply Kd.N_alloc | apply Kd.N_drewN | apply Kd.N_drew)); exact HO672.out) hb) (Kd.R_base ho0)) (Kd.R_base ho1)) (Kd.R_base ho2)) (Kd.N_base ho3)) (fun _ h_ => h_.1))
              have n4_ := Aside0.mk (Kd.R_mono (Kd.R_told (Kd.R_told (Kd.R_told (Kd.R_old (by (with_reducible repeat (first | apply Kd.R_alloc | apply Kd.R_drewN | apply Kd.R_drew)); exact HO682.out) hb) (Kd.R_base ho0)) (Kd.R_base ho1)) (Kd.R_base ho2)) (fun _ h_ => h_.1))
              have n5_ := Aside0.mk (Kd.R_mono (Kd.R_told (Kd.R_told (Kd.R_told (Kd.R_old (by (with_reducible repeat (first | apply Kd.R_alloc | apply Kd.R_drewN | apply Kd.R_drew)); exact HO685.out) hb) (Kd.R_base ho0)) (Kd.R_base ho1)) (Kd.R_base ho2)) (fun _ h_ => h_.1))
              have n6_ := Aside0.mk (Kd.R_mono (Kd.R_told (Kd.R_told (Kd.R_told (Kd.R_old (by (with_reducible repeat (first | apply Kd.R_alloc | apply Kd.R_drewN | apply Kd.R_drew)); exact HO688.out) hb) (Kd.R_base ho0)) (Kd.R_base ho1)) (Kd.R_base ho2)) (fun _ h_ => h_.1))
              have n7_ := Aside0.mk (Kd.N_mono (Kd.N_told (Kd.N_told (Kd.N_told (Kd.N_told (Kd.N_old (by (with_reducible repeat (first | apply Kd.N_alloc | apply Kd.N_drewN | apply Kd.N_drew)); exact HO691.out) hb) (Kd.R_base ho0)) (Kd.R_base ho1)) (Kd.R_base ho2)) (Kd.N_base ho3)) (fun _ h_ => h_.1))
              have n8_ := Aside0.mk (Kd.R_lower (Kd.R_new' (Kd.R_new' (Kd.R_new' (Kd.R_new' (Kd.R_new' (Kd.R_new' ho0 (Kd.R_lt (by (with_reducible repeat (first | apply Kd.R_alloc | apply Kd.R_drewN | apply Kd.R_drew)); exact HO663.out))) (Kd.R_lt (by (with_reducible repeat (first | apply Kd.R_alloc | apply Kd.R_drewN | apply Kd.R_drew)); exact HO666.out))) (Kd.R_lt (by (with_reducible repeat (first | apply Kd.R_alloc | apply Kd.R_drewN | apply Kd.R_drew)); exact HO669.out))) (Kd.R_lt (by (with_reducible repeat (first | apply Kd.R_alloc | apply Kd.R_drewN | apply Kd.R_drew)); exact HO682.out))) (Kd.R_lt (by (with_reducible repeat (first | apply Kd.R_alloc | apply Kd.R_drewN | apply Kd.R_drew)); exact HO685.out))) (Kd.R_lt (by (with_reducible repeat (first | apply Kd.R_alloc | apply Kd.R_drewN | apply Kd.R_drew)); exact HO688.out))) (below_size (by repeat (first | (with_reducible first | exact HB.out | apply below_alloc | apply pw_below_drewN | apply below_drew1 | refine below_set ?_ GE675.out) | exact HB.out))))
              have n9_ := Aside0.mk (Kd.R_lower (Kd.R_new' (Kd.R_new' (Kd.R_new' (Kd.R_new' (Kd.R_new' (Kd.R_new' ho1 (Kd.R_lt (by (with_reducible repeat (first | apply Kd.R_alloc | apply Kd.R_drewN | apply Kd.R_drew)); exact HO663.out))) (Kd.R_lt (by (with_reducible repeat (first | apply Kd.R_alloc | apply Kd.R_drewN | apply Kd.R_drew)); exact HO666.out))) (Kd.R_lt (by (with_reducible repeat (first | apply Kd.R_alloc | apply Kd.R_drewN | apply Kd.R_drew)); exact HO669.out))) (Kd.R_lt (by (with_reducible repeat (first | apply Kd.R_alloc | apply Kd.R_drewN | apply Kd.R_drew)); exact HO682.out))) (Kd.R_lt (by (with_reducible repeat (first | apply Kd.R_alloc | apply Kd.R_drewN | apply Kd.R_drew)); exact HO685.out))) (Kd.R_lt (by (with_reducible repeat (first | apply Kd.R_alloc | apply Kd.R_drewN | apply Kd.R_drew)); exact HO688.out))) (below_size (by repeat (first | (with_reducible first | exact HB.out | apply below_alloc | apply pw_below_drewN | apply below_drew1 | refine below_set ?_ GE675.out) | exact HB.out))))
              have n10_ := Aside0.mk (Kd.R_lower (Kd.R_new' (Kd.R_new' (Kd.R_new' (Kd.R_new' (Kd.R_new' (Kd.R_new' ho2 (Kd.R_lt (by (with_reducible repeat (first | apply Kd.R_alloc | apply Kd.R_drewN | apply Kd.R_drew)); exact HO663.out))) (Kd.R_lt (by (with_reducible repeat (first | apply Kd.R_alloc | apply Kd.R_drewN | apply Kd.R_drew)); exact HO666.out))) (Kd.R_lt (by (with_reducible repeat (first | apply Kd.R_alloc | apply Kd.R_drewN | apply Kd.R_drew)); exact HO669.out))) (Kd.R_lt (by (with_reducible repeat (first | apply Kd.R_alloc | apply Kd.R_drewN | apply Kd.R_drew)); exact HO682.out))) (Kd.R_lt (by (with_reducible repeat (first | apply Kd.R_alloc | apply Kd.R_drewN | apply Kd.R_drew)); exact HO685.out))) (Kd.R_lt (by (with_reducible repeat (first | apply Kd.R_alloc | apply Kd.R_drewN | apply Kd.R_drew)); exact HO688.out))) (below_size (by repeat (first | (with_reducible first | exact HB.out | apply below_alloc | apply pw_below_drewN | apply below_drew1 | refine below_set ?_ GE675.out) | exact HB.out))))
              have n11_ := Aside0.mk (Kd.N_lower (Kd.N_mono (ok' := fun k_ => some k_ ≠ (v698 : Value).ownBlock ∧ some k_ ≠ (v701 : Value).ownBlock ∧ some k_ ≠ (v704 : Value).ownBlock ∧ some k_ ≠ (.slice Ao34 t661.length co34 : Value).ownBlock ∧ some k_ ≠ (.slice Ao35 t664.length co35 : Value).ownBlock ∧ some k_ ≠ (.slice Ao36 t667.length co36 : Value).ownBlock ∧ some k_ ≠ (.slice Ao37 t670.length co37 : Value).ownBlock ∧ some k_ ≠ (.slice Ao43 t680.length co43 : Value).ownBlock ∧ some k_ ≠ (.slice Ao44 t683.length co44 : Value).ownBlock ∧ some k_ ≠ (.slice Ao45 t686.length co45 : Value).ownBlock ∧ some k_ ≠ (.slice Ao46 t689.length co46 : Value).ownBlock ∧ k_ ≠ gb675) ho3 (fun k_ hk_ => ⟨hk_.1.1, hk_.1.2.1, hk_.1.2.2, (hk_.2.elim (fun h_ => (Kd.fresh' (Kd.R_lt (by (with_reducible repeat (first | apply Kd.R_alloc | apply Kd.R_drewN | apply Kd.R_drew)); exact HO663.out)) k_ h_)) (fun h_ => by (revert h_; simp only [and_imp]; intros; assumption))), (hk_.2.elim (fun h_ => (Kd.fresh' (Kd.R_lt (by (with_reducible repeat (first | apply Kd.R_alloc | apply Kd.R_drewN | apply Kd.R_drew)); exact HO666.out)) k_ h_)) (fun h_ => by (revert h_; simp only [and_imp]; intros; assumption))), (hk_.2.elim (fun h_ => (Kd.fresh' (Kd.R_lt (by (with_reducible repeat (first | apply Kd.R_alloc | apply Kd.R_drewN | apply Kd.R_drew)); exact HO669.out)) k_ h_)) (fun h_ => by (revert h_; simp only [and_imp]; intros; assumption))), (hk_.2.elim (fun h_ => (Kd.fresh' (Kd.N_lt (by (with_reducible repeat (first | apply Kd.N_alloc | apply Kd.N_drewN | apply Kd.N_drew)); exact HO672.out)) k_ h_)) (fun h_ => by (revert h_; simp only [and_imp]; intros; assumption))), (hk_.2.elim (fun h_ => (Kd.fresh' (Kd.R_lt (by (with_reducible repeat (first | apply Kd.R_alloc | apply Kd.R_drewN | apply Kd.R_drew)); exact HO682.out)) k_ h_)) (fun h_ => by (revert h_; simp only [and_imp]; intros; assumption))), (hk_.2.elim (fun h_ => (Kd.fresh' (Kd.R_lt (by (with_reducible repeat (first | apply Kd.R_alloc | apply Kd.R_drewN | apply Kd.R_drew)); exact HO685.out)) k_ h_)) (fun h_ => by (revert h_; simp only [and_imp]; intros; assumption))), (hk_.2.elim (fun h_ => (Kd.fresh' (Kd.R_lt (by (with_reducible repeat (first | apply Kd.R_alloc | apply Kd.R_drewN | apply Kd.R_drew)); exact HO688.out)) k_ h_)) (fun h_ => by (revert h_; simp only [and_imp]; intros; assumption))), (hk_.2.elim (fun h_ => (Kd.fresh' (Kd.N_lt (by (with_reducible repeat (first | apply Kd.N_alloc | apply Kd.N_drewN | apply Kd.N_drew)); exact HO691.out)) k_ h_)) (fun h_ => by (revert h_; simp only [and_imp]; intros; assumption))), (hk_.2.elim (fun h_ => (Kd.freshB (g := gb675) (o := .cells #[.bool t659, .bool t660, .slice Ao34 t661.length co34, .slice Ao35 t664.length co35, .slice Ao36 t667.length co36, .slice Ao37 t670.length co37, .bool t673, .bool t674] 25 (0, 0)) (by (with_reducible repeat (first | refine blk_drewN ?_ _ | refine blk_drew ?_ | refine blk_alloc ?_ _)); exact BK675.out) k_ h_)) (fun h_ => by (revert h_; simp only [and_imp]; intros; assumption)))⟩)) (below_size (by repeat (first | (with_reducible first | exact HB.out | apply below_alloc | apply pw_below_drewN | apply below_drew1 | refine below_set ?_ GE675.out) | exact HB.out))))
              have n12_ := Aside0.mk (blk_below (g := gb675) (o := .cells #[.bool t659, .bool t660, .slice Ao34 t661.length co34, .slice Ao35 t664.length co35, .slice Ao36 t667.length co36, .slice Ao37 t670.length co37, .bool t673, .bool t674] 25 (0, 0)) (by (with_reducible repeat (first | refine blk_drewN ?_ _ | refine blk_drew ?_ | refine blk_alloc ?_ _)); exact BK675.out) hb)
              have n13_ := Aside0.mk (below_step (by repeat (first | (with_reducible first | exact HB.out | apply below_alloc | apply pw_below_drewN | apply below_drew1 | refine below_set ?_ GE675.out) | exact HB.out)) hb)
              clear HO663
              clear HO666
              clear HO669
              clear HO672
              clear HO682
              clear HO685
              clear HO688
              clear HO691
              clear BK675
              clear HB
              have HO663 := n0_
              have HO666 := n1_
              have HO669 := n2_
              have HO672 := n3_
              have HO682 := n4_
              have HO685 := n5_
              have HO688 := n6_
              have HO691 := n7_
              have HO699 := n8_
              have HO702 := n9_
              have HO705 := n10_
              have HO708 := n11_
              have BK675 := n12_
              have HB := n13_
              clear n0_ n1_ n2_ n3_ n4_ n5_ n6_ n7_ n8_ n9_ n10_ n11_ n12_ n13_
              (try clear hb)
              (try clear hb2)
              (try clear hk)
              (try clear hi)
              (try clear ho0)
              (try clear ho1)
              (try clear ho2)
              (try clear ho3)
              obtain ⟨Ao49, co49, eo49⟩ := Kd.R_slice HO699.out
              (first | subst eo49 | (injection eo49 with f1_ f2_ f3_; have f4_ := f1_.symm; have f5_ := f3_.symm; clear f1_ f2_ f3_; subst f4_; subst f5_))
              obtain ⟨Ao50, co50, eo50⟩ := Kd.R_slice HO702.out
              (first | subst eo50 | (injection eo50 with f1_ f2_ f3_; have f4_ := f1_.symm; have f5_ := f3_.symm; clear f1_ f2_ f3_; subst f4_; subst f5_))
              obtain ⟨Ao51, co51, eo51⟩ := Kd.R_slice HO705.out
              (first | subst eo51 | (injection eo51 with f1_ f2_ f3_; have f4_ := f1_.symm; have f5_ := f3_.symm; clear f1_ f2_ f3_; subst f4_; subst f5_))
              obtain ⟨Ao52, co52, eo52⟩ := Kd.N_slice HO708.out
              (first | subst eo52 | (injection eo52 with f1_ f2_ f3_; have f4_ := f1_.symm; have f5_ := f3_.symm; clear f1_ f2_ f3_; subst f4_; subst f5_))
              refine hK.out _ _ ⟨(blk_cell BK675.out 0).trans rfl, (blk_cell BK675.out 1).trans rfl, (blk_cell BK675.out 2).trans rfl, (blk_cell BK675.out 3).trans rfl, (blk_cell BK675.out 4).trans rfl, (blk_cell BK675.out 5).trans rfl, (blk_cell BK675.out 6).trans rfl, (blk_cell BK675.out 7).trans rfl⟩ (fun hHeld => ?_)
              clear hK K
              refine norm_ (a' := ?_) ?_ ?_
              rotate_left
              · show Act.put _ (some 26) _ = _
                simp only [Act.put, List.setIfInBounds_toArray, List.set_cons_zero, List.set_cons_succ, i64_w, i32_w]
                rfl
              refine one_ (i := 21) (N := some 28) #[true, true, true, true, true, true, true, true, true, true, true, true, true, true, true, true, true, true, true, true, true, true, false, false, false, false, false, false, false, false, false, false, false] rfl rfl (one_of HT_.out (by kernel_rfl)) (by decide) (fun K hK => ?_)
              refine goes_ Try.func24 (by kernel_rfl) rfl #[.agg #[.bool t695, .bool t696, .slice Ao49 t697.length co49, .slice Ao50 t700.length co50, .slice Ao51 t703.length co51, .slice Ao52 t706.length co52, .bool t709, .bool t710], .agg #[.bool t659, .bool t660, .slice Ao34 t661.length co34, .slice Ao35 t664.length co35, .slice Ao36 t667.length co36, .slice Ao37 t670.length co37, .bool t673, .bool t674]] (by rfl) rfl rfl (by (try simp only [List.map_toArray, List.map_cons, List.map_nil]); first | done | rfl | (simp only [List.length_drop, List.length_take]; rfl)) ?_
              with_reducible refine (boltingref12_Same.calls k t695 t696 _ _ t697 _ _ t700 _ _ t703 _ _ t706 t709 t710 t659 t660 _ _ t661 _ _ t664 _ _ t667 _ _ t670 t673 t674 true _ ?side1 ?side2 ?side3 ?side4 ?side5 ?side6 ?side7 ?side8 ?side9 ?side10 ?side11 ?side12 ?side13 ?side14 ?side15 ?side16 A24.out).mono ?_
              (case side1 => repeat (first | exact (Kd.R_reads' HO699.out).2.2 | (with_reducible refine Kd.C_alloc ?_ _) | (with_reducible refine Kd.C_drewN ?_ _) | (with_reducible refine Kd.C_drew ?_)))
              (case side2 => exact (Kd.R_reads' HO699.out).2.1)
              (case side3 => repeat (first | exact (Kd.R_reads' HO702.out).2.2 | (with_reducible refine Kd.C_alloc ?_ _) | (with_reducible refine Kd.C_drewN ?_ _) | (with_reducible refine Kd.C_drew ?_)))
              (case side4 => exact (Kd.R_reads' HO702.out).2.1)
              (case side5 => repeat (first | exact (Kd.R_reads' HO705.out).2.2 | (with_reducible refine Kd.C_alloc ?_ _) | (with_reducible refine Kd.C_drewN ?_ _) | (with_reducible refine Kd.C_drew ?_)))
              (case side6 => exact (Kd.R_reads' HO705.out).2.1)
              (case side7 => repeat (first | exact (Kd.N_reads' HO708.out).2.2 | (with_reducible refine Kd.C_alloc ?_ _) | (with_reducible refine Kd.C_drewN ?_ _) | (with_reducible refine Kd.C_drew ?_)))
              (case side8 => exact (Kd.N_reads' HO708.out).2.1)
              (case side9 => repeat (first | exact (Kd.R_reads' HO663.out).2.2 | (with_reducible refine Kd.C_alloc ?_ _) | (with_reducible refine Kd.C_drewN ?_ _) | (with_reducible refine Kd.C_drew ?_)))
              (case side10 => exact (Kd.R_reads' HO663.out).2.1)
              (case side11 => repeat (first | exact (Kd.R_reads' HO666.out).2.2 | (with_reducible refine Kd.C_alloc ?_ _) | (with_reducible refine Kd.C_drewN ?_ _) | (with_reducible refine Kd.C_drew ?_)))
              (case side12 => exact (Kd.R_reads' HO666.out).2.1)
              (case side13 => repeat (first | exact (Kd.R_reads' HO669.out).2.2 | (with_reducible refine Kd.C_alloc ?_ _) | (with_reducible refine Kd.C_drewN ?_ _) | (with_reducible refine Kd.C_drew ?_)))
              (case side14 => exact (Kd.R_reads' HO669.out).2.1)
              (case side15 => repeat (first | exact (Kd.N_reads' HO672.out).2.2 | (with_reducible refine Kd.C_alloc ?_ _) | (with_reducible refine Kd.C_drewN ?_ _) | (with_reducible refine Kd.C_drew ?_)))
              (case side16 => exact (Kd.N_reads' HO672.out).2.1)
              rintro e w53 ⟨rfl, hb⟩
              refine ⟨_, rfl, ?_⟩
              have n0_ := Aside0.mk (Kd.R_below (by (with_reducible repeat (first | apply Kd.R_alloc | apply Kd.R_drewN | apply Kd.R_drew)); exact HO663.out) hb)
              have n1_ := Aside0.mk (Kd.R_below (by (with_reducible repeat (first | apply Kd.R_alloc | apply Kd.R_drewN | apply Kd.R_drew)); exact HO666.out) hb)
              have n2_ := Aside0.mk (Kd.R_below (by (with_reducible repeat (first | apply Kd.R_alloc | apply Kd.R_drewN | apply Kd.R_drew)); exact HO669.out) hb)
              have n3_ := Aside0.mk (Kd.N_below (by (with_reducible repeat (first | apply Kd.N_alloc | apply Kd.N_drewN | apply Kd.N_drew)); exact HO672.out) hb)
              have n4_ := Aside0.mk (Kd.R_below (by (with_reducible repeat (first | apply Kd.R_alloc | apply Kd.R_drewN | apply Kd.R_drew)); exact HO682.out) hb)
              have n5_ := Aside0.mk (Kd.R_below (by (with_reducible repeat (first | apply Kd.R_alloc | apply Kd.R_drewN | apply Kd.R_drew)); exact HO685.out) hb)
              have n6_ := Aside0.mk (Kd.R_below (by (with_reducible repeat (first | apply Kd.R_alloc | apply Kd.R_drewN | apply Kd.R_drew)); exact HO688.out) hb)
              have n7_ := Aside0.mk (Kd.N_below (by (with_reducible repeat (first | apply Kd.N_alloc | apply Kd.N_drewN | apply Kd.N_drew)); exact HO691.out) hb)
              have n8_ := Aside0.mk (Kd.R_below (by (with_reducible repeat (first | apply Kd.R_alloc | apply Kd.R_drewN | apply Kd.R_drew)); exact HO699.out) hb)
              have n9_ := Aside0.mk (Kd.R_below (by (with_reducible repeat (first | apply Kd.R_alloc | apply Kd.R_drewN | apply Kd.R_drew)); exact HO702.out) hb)
              have n10_ := Aside0.mk (Kd.R_below (by (with_reducible repeat (first | apply Kd.R_alloc | apply Kd.R_drewN | apply Kd.R_drew)); exact HO705.out) hb)
              have n11_ := Aside0.mk (Kd.N_below (by (with_reducible repeat (first | apply Kd.N_alloc | apply Kd.N_drewN | apply Kd.N_drew)); exact HO708.out) hb)
              have n12_ := Aside0.mk (blk_below (g := gb675) (o := .cells #[.bool t659, .bool t660, .slice Ao34 t661.length co34, .slice Ao35 t664.length co35, .slice Ao36 t667.length co36, .slice Ao37 t670.length co37, .bool t673, .bool t674] 25 (0, 0)) (by (with_reducible repeat (first | refine blk_drewN ?_ _ | refine blk_drew ?_ | refine blk_alloc ?_ _)); exact BK675.out) hb)
              have n13_ := Aside0.mk (below_step (by repeat (first | (with_reducible first | exact HB.out | apply below_alloc | apply pw_below_drewN | apply below_drew1 | refine below_set ?_ GE675.out) | exact HB.out)) hb)
              clear HO663
              clear HO666
              clear HO669
              clear HO672
              clear HO682
              clear HO685
              clear HO688
              clear HO691
              clear HO699
              clear HO702
              clear HO705
              clear HO708
              clear BK675
              clear HB
              have HO663 := n0_
              have HO666 := n1_
              have HO669 := n2_
              have HO672 := n3_
              have HO682 := n4_
              have HO685 := n5_
              have HO688 := n6_
              have HO691 := n7_
              have HO699 := n8_
              have HO702 := n9_
              have HO705 := n10_
              have HO708 := n11_
              have BK675 := n12_
              have HB := n13_
              clear n0_ n1_ n2_ n3_ n4_ n5_ n6_ n7_ n8_ n9_ n10_ n11_ n12_ n13_
              (try clear hb)
              (try clear hb2)
              (try clear hk)
              (try clear hi)
              refine hK.out _ _ ⟨(blk_cell BK675.out 0).trans rfl, (blk_cell BK675.out 1).trans rfl, (blk_cell BK675.out 2).trans rfl, (blk_cell BK675.out 3).trans rfl, (blk_cell BK675.out 4).trans rfl, (blk_cell BK675.out 5).trans rfl, (blk_cell BK675.out 6).trans rfl, (blk_cell BK675.out 7).trans rfl⟩ (fun hHeld => ?_)
              clear hK K
              refine norm_ (a' := ?_) ?_ ?_
              rotate_left
              · show Act.put _ (some 28) _ = _
                simp only [Act.put, List.setIfInBounds_toArray, List.set_cons_zero, List.set_cons_succ, i64_w, i32_w]
                rfl
              refine pure_ (i := 22) (N := some 29) (v := ?_) (a' := ?_) #[true, true, true, true, true, true, true, true, true, true, true, true, true, true, true, true, true, true, true, true, true, true, true, false, false, false, false, false, false, false, false, false, false] rfl rfl (any_of HT_.out (by kernel_rfl)) (fun _ _ _ h => h) (Or.inl ⟨by rfl, ?_⟩) ?_ ?_
              rotate_left
              · intro w'
                go_simp
                with_reducible rfl
              rotate_left
              · simp only [Act.put, List.setIfInBounds_toArray, List.set_cons_zero, List.set_cons_succ, i64_w, i32_w]
                rfl
              refine pure_ (i := 23) (N := some 30) (v := ?_) (a' := ?_) #[true, true, true, true, true, true, true, true, true, true, true, true, true, true, true, true, true, true, true, true, true, true, true, true, false, false, false, false, false, false, false, false, false] rfl rfl (any_of HT_.out (by kernel_rfl)) (fun _ _ _ h => h) (Or.inl ⟨by rfl, ?_⟩) ?_ ?_
              rotate_left
              · intro w'
                go_simp
                with_reducible rfl
              rotate_left
              · simp only [Act.put, List.setIfInBounds_toArray, List.set_cons_zero, List.set_cons_succ, i64_w, i32_w]
                rfl
              refine one_ (i := 24) (N := some 31) #[true, true, true, true, true, true, true, true, true, true, true, true, true, true, true, true, true, true, true, true, true, true, true, true, true, false, false, false, false, false, false, false, false] rfl rfl (one_of HT_.out (by kernel_rfl)) (by decide) (fun K hK => ?_)
              refine goes_ Try.func29 (by kernel_rfl) rfl #[] (by rfl) rfl rfl (by (try simp only [List.map_toArray, List.map_cons, List.map_nil]); first | done | rfl | (simp only [List.length_drop, List.length_take]; rfl)) ?_
              with_reducible refine (config_All.calls  t712 t713 t714 t717 t720 t723 t726 t727 _ A26.out).mono ?_
              rintro e w54 ⟨v715, v718, v721, v724, rfl, ho0, ho1, ho2, ho3, hb⟩
              refine ⟨_, rfl, ?_⟩
              have n0_ := Aside0.mk (Kd.R_mono (Kd.R_told (Kd.R_told (Kd.R_told (Kd.R_old (by (with_reducible repeat (first | apply Kd.R_alloc | apply Kd.R_drewN | apply Kd.R_drew)); exact HO663.out) hb) (Kd.R_base ho0)) (Kd.R_base ho1)) (Kd.R_base ho2)) (fun _ h_ => h_.1))
              have n1_ := Aside0.mk (Kd.R_mono (Kd.R_told (Kd.R_told (Kd.R_told (Kd.R_old (by (with_reducible repeat (first | apply Kd.R_alloc | apply Kd.R_drewN | apply Kd.R_drew)); exact HO666.out) hb) (Kd.R_base ho0)) (Kd.R_base ho1)) (Kd.R_base ho2)) (fun _ h_ => h_.1))
              have n2_ := Aside0.mk (Kd.R_mono (Kd.R_told (Kd.R_told (Kd.R_told (Kd.R_old (by (with_reducible repeat (first | apply Kd.R_alloc | apply Kd.R_drewN | apply Kd.R_drew)); exact HO669.out) hb) (Kd.R_base ho0)) (Kd.R_base ho1)) (Kd.R_base ho2)) (fun _ h_ => h_.1))
              have n3_ := Aside0.mk (Kd.N_mono (Kd.N_told (Kd.N_told (Kd.N_told (Kd.N_told (Kd.N_old (by (with_reducible repeat (first | apply Kd.N_alloc | apply Kd.N_drewN | apply Kd.N_drew)); exact HO672.out) hb) (Kd.R_base ho0)) (Kd.R_base ho1)) (Kd.R_base ho2)) (Kd.N_base (Kd.S_N ho3))) (fun _ h_ => h_.1))
              have n4_ := Aside0.mk (Kd.R_mono (Kd.R_told (Kd.R_told (Kd.R_told (Kd.R_old (by (with_reducible repeat (first | apply Kd.R_alloc | apply Kd.R_drewN | apply Kd.R_drew)); exact HO682.out) hb) (Kd.R_base ho0)) (Kd.R_base ho1)) (Kd.R_base ho2)) (fun _ h_ => h_.1))
              have n5_ := Aside0.mk (Kd.R_mono (Kd.R_told (Kd.R_told (Kd.R_told (Kd.R_old (by (with_reducible repeat (first | apply Kd.R_alloc | apply Kd.R_drewN | apply Kd.R_drew)); exact HO685.out) hb) (Kd.R_base ho0)) (Kd.R_base ho1)) (Kd.R_base ho2)) (fun _ h_ => h_.1))
              have n6_ := Aside0.mk (Kd.R_mono (Kd.R_told (Kd.R_told (Kd.R_told (Kd.R_old (by (with_reducible repeat (first | apply Kd.R_alloc | apply Kd.R_drewN | apply Kd.R_drew)); exact HO688.out) hb) (Kd.R_base ho0)) (Kd.R_base ho1)) (Kd.R_base ho2)) (fun _ h_ => h_.1))
              have n7_ := Aside0.mk (Kd.N_mono (Kd.N_told (Kd.N_told (Kd.N_told (Kd.N_told (Kd.N_old (by (with_reducible repeat (first | apply Kd.N_alloc | apply Kd.N_drewN | apply Kd.N_drew)); exact HO691.out) hb) (Kd.R_base ho0)) (Kd.R_base ho1)) (Kd.R_base ho2)) (Kd.N_base (Kd.S_N ho3))) (fun _ h_ => h_.1))
              have n8_ := Aside0.mk (Kd.R_mono (Kd.R_told (Kd.R_told (Kd.R_told (Kd.R_old (by (with_reducible repeat (first | apply Kd.R_alloc | apply Kd.R_drewN | apply Kd.R_drew)); exact HO699.out) hb) (Kd.R_base ho0)) (Kd.R_base ho1)) (Kd.R_base ho2)) (fun _ h_ => h_.1))
              have n9_ := Aside0.mk (Kd.R_mono (Kd.R_told (Kd.R_told (Kd.R_told (Kd.R_old (by (with_reducible repeat (first | apply Kd.R_alloc | apply Kd.R_drewN | apply Kd.R_drew)); exact HO702.out) hb) (Kd.R_base ho0)) (Kd.R_base ho1)) (Kd.R_base ho2)) (fun _ h_ => h_.1))
              have n10_ := Aside0.mk (Kd.R_mono (Kd.R_told (Kd.R_told (Kd.R_told (Kd.R_old (by (with_reducible repeat (first | apply Kd.R_alloc | apply Kd.R_drewN | apply Kd.R_drew)); exact HO705.out) hb) (Kd.R_base ho0)) (Kd.R_base ho1)) (Kd.R_base ho2)) (fun _ h_ => h_.1))
              have n11_ := Aside0.mk (Kd.N_mono (Kd.N_told (Kd.N_told (Kd.N_told (Kd.N_told (Kd.N_old (by (with_reducible repeat (first | apply Kd.N_alloc | apply Kd.N_drewN | apply Kd.N_drew)); exact HO708.out) hb) (Kd.R_base ho0)) (Kd.R_base ho1)) (Kd.R_base ho2)) (Kd.N_base (Kd.S_N ho3))) (fun _ h_ => h_.1))
              have n12_ := Aside0.mk (Kd.R_lower (Kd.R_new' (Kd.R_new' (Kd.R_new' (Kd.R_new' (Kd.R_new' (Kd.R_new' (Kd.R_new' (Kd.R_new' (Kd.R_new' ho0 (Kd.R_lt (by (with_reducible repeat (first | apply Kd.R_alloc | apply Kd.R_drewN | apply Kd.R_drew)); exact HO663.out))) (Kd.R_lt (by (with_reducible repeat (first | apply Kd.R_alloc | apply Kd.R_drewN | apply Kd.R_drew)); exact HO666.out))) (Kd.R_lt (by (with_reducible repeat (first | apply Kd.R_alloc | apply Kd.R_drewN | apply Kd.R_drew)); exact HO669.out))) (Kd.R_lt (by (with_reducible repeat (first | apply Kd.R_alloc | apply Kd.R_drewN | apply Kd.R_drew)); exact HO682.out))) (Kd.R_lt (by (with_reducible repeat (first | apply Kd.R_alloc | apply Kd.R_drewN | apply Kd.R_drew)); exact HO685.out))) (Kd.R_lt (by (with_reducible repeat (first | apply Kd.R_alloc | apply Kd.R_drewN | apply Kd.R_drew)); exact HO688.out))) (Kd.R_lt (by (with_reducible repeat (first | apply Kd.R_alloc | apply Kd.R_drewN | apply Kd.R_drew)); exact HO699.out))) (Kd.R_lt (by (with_reducible repeat (first | apply Kd.R_alloc | apply Kd.R_drewN | apply Kd.R_drew)); exact HO702.out))) (Kd.R_lt (by (with_reducible repeat (first | apply Kd.R_alloc | apply Kd.R_drewN | apply Kd.R_drew)); exact HO705.out))) (below_size (by repeat (first | (with_reducible first | exact HB.out | apply below_alloc | apply pw_below_drewN | apply below_drew1 | refine below_set ?_ GE675.out) | exact HB.out))))
              have n13_ := Aside0.mk (Kd.R_lower (Kd.R_new' (Kd.R_new' (Kd.R_new' (Kd.R_new' (Kd.R_new' (Kd.R_new' (Kd.R_new' (Kd.R_new' (Kd.R_new' ho1 (Kd.R_lt (by (with_reducible repeat (first | apply Kd.R_alloc | apply Kd.R_drewN | apply Kd.R_drew)); exact HO663.out))) (Kd.R_lt (by (with_reducible repeat (first | apply Kd.R_alloc | apply Kd.R_drewN | apply Kd.R_drew)); exact HO666.out))) (Kd.R_lt (by (with_reducible repeat (first | apply Kd.R_alloc | apply Kd.R_drewN | apply Kd.R_drew)); exact HO669.out))) (Kd.R_lt (by (with_reducible repeat (first | apply Kd.R_alloc | apply Kd.R_drewN | apply Kd.R_drew)); exact HO682.out))) (Kd.R_lt (by (with_reducible repeat (first | apply Kd.R_alloc | apply Kd.R_drewN | apply Kd.R_drew)); exact HO685.out))) (Kd.R_lt (by (with_reducible repeat (first | apply Kd.R_alloc | apply Kd.R_drewN | apply Kd.R_drew)); exact HO688.out))) (Kd.R_lt (by (with_reducible repeat (first | apply Kd.R_alloc | apply Kd.R_drewN | apply Kd.R_drew)); exact HO699.out))) (Kd.R_lt (by (with_reducible repeat (first | apply Kd.R_alloc | apply Kd.R_drewN | apply Kd.R_drew)); exact HO702.out))) (Kd.R_lt (by (with_reducible repeat (first | apply Kd.R_alloc | apply Kd.R_drewN | apply Kd.R_drew)); exact HO705.out))) (below_size (by repeat (first | (with_reducible first | exact HB.out | apply below_alloc | apply pw_below_drewN | apply below_drew1 | refine below_set ?_ GE675.out) | exact HB.out))))
              have n14_ := Aside0.mk (Kd.R_lower (Kd.R_new' (Kd.R_new' (Kd.R_new' (Kd.R_new' (Kd.R_new' (Kd.R_new' (Kd.R_new' (Kd.R_new' (Kd.R_new' ho2 (Kd.R_lt (by (with_reducible repeat (first | apply Kd.R_alloc | apply Kd.R_drewN | apply Kd.R_drew)); exact HO663.out))) (Kd.R_lt (by (with_reducible repeat (first | apply Kd.R_alloc | apply Kd.R_drewN | apply Kd.R_drew)); exact HO666.out))) (Kd.R_lt (by (with_reducible repeat (first | apply Kd.R_alloc | apply Kd.R_drewN | apply Kd.R_drew)); exact HO669.out))) (Kd.R_lt (by (with_reducible repeat (first | apply Kd.R_alloc | apply Kd.R_drewN | apply Kd.R_drew)); exact HO682.out))) (Kd.R_lt (by (with_reducible repeat (first | apply Kd.R_alloc | apply Kd.R_drewN | apply Kd.R_drew)); exact HO685.out))) (Kd.R_lt (by (with_reducible repeat (first | apply Kd.R_alloc | apply Kd.R_drewN | apply Kd.R_drew)); exact HO688.out))) (Kd.R_lt (by (with_reducible repeat (first | apply Kd.R_alloc | apply Kd.R_drewN | apply Kd.R_drew)); exact HO699.out))) (Kd.R_lt (by (with_reducible repeat (first | apply Kd.R_alloc | apply Kd.R_drewN | apply Kd.R_drew)); exact HO702.out))) (Kd.R_lt (by (with_reducible repeat (first | apply Kd.R_alloc | apply Kd.R_drewN | apply Kd.R_drew)); exact HO705.out))) (below_size (by repeat (first | (with_reducible first | exact HB.out | apply below_alloc | apply pw_below_drewN | apply below_drew1 | refine below_set ?_ GE675.out) | exact HB.out))))
              have n15_ := Aside0.mk (Kd.N_lower (Kd.N_mono (ok' := fun k_ => some k_ ≠ (v715 : Value).ownBlock ∧ some k_ ≠ (v718 : Value).ownBlock ∧ some k_ ≠ (v721 : Value).ownBlock ∧ some k_ ≠ (.slice Ao34 t661.length co34 : Value).ownBlock ∧ some k_ ≠ (.slice Ao35 t664.length co35 : Value).ownBlock ∧ some k_ ≠ (.slice Ao36 t667.length co36 : Value).ownBlock ∧ some k_ ≠ (.slice Ao37 t670.length co37 : Value).ownBlock ∧ some k_ ≠ (.slice Ao43 t680.length co43 : Value).ownBlock ∧ some k_ ≠ (.slice Ao44 t683.length co44 : Value).ownBlock ∧ some k_ ≠ (.slice Ao45 t686.length co45 : Value).ownBlock ∧ some k_ ≠ (.slice Ao46 t689.length co46 : Value).ownBlock ∧ some k_ ≠ (.slice Ao49 t697.length co49 : Value).ownBlock ∧ some k_ ≠ (.slice Ao50 t700.length co50 : Value).ownBlock ∧ some k_ ≠ (.slice Ao51 t703.length co51 : Value).ownBlock ∧ some k_ ≠ (.slice Ao52 t706.length co52 : Value).ownBlock ∧ k_ ≠ gb675) (Kd.S_N (Kd.S_bound ho3)) (fun k_ hk_ => ⟨hk_.1.1, hk_.1.2.1, hk_.1.2.2, (Kd.fresh' (Kd.R_lt (by (with_reducible repeat (first | apply Kd.R_alloc | apply Kd.R_drewN | apply Kd.R_drew)); exact HO663.out)) k_ hk_.2.1), (Kd.fresh' (Kd.R_lt (by (with_reducible repeat (first | apply Kd.R_alloc | apply Kd.R_drewN | apply Kd.R_drew)); exact HO666.out)) k_ hk_.2.1), (Kd.fresh' (Kd.R_lt (by (with_reducible repeat (first | apply Kd.R_alloc | apply Kd.R_drewN | apply Kd.R_drew)); exact HO669.out)) k_ hk_.2.1), (Kd.fresh' (Kd.N_lt (by (with_reducible repeat (first | apply Kd.N_alloc | apply Kd.N_drewN | apply Kd.N_drew)); exact HO672.out)) k_ hk_.2.1), (Kd.fresh' (Kd.R_lt (by (with_reducible repeat (first | apply Kd.R_alloc | apply Kd.R_drewN | apply Kd.R_drew)); exact HO682.out)) k_ hk_.2.1), (Kd.fresh' (Kd.R_lt (by (with_reducible repeat (first | apply Kd.R_alloc | apply Kd.R_drewN | apply Kd.R_drew)); exact HO685.out)) k_ hk_.2.1), (Kd.fresh' (Kd.R_lt (by (with_reducible repeat (first | apply Kd.R_alloc | apply Kd.R_drewN | apply Kd.R_drew)); exact HO688.out)) k_ hk_.2.1), (Kd.fresh' (Kd.N_lt (by (with_reducible repeat (first | apply Kd.N_alloc | apply Kd.N_drewN | apply Kd.N_drew)); exact HO691.out)) k_ hk_.2.1), (Kd.fresh' (Kd.R_lt (by (with_reducible repeat (first | apply Kd.R_alloc | apply Kd.R_drewN | apply Kd.R_drew)); exact HO699.out)) k_ hk_.2.1), (Kd.fresh' (Kd.R_lt (by (with_reducible repeat (first | apply Kd.R_alloc | apply Kd.R_drewN | apply Kd.R_drew)); exact HO702.out)) k_ hk_.2.1), (Kd.fresh' (Kd.R_lt (by (with_reducible repeat (first | apply Kd.R_alloc | apply Kd.R_drewN | apply Kd.R_drew)); exact HO705.out)) k_ hk_.2.1), (Kd.fresh' (Kd.N_lt (by (with_reducible repeat (first | apply Kd.N_alloc | apply Kd.N_drewN | apply Kd.N_drew)); exact HO708.out)) k_ hk_.2.1), (Kd.freshB (g := gb675) (o := .cells #[.bool t659, .bool t660, .slice Ao34 t661.length co34, .slice Ao35 t664.length co35, .slice Ao36 t667.length co36, .slice Ao37 t670.length co37, .bool t673, .bool t674] 25 (0, 0)) (by (with_reducible repeat (first | refine blk_drewN ?_ _ | refine blk_drew ?_ | refine blk_alloc ?_ _)); exact BK675.out) k_ hk_.2.1)⟩)) (below_size (by repeat (first | (with_reducible first | exact HB.out | apply below_alloc | apply pw_below_drewN | apply below_drew1 | refine below_set ?_ GE675.out) | exact HB.out))))
              have n16_ := Aside0.mk (blk_below (g := gb675) (o := .cells #[.bool t659, .bool t660, .slice Ao34 t661.length co34, .slice Ao35 t664.length co35, .slice Ao36 t667.length co36, .slice Ao37 t670.length co37, .bool t673, .bool t674] 25 (0, 0)) (by (with_reducible repeat (first | refine blk_drewN ?_ _ | refine blk_drew ?_ | refine blk_alloc ?_ _)); exact BK675.out) hb)
              have n17_ := Aside0.mk (below_step (by repeat (first | (with_reducible first | exact HB.out | apply below_alloc | apply pw_below_drewN | apply below_drew1 | refine below_set ?_ GE675.out) | exact HB.out)) hb)
              clear HO663
              clear HO666
              clear HO669
              clear HO672
              clear HO682
              clear HO685
              clear HO688
              clear HO691
              clear HO699
              clear HO702
              clear HO705
              clear HO708
              clear BK675
              clear HB
              have HO663 := n0_
              have HO666 := n1_
              have HO669 := n2_
              have HO672 := n3_
              have HO682 := n4_
              have HO685 := n5_
              have HO688 := n6_
              have HO691 := n7_
              have HO699 := n8_
              have HO702 := n9_
              have HO705 := n10_
              have HO708 := n11_
              have HO716 := n12_
              have HO719 := n13_
              have HO722 := n14_
              have HO725 := n15_
              have BK675 := n16_
              have HB := n17_
              clear n0_ n1_ n2_ n3_ n4_ n5_ n6_ n7_ n8_ n9_ n10_ n11_ n12_ n13_ n14_ n15_ n16_ n17_
              (try clear hb)
              (try clear hb2)
              (try clear hk)
              (try clear hi)
              (try clear ho0)
              (try clear ho1)
              (try clear ho2)
              (try clear ho3)
              obtain ⟨Ao55, co55, eo55⟩ := Kd.R_slice HO716.out
              (first | subst eo55 | (injection eo55 with f1_ f2_ f3_; have f4_ := f1_.symm; have f5_ := f3_.symm; clear f1_ f2_ f3_; subst f4_; subst f5_))
              obtain ⟨Ao56, co56, eo56⟩ := Kd.R_slice HO719.out
              (first | subst eo56 | (injection eo56 with f1_ f2_ f3_; have f4_ := f1_.symm; have f5_ := f3_.symm; clear f1_ f2_ f3_; subst f4_; subst f5_))
              obtain ⟨Ao57, co57, eo57⟩ := Kd.R_slice HO722.out
              (first | subst eo57 | (injection eo57 with f1_ f2_ f3_; have f4_ := f1_.symm; have f5_ := f3_.symm; clear f1_ f2_ f3_; subst f4_; subst f5_))
              obtain ⟨Ao58, co58, eo58⟩ := Kd.N_slice HO725.out
              (first | subst eo58 | (injection eo58 with f1_ f2_ f3_; have f4_ := f1_.symm; have f5_ := f3_.symm; clear f1_ f2_ f3_; subst f4_; subst f5_))
              refine hK.out _ _ ⟨(blk_cell BK675.out 0).trans rfl, (blk_cell BK675.out 1).trans rfl, (blk_cell BK675.out 2).trans rfl, (blk_cell BK675.out 3).trans rfl, (blk_cell BK675.out 4).trans rfl, (blk_cell BK675.out 5).trans rfl, (blk_cell BK675.out 6).trans rfl, (blk_cell BK675.out 7).trans rfl⟩ (fun hHeld => ?_)
              clear hK K
              refine norm_ (a' := ?_) ?_ ?_
              rotate_left
              · show Act.put _ (some 31) _ = _
                simp only [Act.put, List.setIfInBounds_toArray, List.set_cons_zero, List.set_cons_succ, i64_w, i32_w]
                rfl
              refine one_ (i := 25) (N := some 32) #[true, true, true, true, true, true, true, true, true, true, true, true, true, true, true, true, true, true, true, true, true, true, true, true, true, true, false, false, false, false, false, false, false] rfl rfl (one_of HT_.out (by kernel_rfl)) (by decide) (fun K hK => ?_)
              refine goes_ Try.func17 (by kernel_rfl) rfl #[.agg #[.bool t712, .bool t713, .slice Ao55 t714.length co55, .slice Ao56 t717.length co56, .slice Ao57 t720.length co57, .slice Ao58 t723.length co58, .bool t726, .bool t727]] (by rfl) rfl rfl (by (try simp only [List.map_toArray, List.map_cons, List.map_nil]); first | done | rfl | (simp only [List.length_drop, List.length_take]; rfl)) ?_
              with_reducible refine (config_Strip.calls t712 t713 _ _ t714 _ _ t717 _ _ t720 _ _ t723 t726 t727 t728 t729 t730 t733 t736 t739 t742 t743 _ ?side1 ?side2 ?side3 ?side4 ?side5 ?side6 ?okp7_1 ?side7 ?side8 A27.out).mono ?_
              (case side1 => repeat (first | exact (Kd.R_reads' HO716.out).2.2 | (with_reducible refine Kd.C_alloc ?_ _) | (with_reducible refine Kd.C_drewN ?_ _) | (with_reducible refine Kd.C_drew ?_)))
              (case side2 => exact (Kd.R_reads' HO716.out).2.1)
              (case side3 => repeat (first | exact (Kd.R_reads' HO719.out).2.2 | (with_reducible refine Kd.C_alloc ?_ _) | (with_reducible refine Kd.C_drewN ?_ _) | (with_reducible refine Kd.C_drew ?_)))
              (case side4 => exact (Kd.R_reads' HO719.out).2.1)
              (case side5 => repeat (first | exact (Kd.R_reads' HO722.out).2.2 | (with_reducible refine Kd.C_alloc ?_ _) | (with_reducible refine Kd.C_drewN ?_ _) | (with_reducible refine Kd.C_drew ?_)))
              (case side6 => exact (Kd.R_reads' HO722.out).2.1)
              (case side7 => repeat (first | exact Shares.of_N HO725.out | (with_reducible refine Shares.alloc ?_ _) | (with_reducible refine Shares.drewN ?_ _) | (with_reducible refine Shares.drew ?_)))
              (case side8 => exact (Kd.N_reads' HO725.out).2.1)
              rintro e w59 ⟨v731, v734, v737, v740, rfl, ho0, ho1, ho2, ho3, hb⟩
              refine ⟨_, rfl, ?_⟩
              have n0_ := Aside0.mk (Kd.R_mono (Kd.R_told (Kd.R_told (Kd.R_told (Kd.R_old (by (with_reducible repeat (first | apply Kd.R_alloc | apply Kd.R_drewN | apply Kd.R_drew)); exact HO663.out) hb) (Kd.R_base ho0)) (Kd.R_base ho1)) (Kd.R_base ho2)) (fun _ h_ => h_.1))
              have n1_ := Aside0.mk (Kd.R_mono (Kd.R_told (Kd.R_told (Kd.R_told (Kd.R_old (by (with_reducible repeat (first | apply Kd.R_alloc | apply Kd.R_drewN | apply Kd.R_drew)); exact HO666.out) hb) (Kd.R_base ho0)) (Kd.R_base ho1)) (Kd.R_base ho2)) (fun _ h_ => h_.1))
              have n2_ := Aside0.mk (Kd.R_mono (Kd.R_told (Kd.R_told (Kd.R_told (Kd.R_old (by (with_reducible repeat (first | apply Kd.R_alloc | apply Kd.R_drewN | apply Kd.R_drew)); exact HO669.out) hb) (Kd.R_base ho0)) (Kd.R_base ho1)) (Kd.R_base ho2)) (fun _ h_ => h_.1))
              have n3_ := Aside0.mk (Kd.N_mono (Kd.N_told (Kd.N_told (Kd.N_told (Kd.N_told (Kd.N_old (by (with_reducible repeat (first | apply Kd.N_alloc | apply Kd.N_drewN | apply Kd.N_drew)); exact HO672.out) hb) (Kd.R_base ho0)) (Kd.R_base ho1)) (Kd.R_base ho2)) (Kd.N_base ho3)) (fun _ h_ => h_.1))
              have n4_ := Aside0.mk (Kd.R_mono (Kd.R_told (Kd.R_told (Kd.R_told (Kd.R_old (by (with_reducible repeat (first | apply Kd.R_alloc | apply Kd.R_drewN | apply Kd.R_drew)); exact HO682.out) hb) (Kd.R_base ho0)) (Kd.R_base ho1)) (Kd.R_base ho2)) (fun _ h_ => h_.1))
              have n5_ := Aside0.mk (Kd.R_mono (Kd.R_told (Kd.R_told (Kd.R_told (Kd.R_old (by (with_reducible repeat (first | apply Kd.R_alloc | apply Kd.R_drewN | apply Kd.R_drew)); exact HO685.out) hb) (Kd.R_base ho0)) (Kd.R_base ho1)) (Kd.R_base ho2)) (fun _ h_ => h_.1))
              have n6_ := Aside0.mk (Kd.R_mono (Kd.R_told (Kd.R_told (Kd.R_told (Kd.R_old (by (with_reducible repeat (first | apply Kd.R_alloc | apply Kd.R_drewN | apply Kd.R_drew)); exact HO688.out) hb) (Kd.R_base ho0)) (Kd.R_base ho1)) (Kd.R_base ho2)) (fun _ h_ => h_.1))
              have n7_ := Aside0.mk (Kd.N_mono (Kd.N_told (Kd.N_told (Kd.N_told (Kd.N_told (Kd.N_old (by (with_reducible repeat (first | apply Kd.N_alloc | apply Kd.N_drewN | apply Kd.N_drew)); exact HO691.out) hb) (Kd.R_base ho0)) (Kd.R_base ho1)) (Kd.R_base ho2)) (Kd.N_base ho3)) (fun _ h_ => h_.1))
              have n8_ := Aside0.mk (Kd.R_mono (Kd.R_told (Kd.R_told (Kd.R_told (Kd.R_old (by (with_reducible repeat (first | apply Kd.R_alloc | apply Kd.R_drewN | apply Kd.R_drew)); exact HO699.out) hb) (Kd.R_base ho0)) (Kd.R_base ho1)) (Kd.R_base ho2)) (fun _ h_ => h_.1))
              have n9_ := Aside0.mk (Kd.R_mono (Kd.R_told (Kd.R_told (Kd.R_told (Kd.R_old (by (with_reducible repeat (first | apply Kd.R_alloc | apply Kd.R_drewN | apply Kd.R_drew)); exact HO702.out) hb) (Kd.R_base ho0)) (Kd.R_base ho1)) (Kd.R_base ho2)) (fun _ h_ => h_.1))
              have n10_ := Aside0.mk (Kd.R_mono (Kd.R_told (Kd.R_told (Kd.R_told (Kd.R_old (by (with_reducible repeat (first | apply Kd.R_alloc | apply Kd.R_drewN | apply Kd.R_drew)); exact HO705.out) hb) (Kd.R_base ho0)) (Kd.R_base ho1)) (Kd.R_base ho2)) (fun _ h_ => h_.1))
              have n11_ := Aside0.mk (Kd.N_mono (Kd.N_told (Kd.N_told (Kd.N_told (Kd.N_told (Kd.N_old (by (with_reducible repeat (first | apply Kd.N_alloc | apply Kd.N_drewN | apply Kd.N_drew)); exact HO708.out) hb) (Kd.R_base ho0)) (Kd.R_base ho1)) (Kd.R_base ho2)) (Kd.N_base ho3)) (fun _ h_ => h_.1))
              have n12_ := Aside0.mk (Kd.R_mono (Kd.R_told (Kd.R_told (Kd.R_told (Kd.R_old (by (with_reducible repeat (first | apply Kd.R_alloc | apply Kd.R_drewN | apply Kd.R_drew)); exact HO716.out) hb) (Kd.R_base ho0)) (Kd.R_base ho1)) (Kd.R_base ho2)) (fun _ h_ => h_.1))
              have n13_ := Aside0.mk (Kd.R_mono (Kd.R_told (Kd.R_told (Kd.R_told (Kd.R_old (by (with_reducible repeat (first | apply Kd.R_alloc | apply Kd.R_drewN | apply Kd.R_drew)); exact HO719.out) hb) (Kd.R_base ho0)) (Kd.R_base ho1)) (Kd.R_base ho2)) (fun _ h_ => h_.1))
              have n14_ := Aside0.mk (Kd.R_mono (Kd.R_told (Kd.R_told (Kd.R_told (Kd.R_old (by (with_reducible repeat (first | apply Kd.R_alloc | apply Kd.R_drewN | apply Kd.R_drew)); exact HO722.out) hb) (Kd.R_base ho0)) (Kd.R_base ho1)) (Kd.R_base ho2)) (fun _ h_ => h_.1))
              have n15_ := Aside0.mk (Kd.N_mono (Kd.N_told (Kd.N_told (Kd.N_told (Kd.N_told (Kd.N_old (by (with_reducible repeat (first | apply Kd.N_alloc | apply Kd.N_drewN | apply Kd.N_drew)); exact HO725.out) hb) (Kd.R_base ho0)) (Kd.R_base ho1)) (Kd.R_base ho2)) (Kd.N_base ho3)) (fun _ h_ => h_.1))
              have n16_ := Aside0.mk (Kd.R_lower (Kd.R_new' (Kd.R_new' (Kd.R_new' (Kd.R_new' (Kd.R_new' (Kd.R_new' (Kd.R_new' (Kd.R_new' (Kd.R_new' (Kd.R_new' (Kd.R_new' (Kd.R_new' ho0 (Kd.R_lt (by (with_reducible repeat (first | apply Kd.R_alloc | apply Kd.R_drewN | apply Kd.R_drew)); exact HO663.out))) (Kd.R_lt (by (with_reducible repeat (first | apply Kd.R_alloc | apply Kd.R_drewN | apply Kd.R_drew)); exact HO666.out))) (Kd.R_lt (by (with_reducible repeat (first | apply Kd.R_alloc | apply Kd.R_drewN | apply Kd.R_drew)); exact HO669.out))) (Kd.R_lt (by (with_reducible repeat (first | apply Kd.R_alloc | apply Kd.R_drewN | apply Kd.R_drew)); exact HO682.out))) (Kd.R_lt (by (with_reducible repeat (first | apply Kd.R_alloc | apply Kd.R_drewN | apply Kd.R_drew)); exact HO685.out))) (Kd.R_lt (by (with_reducible repeat (first | apply Kd.R_alloc | apply Kd.R_drewN | apply Kd.R_drew)); exact HO688.out))) (Kd.R_lt (by (with_reducible repeat (first | apply Kd.R_alloc | apply Kd.R_drewN | apply Kd.R_drew)); exact HO699.out))) (Kd.R_lt (by (with_reducible repeat (first | apply Kd.R_alloc | apply Kd.R_drewN | apply Kd.R_drew)); exact HO702.out))) (Kd.R_lt (by (with_reducible repeat (first | apply Kd.R_alloc | apply Kd.R_drewN | apply Kd.R_drew)); exact HO705.out))) (Kd.R_lt (by (with_reducible repeat (first | apply Kd.R_alloc | apply Kd.R_drewN | apply Kd.R_drew)); exact HO716.out))) (Kd.R_lt (by (with_reducible repeat (first | apply Kd.R_alloc | apply Kd.R_drewN | apply Kd.R_drew)); exact HO719.out))) (Kd.R_lt (by (with_reducible repeat (first | apply Kd.R_alloc | apply Kd.R_drewN | apply Kd.R_drew)); exact HO722.out))) (below_size (by repeat (first | (with_reducible first | exact HB.out | apply below_alloc | apply pw_below_drewN | apply below_drew1 | refine below_set ?_ GE675.out) | exact HB.out))))
              have n17_ := Aside0.mk (Kd.R_lower (Kd.R_new' (Kd.R_new' (Kd.R_new' (Kd.R_new' (Kd.R_new' (Kd.R_new' (Kd.R_new' (Kd.R_new' (Kd.R_new' (Kd.R_new' (Kd.R_new' (Kd.R_new' ho1 (Kd.R_lt (by (with_reducible repeat (first | apply Kd.R_alloc | apply Kd.R_drewN | apply Kd.R_drew)); exact HO663.out))) (Kd.R_lt (by (with_reducible repeat (first | apply Kd.R_alloc | apply Kd.R_drewN | apply Kd.R_drew)); exact HO666.out))) (Kd.R_lt (by (with_reducible repeat (first | apply Kd.R_alloc | apply Kd.R_drewN | apply Kd.R_drew)); exact HO669.out))) (Kd.R_lt (by (with_reducible repeat (first | apply Kd.R_alloc | apply Kd.R_drewN | apply Kd.R_drew)); exact HO682.out))) (Kd.R_lt (by (with_reducible repeat (first | apply Kd.R_alloc | apply Kd.R_drewN | apply Kd.R_drew)); exact HO685.out))) (Kd.R_lt (by (with_reducible repeat (first | apply Kd.R_alloc | apply Kd.R_drewN | apply Kd.R_drew)); exact HO688.out))) (Kd.R_lt (by (with_reducible repeat (first | apply Kd.R_alloc | apply Kd.R_drewN | apply Kd.R_drew)); exact HO699.out))) (Kd.R_lt (by (with_reducible repeat (first | apply Kd.R_alloc | apply Kd.R_drewN | apply Kd.R_drew)); exact HO702.out))) (Kd.R_lt (by (with_reducible repeat (first | apply Kd.R_alloc | apply Kd.R_drewN | apply Kd.R_drew)); exact HO705.out))) (Kd.R_lt (by (with_reducible repeat (first | apply Kd.R_alloc | apply Kd.R_drewN | apply Kd.R_drew)); exact HO716.out))) (Kd.R_lt (by (with_reducible repeat (first | apply Kd.R_alloc | apply Kd.R_drewN | apply Kd.R_drew)); exact HO719.out))) (Kd.R_lt (by (with_reducible repeat (first | apply Kd.R_alloc | apply Kd.R_drewN | apply Kd.R_drew)); exact HO722.out))) (below_size (by repeat (first | (with_reducible first | exact HB.out | apply below_alloc | apply pw_below_drewN | apply below_drew1 | refine below_set ?_ GE675.out) | exact HB.out))))
              have n18_ := Aside0.mk (Kd.R_lower (Kd.R_new' (Kd.R_new' (Kd.R_new' (Kd.R_new' (Kd.R_new' (Kd.R_new' (Kd.R_new' (Kd.R_new' (Kd.R_new' (Kd.R_new' (Kd.R_new' (Kd.R_new' ho2 (Kd.R_lt (by (with_reducible repeat (first | apply Kd.R_alloc | apply Kd.R_drewN | apply Kd.R_drew)); exact HO663.out))) (Kd.R_lt (by (with_reducible repeat (first | apply Kd.R_alloc | apply Kd.R_drewN | apply Kd.R_drew)); exact HO666.out))) (Kd.R_lt (by (with_reducible repeat (first | apply Kd.R_alloc | apply Kd.R_drewN | apply Kd.R_drew)); exact HO669.out))) (Kd.R_lt (by (with_reducible repeat (first | apply Kd.R_alloc | apply Kd.R_drewN | apply Kd.R_drew)); exact HO682.out))) (Kd.R_lt (by (with_reducible repeat (first | apply Kd.R_alloc | apply Kd.R_drewN | apply Kd.R_drew)); exact HO685.out))) (Kd.R_lt (by (with_reducible repeat (first | apply Kd.R_alloc | apply Kd.R_drewN | apply Kd.R_drew)); exact HO688.out))) (Kd.R_lt (by (with_reducible repeat (first | apply Kd.R_alloc | apply Kd.R_drewN | apply Kd.R_drew)); exact HO699.out))) (Kd.R_lt (by (with_reducible repeat (first | apply Kd.R_alloc | apply Kd.R_drewN | apply Kd.R_drew)); exact HO702.out))) (Kd.R_lt (by (with_reducible repeat (first | apply Kd.R_alloc | apply Kd.R_drewN | apply Kd.R_drew)); exact HO705.out))) (Kd.R_lt (by (with_reducible repeat (first | apply Kd.R_alloc | apply Kd.R_drewN | apply Kd.R_drew)); exact HO716.out))) (Kd.R_lt (by (with_reducible repeat (first | apply Kd.R_alloc | apply Kd.R_drewN | apply Kd.R_drew)); exact HO719.out))) (Kd.R_lt (by (with_reducible repeat (first | apply Kd.R_alloc | apply Kd.R_drewN | apply Kd.R_drew)); exact HO722.out))) (below_size (by repeat (first | (with_reducible first | exact HB.out | apply below_alloc | apply pw_below_drewN | apply below_drew1 | refine below_set ?_ GE675.out) | exact HB.out))))
              have n19_ := Aside0.mk (Kd.N_lower (Kd.N_mono (ok' := fun k_ => some k_ ≠ (v731 : Value).ownBlock ∧ some k_ ≠ (v734 : Value).ownBlock ∧ some k_ ≠ (v737 : Value).ownBlock ∧ some k_ ≠ (.slice Ao34 t661.length co34 : Value).ownBlock ∧ some k_ ≠ (.slice Ao35 t664.length co35 : Value).ownBlock ∧ some k_ ≠ (.slice Ao36 t667.length co36 : Value).ownBlock ∧ some k_ ≠ (.slice Ao37 t670.length co37 : Value).ownBlock ∧ some k_ ≠ (.slice Ao43 t680.length co43 : Value).ownBlock ∧ some k_ ≠ (.slice Ao44 t683.length co44 : Value).ownBlock ∧ some k_ ≠ (.slice Ao45 t686.length co45 : Value).ownBlock ∧ some k_ ≠ (.slice Ao46 t689.length co46 : Value).ownBlock ∧ some k_ ≠ (.slice Ao49 t697.length co49 : Value).ownBlock ∧ some k_ ≠ (.slice Ao50 t700.length co50 : Value).ownBlock ∧ some k_ ≠ (.slice Ao51 t703.length co51 : Value).ownBlock ∧ some k_ ≠ (.slice Ao52 t706.length co52 : Value).ownBlock ∧ some k_ ≠ (.slice Ao55 t714.length co55 : Value).ownBlock ∧ some k_ ≠ (.slice Ao56 t717.length co56 : Value).ownBlock ∧ some k_ ≠ (.slice Ao57 t720.length co57 : Value).ownBlock ∧ some k_ ≠ (.slice Ao58 t723.length co58 : Value).ownBlock ∧ k_ ≠ gb675) ho3 (fun k_ hk_ => ⟨hk_.1.1, hk_.1.2.1, hk_.1.2.2, (hk_.2.elim (fun h_ => (Kd.fresh' (Kd.R_lt (by (with_reducible repeat (first | apply Kd.R_alloc | apply Kd.R_drewN | apply Kd.R_drew)); exact HO663.out)) k_ h_)) (fun h_ => by (revert h_; simp only [and_imp]; intros; assumption))), (hk_.2.elim (fun h_ => (Kd.fresh' (Kd.R_lt (by (with_reducible repeat (first | apply Kd.R_alloc | apply Kd.R_drewN | apply Kd.R_drew)); exact HO666.out)) k_ h_)) (fun h_ => by (revert h_; simp only [and_imp]; intros; assumption))), (hk_.2.elim (fun h_ => (Kd.fresh' (Kd.R_lt (by (with_reducible repeat (first | apply Kd.R_alloc | apply Kd.R_drewN | apply Kd.R_drew)); exact HO669.out)) k_ h_)) (fun h_ => by (revert h_; simp only [and_imp]; intros; assumption))), (hk_.2.elim (fun h_ => (Kd.fresh' (Kd.N_lt (by (with_reducible repeat (first | apply Kd.N_alloc | apply Kd.N_drewN | apply Kd.N_drew)); exact HO672.out)) k_ h_)) (fun h_ => by (revert h_; simp only [and_imp]; intros; assumption))), (hk_.2.elim (fun h_ => (Kd.fresh' (Kd.R_lt (by (with_reducible repeat (first | apply Kd.R_alloc | apply Kd.R_drewN | apply Kd.R_drew)); exact HO682.out)) k_ h_)) (fun h_ => by (revert h_; simp only [and_imp]; intros; assumption))), (hk_.2.elim (fun h_ => (Kd.fresh' (Kd.R_lt (by (with_reducible repeat (first | apply Kd.R_alloc | apply Kd.R_drewN | apply Kd.R_drew)); exact HO685.out)) k_ h_)) (fun h_ => by (revert h_; simp only [and_imp]; intros; assumption))), (hk_.2.elim (fun h_ => (Kd.fresh' (Kd.R_lt (by (with_reducible repeat (first | apply Kd.R_alloc | apply Kd.R_drewN | apply Kd.R_drew)); exact HO688.out)) k_ h_)) (fun h_ => by (revert h_; simp only [and_imp]; intros; assumption))), (hk_.2.elim (fun h_ => (Kd.fresh' (Kd.N_lt (by (with_reducible repeat (first | apply Kd.N_alloc | apply Kd.N_drewN | apply Kd.N_drew)); exact HO691.out)) k_ h_)) (fun h_ => by (revert h_; simp only [and_imp]; intros; assumption))), (hk_.2.elim (fun h_ => (Kd.fresh' (Kd.R_lt (by (with_reducible repeat (first | apply Kd.R_alloc | apply Kd.R_drewN | apply Kd.R_drew)); exact HO699.out)) k_ h_)) (fun h_ => by (revert h_; simp only [and_imp]; intros; assumption))), (hk_.2.elim (fun h_ => (Kd.fresh' (Kd.R_lt (by (with_reducible repeat (first | apply Kd.R_alloc | apply Kd.R_drewN | apply Kd.R_drew)); exact HO702.out)) k_ h_)) (fun h_ => by (revert h_; simp only [and_imp]; intros; assumption))), (hk_.2.elim (fun h_ => (Kd.fresh' (Kd.R_lt (by (with_reducible repeat (first | apply Kd.R_alloc | apply Kd.R_drewN | apply Kd.R_drew)); exact HO705.out)) k_ h_)) (fun h_ => by (revert h_; simp only [and_imp]; intros; assumption))), (hk_.2.elim (fun h_ => (Kd.fresh' (Kd.N_lt (by (with_reducible repeat (first | apply Kd.N_alloc | apply Kd.N_drewN | apply Kd.N_drew)); exact HO708.out)) k_ h_)) (fun h_ => by (revert h_; simp only [and_imp]; intros; assumption))), (hk_.2.elim (fun h_ => (Kd.fresh' (Kd.R_lt (by (with_reducible repeat (first | apply Kd.R_alloc | apply Kd.R_drewN | apply Kd.R_drew)); exact HO716.out)) k_ h_)) (fun h_ => by (revert h_; simp only [and_imp]; intros; assumption))), (hk_.2.elim (fun h_ => (Kd.fresh' (Kd.R_lt (by (with_reducible repeat (first | apply Kd.R_alloc | apply Kd.R_drewN | apply Kd.R_drew)); exact HO719.out)) k_ h_)) (fun h_ => by (revert h_; simp only [and_imp]; intros; assumption))), (hk_.2.elim (fun h_ => (Kd.fresh' (Kd.R_lt (by (with_reducible repeat (first | apply Kd.R_alloc | apply Kd.R_drewN | apply Kd.R_drew)); exact HO722.out)) k_ h_)) (fun h_ => by (revert h_; simp only [and_imp]; intros; assumption))), (hk_.2.elim (fun h_ => (Kd.fresh' (Kd.N_lt (by (with_reducible repeat (first | apply Kd.N_alloc | apply Kd.N_drewN | apply Kd.N_drew)); exact HO725.out)) k_ h_)) (fun h_ => by (revert h_; simp only [and_imp]; intros; assumption))), (hk_.2.elim (fun h_ => (Kd.freshB (g := gb675) (o := .cells #[.bool t659, .bool t660, .slice Ao34 t661.length co34, .slice Ao35 t664.length co35, .slice Ao36 t667.length co36, .slice Ao37 t670.length co37, .bool t673, .bool t674] 25 (0, 0)) (by (with_reducible repeat (first | refine blk_drewN ?_ _ | refine blk_drew ?_ | refine blk_alloc ?_ _)); exact BK675.out) k_ h_)) (fun h_ => by (revert h_; simp only [and_imp]; intros; assumption)))⟩)) (below_size (by repeat (first | (with_reducible first | exact HB.out | apply below_alloc | apply pw_below_drewN | apply below_drew1 | refine below_set ?_ GE675.out) | exact HB.out))))
              have n20_ := Aside0.mk (blk_below (g := gb675) (o := .cells #[.bool t659, .bool t660, .slice Ao34 t661.length co34, .slice Ao35 t664.length co35, .slice Ao36 t667.length co36, .slice Ao37 t670.length co37, .bool t673, .bool t674] 25 (0, 0)) (by (with_reducible repeat (first | refine blk_drewN ?_ _ | refine blk_drew ?_ | refine blk_alloc ?_ _)); exact BK675.out) hb)
              have n21_ := Aside0.mk (below_step (by repeat (first | (with_reducible first | exact HB.out | apply below_alloc | apply pw_below_drewN | apply below_drew1 | refine below_set ?_ GE675.out) | exact HB.out)) hb)
              clear HO663
              clear HO666
              clear HO669
              clear HO672
              clear HO682
              clear HO685
              clear HO688
              clear HO691
              clear HO699
              clear HO702
              clear HO705
              clear HO708
              clear HO716
              clear HO719
              clear HO722
              clear HO725
              clear BK675
              clear HB
              have HO663 := n0_
              have HO666 := n1_
              have HO669 := n2_
              have HO672 := n3_
              have HO682 := n4_
              have HO685 := n5_
              have HO688 := n6_
              have HO691 := n7_
              have HO699 := n8_
              have HO702 := n9_
              have HO705 := n10_
              have HO708 := n11_
              have HO716 := n12_
              have HO719 := n13_
              have HO722 := n14_
              have HO725 := n15_
              have HO732 := n16_
              have HO735 := n17_
              have HO738 := n18_
              have HO741 := n19_
              have BK675 := n20_
              have HB := n21_
              clear n0_ n1_ n2_ n3_ n4_ n5_ n6_ n7_ n8_ n9_ n10_ n11_ n12_ n13_ n14_ n15_ n16_ n17_ n18_ n19_ n20_ n21_
              (try clear hb)
              (try clear hb2)
              (try clear hk)
              (try clear hi)
              (try clear ho0)
              (try clear ho1)
              (try clear ho2)
              (try clear ho3)
              obtain ⟨Ao60, co60, eo60⟩ := Kd.R_slice HO732.out
              (first | subst eo60 | (injection eo60 with f1_ f2_ f3_; have f4_ := f1_.symm; have f5_ := f3_.symm; clear f1_ f2_ f3_; subst f4_; subst f5_))
              obtain ⟨Ao61, co61, eo61⟩ := Kd.R_slice HO735.out
              (first | subst eo61 | (injection eo61 with f1_ f2_ f3_; have f4_ := f1_.symm; have f5_ := f3_.symm; clear f1_ f2_ f3_; subst f4_; subst f5_))
              obtain ⟨Ao62, co62, eo62⟩ := Kd.R_slice HO738.out
              (first | subst eo62 | (injection eo62 with f1_ f2_ f3_; have f4_ := f1_.symm; have f5_ := f3_.symm; clear f1_ f2_ f3_; subst f4_; subst f5_))
              obtain ⟨Ao63, co63, eo63⟩ := Kd.N_slice HO741.out
              (first | subst eo63 | (injection eo63 with f1_ f2_ f3_; have f4_ := f1_.symm; have f5_ := f3_.symm; clear f1_ f2_ f3_; subst f4_; subst f5_))
              refine hK.out _ _ ⟨(blk_cell BK675.out 0).trans rfl, (blk_cell BK675.out 1).trans rfl, (blk_cell BK675.out 2).trans rfl, (blk_cell BK675.out 3).trans rfl, (blk_cell BK675.out 4).trans rfl, (blk_cell BK675.out 5).trans rfl, (blk_cell BK675.out 6).trans rfl, (blk_cell BK675.out 7).trans rfl⟩ (fun hHeld => ?_)
              clear hK K
              refine norm_ (a' := ?_) ?_ ?_
              rotate_left
              · show Act.put _ (some 32) _ = _
                simp only [Act.put, List.setIfInBounds_toArray, List.set_cons_zero, List.set_cons_succ, i64_w, i32_w]
                rfl
              refine one_ (i := 26) (N := some 33) #[true, true, true, true, true, true, true, true, true, true, true, true, true, true, true, true, true, true, true, true, true, true, true, true, true, true, true, false, false, false, false, false, false] rfl rfl (one_of HT_.out (by kernel_rfl)) (by decide) (fun K hK => ?_)
              refine goes_ Try.func18 (by kernel_rfl) rfl #[.agg #[.bool t728, .bool t729, .slice Ao60 t730.length co60, .slice Ao61 t733.length co61, .slice Ao62 t736.length co62, .slice Ao63 t739.length co63, .bool t742, .bool t743]] (by rfl) rfl rfl (by (try simp only [List.map_toArray, List.map_cons, List.map_nil]); first | done | rfl | (simp only [List.length_drop, List.length_take]; rfl)) ?_
              with_reducible refine (config_Check.calls t728 t729 _ _ t730 _ _ t733 _ _ t736 _ _ t739 t742 t743 t744 _ ?side1 ?side2 ?side3 ?side4 ?side5 ?side6 ?side7 ?side8 A28.out).mono ?_
              (case side1 => repeat (first | exact (Kd.R_reads' HO732.out).2.2 | (with_reducible refine Kd.C_alloc ?_ _) | (with_reducible refine Kd.C_drewN ?_ _) | (with_reducible refine Kd.C_drew ?_)))
              (case side2 => exact (Kd.R_reads' HO732.out).2.1)
              (case side3 => repeat (first | exact (Kd.R_reads' HO735.out).2.2 | (with_reducible refine Kd.C_alloc ?_ _) | (with_reducible refine Kd.C_drewN ?_ _) | (with_reducible refine Kd.C_drew ?_)))
              (case side4 => exact (Kd.R_reads' HO735.out).2.1)
              (case side5 => repeat (first | exact (Kd.R_reads' HO738.out).2.2 | (with_reducible refine Kd.C_alloc ?_ _) | (with_reducible refine Kd.C_drewN ?_ _) | (with_reducible refine Kd.C_drew ?_)))
              (case side6 => exact (Kd.R_reads' HO738.out).2.1)
              (case side7 => repeat (first | exact (Kd.N_reads' HO741.out).2.2 | (with_reducible refine Kd.C_alloc ?_ _) | (with_reducible refine Kd.C_drewN ?_ _) | (with_reducible refine Kd.C_drew ?_)))
              (case side8 => exact (Kd.N_reads' HO741.out).2.1)
              rintro e w64 ⟨rfl, hb⟩
              refine ⟨_, rfl, ?_⟩
              have n0_ := Aside0.mk (Kd.R_below (by (with_reducible repeat (first | apply Kd.R_alloc | apply Kd.R_drewN | apply Kd.R_drew)); exact HO663.out) hb)
              have n1_ := Aside0.mk (Kd.R_below (by (with_reducible repeat (first | apply Kd.R_alloc | apply Kd.R_drewN | apply Kd.R_drew)); exact HO666.out) hb)
              have n2_ := Aside0.mk (Kd.R_below (by (with_reducible repeat (first | apply Kd.R_alloc | apply Kd.R_drewN | apply Kd.R_drew)); exact HO669.out) hb)
              have n3_ := Aside0.mk (Kd.N_below (by (with_reducible repeat (first | apply Kd.N_alloc | apply Kd.N_drewN | apply Kd.N_drew)); exact HO672.out) hb)
              have n4_ := Aside0.mk (Kd.R_below (by (with_reducible repeat (first | apply Kd.R_alloc | apply Kd.R_drewN | apply Kd.R_drew)); exact HO682.out) hb)
              have n5_ := Aside0.mk (Kd.R_below (by (with_reducible repeat (first | apply Kd.R_alloc | apply Kd.R_drewN | apply Kd.R_drew)); exact HO685.out) hb)
              have n6_ := Aside0.mk (Kd.R_below (by (with_reducible repeat (first | apply Kd.R_alloc | apply Kd.R_drewN | apply Kd.R_drew)); exact HO688.out) hb)
              have n7_ := Aside0.mk (Kd.N_below (by (with_reducible repeat (first | apply Kd.N_alloc | apply Kd.N_drewN | apply Kd.N_drew)); exact HO691.out) hb)
              have n8_ := Aside0.mk (Kd.R_below (by (with_reducible repeat (first | apply Kd.R_alloc | apply Kd.R_drewN | apply Kd.R_drew)); exact HO699.out) hb)
              have n9_ := Aside0.mk (Kd.R_below (by (with_reducible repeat (first | apply Kd.R_alloc | apply Kd.R_drewN | apply Kd.R_drew)); exact HO702.out) hb)
              have n10_ := Aside0.mk (Kd.R_below (by (with_reducible repeat (first | apply Kd.R_alloc | apply Kd.R_drewN | apply Kd.R_drew)); exact HO705.out) hb)
              have n11_ := Aside0.mk (Kd.N_below (by (with_reducible repeat (first | apply Kd.N_alloc | apply Kd.N_drewN | apply Kd.N_drew)); exact HO708.out) hb)
              have n12_ := Aside0.mk (Kd.R_below (by (with_reducible repeat (first | apply Kd.R_alloc | apply Kd.R_drewN | apply Kd.R_drew)); exact HO716.out) hb)
              have n13_ := Aside0.mk (Kd.R_below (by (with_reducible repeat (first | apply Kd.R_alloc | apply Kd.R_drewN | apply Kd.R_drew)); exact HO719.out) hb)
              have n14_ := Aside0.mk (Kd.R_below (by (with_reducible repeat (first | apply Kd.R_alloc | apply Kd.R_drewN | apply Kd.R_drew)); exact HO722.out) hb)
              have n15_ := Aside0.mk (Kd.N_below (by (with_reducible repeat (first | apply Kd.N_alloc | apply Kd.N_drewN | apply Kd.N_drew)); exact HO725.out) hb)
              have n16_ := Aside0.mk (Kd.R_below (by (with_reducible repeat (first | apply Kd.R_alloc | apply Kd.R_drewN | apply Kd.R_drew)); exact HO732.out) hb)
              have n17_ := Aside0.mk (Kd.R_below (by (with_reducible repeat (first | apply Kd.R_alloc | apply Kd.R_drewN | apply Kd.R_drew)); exact HO735.out) hb)
              have n18_ := Aside0.mk (Kd.R_below (by (with_reducible repeat (first | apply Kd.R_alloc | apply Kd.R_drewN | apply Kd.R_drew)); exact HO738.out) hb)
              have n19_ := Aside0.mk (Kd.N_below (by (with_reducible repeat (first | apply Kd.N_alloc | apply Kd.N_drewN | apply Kd.N_drew)); exact HO741.out) hb)
              have n20_ := Aside0.mk (blk_below (g := gb675) (o := .cells #[.bool t659, .bool t660, .slice Ao34 t661.length co34, .slice Ao35 t664.length co35, .slice Ao36 t667.length co36, .slice Ao37 t670.length co37, .bool t673, .bool t674] 25 (0, 0)) (by (with_reducible repeat (first | refine blk_drewN ?_ _ | refine blk_drew ?_ | refine blk_alloc ?_ _)); exact BK675.out) hb)
              have n21_ := Aside0.mk (below_step (by repeat (first | (with_reducible first | exact HB.out | apply below_alloc | apply pw_below_drewN | apply below_drew1 | refine below_set ?_ GE675.out) | exact HB.out)) hb)
              clear HO663
              clear HO666
              clear HO669
              clear HO672
              clear HO682
              clear HO685
              clear HO688
              clear HO691
              clear HO699
              clear HO702
              clear HO705
              clear HO708
              clear HO716
              clear HO719
              clear HO722
              clear HO725
              clear HO732
              clear HO735
              clear HO738
              clear HO741
              clear BK675
              clear HB
              have HO663 := n0_
              have HO666 := n1_
              have HO669 := n2_
              have HO672 := n3_
              have HO682 := n4_
              have HO685 := n5_
              have HO688 := n6_
              have HO691 := n7_
              have HO699 := n8_
              have HO702 := n9_
              have HO705 := n10_
              have HO708 := n11_
              have HO716 := n12_
              have HO719 := n13_
              have HO722 := n14_
              have HO725 := n15_
              have HO732 := n16_
              have HO735 := n17_
              have HO738 := n18_
              have HO741 := n19_
              have BK675 := n20_
              have HB := n21_
              clear n0_ n1_ n2_ n3_ n4_ n5_ n6_ n7_ n8_ n9_ n10_ n11_ n12_ n13_ n14_ n15_ n16_ n17_ n18_ n19_ n20_ n21_
              (try clear hb)
              (try clear hb2)
              (try clear hk)
              (try clear hi)
              refine hK.out _ _ ⟨(blk_cell BK675.out 0).trans rfl, (blk_cell BK675.out 1).trans rfl, (blk_cell BK675.out 2).trans rfl, (blk_cell BK675.out 3).trans rfl, (blk_cell BK675.out 4).trans rfl, (blk_cell BK675.out 5).trans rfl, (blk_cell BK675.out 6).trans rfl, (blk_cell BK675.out 7).trans rfl⟩ (fun hHeld => ?_)
              clear hK K
              refine norm_ (a' := ?_) ?_ ?_
              rotate_left
              · show Act.put _ (some 33) _ = _
                simp only [Act.put, List.setIfInBounds_toArray, List.set_cons_zero, List.set_cons_succ, i64_w, i32_w]
                rfl
              refine pure_ (i := 27) (N := some 34) (v := ?_) (a' := ?_) #[true, true, true, true, true, true, true, true, true, true, true, true, true, true, true, true, true, true, true, true, true, true, true, true, true, true, true, true, false, false, false, false, false] rfl rfl (any_of HT_.out (by kernel_rfl)) (fun _ _ _ h => h) (Or.inl ⟨by rfl, ?_⟩) ?_ ?_
              rotate_left
              · intro w'
                go_simp
                with_reducible rfl
              rotate_left
              · simp only [Act.put, List.setIfInBounds_toArray, List.set_cons_zero, List.set_cons_succ, i64_w, i32_w]
                rfl
              refine pure_ (i := 28) (N := some 35) (v := ?_) (a' := ?_) #[true, true, true, true, true, true, true, true, true, true, true, true, true, true, true, true, true, true, true, true, true, true, true, true, true, true, true, true, true, false, false, false, false] rfl rfl (any_of HT_.out (by kernel_rfl)) (fun _ _ _ h => h) (Or.inl ⟨by rfl, ?_⟩) ?_ ?_
              rotate_left
              · intro w'
                go_simp
                with_reducible rfl
              rotate_left
              · simp only [Act.put, List.setIfInBounds_toArray, List.set_cons_zero, List.set_cons_succ, i64_w, i32_w]
                rfl
              refine pure_ (i := 29) (N := some 36) (v := ?_) (a' := ?_) #[true, true, true, true, true, true, true, true, true, true, true, true, true, true, true, true, true, true, true, true, true, true, true, true, true, true, true, true, true, true, false, false, false] rfl rfl (any_of HT_.out (by kernel_rfl)) (fun _ _ _ h => h) (Or.inl ⟨by rfl, ?_⟩) ?_ ?_
              rotate_left
              · intro w'
                go_simp
                with_reducible rfl
              rotate_left
              · simp only [Act.put, List.setIfInBounds_toArray, List.set_cons_zero, List.set_cons_succ, i64_w, i32_w]
                rfl
              refine one_ (i := 30) (N := some 37) #[true, true, true, true, true, true, true, true, true, true, true, true, true, true, true, true, true, true, true, true, true, true, true, true, true, true, true, true, true, true, true, false, false] rfl rfl (one_of HT_.out (by kernel_rfl)) (by decide) (fun K hK => ?_)
              refine goes_ Try.func12 (by kernel_rfl) rfl #[] (by rfl) rfl rfl (by (try simp only [List.map_toArray, List.map_cons, List.map_nil]); first | done | rfl | (simp only [List.length_drop, List.length_take]; rfl)) ?_
              with_reducible refine (boltinglaw12_fixed.calls  t745 _ A30.out).mono ?_
              rintro e w65 ⟨rfl, hb⟩
              refine ⟨_, rfl, ?_⟩
              have n0_ := Aside0.mk (Kd.R_below (by (with_reducible repeat (first | apply Kd.R_alloc | apply Kd.R_drewN | apply Kd.R_drew)); exact HO663.out) hb)
              have n1_ := Aside0.mk (Kd.R_below (by (with_reducible repeat (first | apply Kd.R_alloc | apply Kd.R_drewN | apply Kd.R_drew)); exact HO666.out) hb)
              have n2_ := Aside0.mk (Kd.R_below (by (with_reducible repeat (first | apply Kd.R_alloc | apply Kd.R_drewN | apply Kd.R_drew)); exact HO669.out) hb)
              have n3_ := Aside0.mk (Kd.N_below (by (with_reducible repeat (first | apply Kd.N_alloc | apply Kd.N_drewN | apply Kd.N_drew)); exact HO672.out) hb)
              have n4_ := Aside0.mk (Kd.R_below (by (with_reducible repeat (first | apply Kd.R_alloc | apply Kd.R_drewN | apply Kd.R_drew)); exact HO682.out) hb)
              have n5_ := Aside0.mk (Kd.R_below (by (with_reducible repeat (first | apply Kd.R_alloc | apply Kd.R_drewN | apply Kd.R_drew)); exact HO685.out) hb)
              have n6_ := Aside0.mk (Kd.R_below (by (with_reducible repeat (first | apply Kd.R_alloc | apply Kd.R_drewN | apply Kd.R_drew)); exact HO688.out) hb)
              have n7_ := Aside0.mk (Kd.N_below (by (with_reducible repeat (first | apply Kd.N_alloc | apply Kd.N_drewN | apply Kd.N_drew)); exact HO691.out) hb)
              have n8_ := Aside0.mk (Kd.R_below (by (with_reducible repeat (first | apply Kd.R_alloc | apply Kd.R_drewN | apply Kd.R_drew)); exact HO699.out) hb)
              have n9_ := Aside0.mk (Kd.R_below (by (with_reducible repeat (first | apply Kd.R_alloc | apply Kd.R_drewN | apply Kd.R_drew)); exact HO702.out) hb)
              have n10_ := Aside0.mk (Kd.R_below (by (with_reducible repeat (first | apply Kd.R_alloc | apply Kd.R_drewN | apply Kd.R_drew)); exact HO705.out) hb)
              have n11_ := Aside0.mk (Kd.N_below (by (with_reducible repeat (first | apply Kd.N_alloc | apply Kd.N_drewN | apply Kd.N_drew)); exact HO708.out) hb)
              have n12_ := Aside0.mk (Kd.R_below (by (with_reducible repeat (first | apply Kd.R_alloc | apply Kd.R_drewN | apply Kd.R_drew)); exact HO716.out) hb)
              have n13_ := Aside0.mk (Kd.R_below (by (with_reducible repeat (first | apply Kd.R_alloc | apply Kd.R_drewN | apply Kd.R_drew)); exact HO719.out) hb)
              have n14_ := Aside0.mk (Kd.R_below (by (with_reducible repeat (first | apply Kd.R_alloc | apply Kd.R_drewN | apply Kd.R_drew)); exact HO722.out) hb)
              have n15_ := Aside0.mk (Kd.N_below (by (with_reducible repeat (first | apply Kd.N_alloc | apply Kd.N_drewN | apply Kd.N_drew)); exact HO725.out) hb)
              have n16_ := Aside0.mk (Kd.R_below (by (with_reducible repeat (first | apply Kd.R_alloc | apply Kd.R_drewN | apply Kd.R_drew)); exact HO732.out) hb)
              have n17_ := Aside0.mk (Kd.R_below (by (with_reducible repeat (first | apply Kd.R_alloc | apply Kd.R_drewN | apply Kd.R_drew)); exact HO735.out) hb)
              have n18_ := Aside0.mk (Kd.R_below (by (with_reducible repeat (first | apply Kd.R_alloc | apply Kd.R_drewN | apply Kd.R_drew)); exact HO738.out) hb)
              have n19_ := Aside0.mk (Kd.N_below (by (with_reducible repeat (first | apply Kd.N_alloc | apply Kd.N_drewN | apply Kd.N_drew)); exact HO741.out) hb)
              have n20_ := Aside0.mk (blk_below (g := gb675) (o := .cells #[.bool t659, .bool t660, .slice Ao34 t661.length co34, .slice Ao35 t664.length co35, .slice Ao36 t667.length co36, .slice Ao37 t670.length co37, .bool t673, .bool t674] 25 (0, 0)) (by (with_reducible repeat (first | refine blk_drewN ?_ _ | refine blk_drew ?_ | refine blk_alloc ?_ _)); exact BK675.out) hb)
              have n21_ := Aside0.mk (below_step (by repeat (first | (with_reducible first | exact HB.out | apply below_alloc | apply pw_below_drewN | apply below_drew1 | refine below_set ?_ GE675.out) | exact HB.out)) hb)
              clear HO663
              clear HO666
              clear HO669
              clear HO672
              clear HO682
              clear HO685
              clear HO688
              clear HO691
              clear HO699
              clear HO702
              clear HO705
              clear HO708
              clear HO716
              clear HO719
              clear HO722
              clear HO725
              clear HO732
              clear HO735
              clear HO738
              clear HO741
              clear BK675
              clear HB
              have HO663 := n0_
              have HO666 := n1_
              have HO669 := n2_
              have HO672 := n3_
              have HO682 := n4_
              have HO685 := n5_
              have HO688 := n6_
              have HO691 := n7_
              have HO699 := n8_
              have HO702 := n9_
              have HO705 := n10_
              have HO708 := n11_
              have HO716 := n12_
              have HO719 := n13_
              have HO722 := n14_
              have HO725 := n15_
              have HO732 := n16_
              have HO735 := n17_
              have HO738 := n18_
              have HO741 := n19_
              have BK675 := n20_
              have HB := n21_
              clear n0_ n1_ n2_ n3_ n4_ n5_ n6_ n7_ n8_ n9_ n10_ n11_ n12_ n13_ n14_ n15_ n16_ n17_ n18_ n19_ n20_ n21_
              (try clear hb)
              (try clear hb2)
              (try clear hk)
              (try clear hi)
              refine hK.out _ _ ⟨(blk_cell BK675.out 0).trans rfl, (blk_cell BK675.out 1).trans rfl, (blk_cell BK675.out 2).trans rfl, (blk_cell BK675.out 3).trans rfl, (blk_cell BK675.out 4).trans rfl, (blk_cell BK675.out 5).trans rfl, (blk_cell BK675.out 6).trans rfl, (blk_cell BK675.out 7).trans rfl⟩ (fun hHeld => ?_)
              clear hK K
              refine norm_ (a' := ?_) ?_ ?_
              rotate_left
              · show Act.put _ (some 37) _ = _
                simp only [Act.put, List.setIfInBounds_toArray, List.set_cons_zero, List.set_cons_succ, i64_w, i32_w]
                rfl
              refine pure_ (i := 31) (N := some 38) (v := ?_) (a' := ?_) #[true, true, true, true, true, true, true, true, true, true, true, true, true, true, true, true, true, true, true, true, true, true, true, true, true, true, true, true, true, true, true, true, false] rfl rfl (any_of HT_.out (by kernel_rfl)) (fun _ _ _ h => h) (Or.inl ⟨by rfl, ?_⟩) ?_ ?_
              rotate_left
              · intro w'
                go_simp
                with_reducible rfl
              rotate_left
              · simp only [Act.put, List.setIfInBounds_toArray, List.set_cons_zero, List.set_cons_succ, i64_w, i32_w]
                rfl
              refine pure_ (i := 32) (N := some 4) (v := ?_) (a' := ?_) #[true, true, true, true, true, true, true, true, true, true, true, true, true, true, true, true, true, true, true, true, true, true, true, true, true, true, true, true, true, true, true, true, true] rfl rfl (any_of HT_.out (by kernel_rfl)) (fun _ _ _ h => h) (Or.inl ⟨by rfl, ?_⟩) ?_ ?_
              rotate_left
              · intro w'
                go_simp
                with_reducible rfl
              rotate_left
              · simp only [Act.put, List.setIfInBounds_toArray, List.set_cons_zero, List.set_cons_succ, i64_w, i32_w]
                rfl
              refine done_ (done_of HT_.out (by kernel_rfl)) ?_
              try go_wp2
              go_ret
              exact ⟨by first | rfl | (simp [errW_none, errW_some] <;> rfl) | (simp [*, errW_none, errW_some] <;> rfl), by repeat (first | (with_reducible first | exact HB.out | apply below_alloc | apply pw_below_drewN | apply below_drew1 | refine below_set ?_ GE675.out) | exact HB.out)⟩
            · rw [if_neg c29] at H
              have c29b0 : (t744 == 0) = false := beq_eq_false_iff_ne.mpr c29
              have c29b1 : (t744 != 0) = true := bne_iff_ne.mpr c29
              exact absurd (Option.some.inj H) (by rw [hT.out]; decide)
          · replace c25 := Bool.eq_false_iff.mpr c25
            subst c25
            replace H : (some false) = some r := by rw [if_neg (show ¬ (false = true) by decide)] at H; exact H
            exact absurd (Option.some.inj H) (by rw [hT.out]; decide)
        · replace c22 := Bool.eq_false_iff.mpr c22
          subst c22
          replace H : (some false) = some r := by rw [if_neg (show ¬ (false = true) by decide)] at H; exact H
          exact absurd (Option.some.inj H) (by rw [hT.out]; decide)
    · rw [if_neg c6] at H
      exact absurd H (by simp)
  · rw [if_neg c5] at H
    have c5b0 : (t676 == 0) = false := beq_eq_false_iff_ne.mpr c5
    have c5b1 : (t676 != 0) = true := bne_iff_ne.mpr c5
    exact absurd (Option.some.inj H) (by rw [hT.out]; decide)

/-- THE ONE PURE STATEMENT of boltinglaw12_ConfigPlain: yours. -/

def boltinglaw12_ConfigPlain.Pure : Prop := ∀ (a0 : ByteArray) (a1 : ByteArray), a0.size ≤ 140737488351232 → a1.size ≤ 140737488351232 → ∃ k, boltinglaw12_ConfigPlain.f k a0 a1 = some true
end Go.Proofs.Ytjofofpplpmgjaa.Pr
/- Values that came in, read as the printed functions read them, whatever their type is made of. -/
namespace Go.Proofs.Ytjofofpplpmgjaa
set_option linter.unusedVariables false
open Go.RowKit Go.ChangeShapes Go.WideShapes Go.Deep Go.Proofs.YtjofofpplpmgjaaW.PrintWords

/-- What is read as data at type t is, cell by cell, of kind d. -/
def Opens {α : Type} (P : Program) (t : TypeId) (d : Kd α) : Prop :=
  P.cellsOf t = d.sz ∧ ∀ {H : Type} (enc : TypeId × Value → H) (w : World) (base : Nat) (spare : Nat → Bool) (held : Bool) (fuel : Nat) (cs : List Value) (x : DataW H × List MemPlace),
    DataW.trod enc P w base spare held fuel t cs = some x → ∃ a, d.K w a cs
end Go.Proofs.Ytjofofpplpmgjaa
/- Values that came in, read as the printed functions read them, with what the row's bound tells of their texts' sizes; structs too. -/
namespace Go.Proofs.Ytjofofpplpmgjaa
set_option linter.unusedVariables false
open Go.RowKit Go.ChangeShapes Go.WideShapes Go.Deep Go.Proofs.YtjofofpplpmgjaaW.PrintWords

/-- What is read as data at type t, its parts within the reach, is, cell by cell, of kind d, and meets S. -/
def OpensS {α : Type} (P : Program) (t : TypeId) (d : Kd α) (S : α → Prop) : Prop :=
  P.cellsOf t = d.sz ∧ ∀ {H : Type} (enc : TypeId × Value → H) (w : World) (base : Nat) (spare : Nat → Bool) (held : Bool) (fuel : Nat) (cs : List Value) (x : DataW H × List MemPlace),
    DataW.trod enc P w base spare held fuel t cs = some x → (∀ n ∈ x.1.weights P t, n ≤ reachBytes) → ∃ a, d.K w a cs ∧ S a
/-! ### structs: the fields from one on -/
def OpensTail {α : Type} (P : Program) (fs : List Field) (off : Nat) (d : Kd α) (S : α → Prop) : Prop :=
  ∀ {H : Type} (enc : TypeId × Value → H) (w : World) (base : Nat) (spare : Nat → Bool) (held : Bool) (n : Nat) (cs : List Value) (xs : List (DataW H × List MemPlace)),
    xs.length = fs.length → cs.length = off + d.sz → (∀ (i : Nat) (f : Field), fs[i]? = some f → DataW.trod enc P w base spare held n f.type ((cs.drop f.offset).take (P.cellsOf f.type)) = xs[i]?) →
    (∀ m ∈ DataW.weightsEach P (fs.map (·.type)) (xs.map (·.1)), m ≤ reachBytes) → ∃ a, d.K w a (cs.drop off) ∧ S a
end Go.Proofs.Ytjofofpplpmgjaa
-- SLIMMED
namespace Go.Proofs.Ytjofofpplpmgjaa.Pr
open Go.RowKit Go.Proofs.YtjofofpplpmgjaaW.PrintWords Go.Proofs.YtjofofpplpmgjaaW.PrintLast Go.Proofs.YtjofofpplpmgjaaW.PrintMore
attribute [local go_sem] max2_int min2_int max_two min_two max_three min_three max_four min_four   -- for this text's walks alone
set_option linter.unusedVariables false
set_option linter.unusedSimpArgs false

/-! ### boltinglaw12_Bound: function 11 -/
def boltinglaw12_Bound.l0 : Nat → List (S35) → Int → Bool → Bool → List ByteArray → List ByteArray → List ByteArray → List (S35) → Bool → Bool → Option (Bool × Bool × List ByteArray × List ByteArray × List ByteArray × (List (S35)) × Bool × Bool)
 | 0, _, _, _, _, _, _, _, _, _, _ => none
 | k + 1, x3, x4, x189000, x189001, x189002, x189003, x189004, x189005, x189006, x189007 => if x4 < (x189005.length : Int) then (if x4 < 12 then (if 0 ≤ x4 then (if 0 ≤ (mn (((rd_T35 x189005 x4).f1).length : Int) 70) then (if (mn (((rd_T35 x189005 x4).f1).length : Int) 70) ≤ (((rd_T35 x189005 x4).f1).length : Int) then (if x3.length < 3518437208883 then (boltinglaw12_Bound.l0 k (x3 ++ [(⟨(rd_T35 x189005 x4).f0, (((rd_T35 x189005 x4).f1).take ((mn (((rd_T35 x189005 x4).f1).length : Int) 70) : Int).toNat)⟩ : S35)]) (wrap64 (x4 + 1)) x189000 x189001 x189002 x189003 x189004 x189005 x189006 x189007) else (none)) else (none)) else (none)) else (none)) else (some (x189000, x189001, x189002, x189003, x189004, x3, x189006, x189007))) else (some (x189000, x189001, x189002, x189003, x189004, x3, x189006, x189007))
def boltinglaw12_Bound.f (k : Nat) (a0_0 : Bool) (a0_1 : Bool) (l0_2 : List ByteArray) (l0_3 : List ByteArray) (l0_4 : List ByteArray) (l0_5 : List (S35)) (a0_6 : Bool) (a0_7 : Bool) : Option (Bool × Bool × List ByteArray × List ByteArray × List ByteArray × (List (S35)) × Bool × Bool) := if 0 ≤ (mn (l0_2.length : Int) 70) then (if (mn (l0_2.length : Int) 70) ≤ (l0_2.length : Int) then (if 0 ≤ (mn (l0_3.length : Int) 70) then (if (mn (l0_3.length : Int) 70) ≤ (l0_3.length : Int) then (if 0 ≤ (mn (l0_4.length : Int) 70) then (if (mn (l0_4.length : Int) 70) ≤ (l0_4.length : Int) then (boltinglaw12_Bound.l0 k (([] : List (S35))) 0 a0_0 a0_1 (l0_2.take ((mn (l0_2.length : Int) 70) : Int).toNat) (l0_3.take ((mn (l0_3.length : Int) 70) : Int).toNat) (l0_4.take ((mn (l0_4.length : Int) 70) : Int).toNat) l0_5 a0_6 a0_7) else (none)) else (none)) else (none)) else (none)) else (none)) else (none)
def boltinglaw12_Bound.T8 : Bool × List (List Nat × List Nat) := (true, [([], []), ([], []), ([1], [1]), ([], []), ([2, 3], [2, 3]), ([4], [4]), ([5], [5]), ([], []), ([7], [7]), ([], []), ([8, 9], [8, 9]), ([10], [10]), ([11], [11]), ([], []), ([13], [13]), ([], []), ([14, 15], [14, 15]), ([16], [16]), ([17], [17]), ([18], [18]), ([19], [19]), ([12, 20], [12, 20]), ([6, 21], [6, 21]), ([22], [22]), ([0, 23], [0, 23]), ([24, 24, 0, 1, 2, 3, 4, 5, 6, 7, 8, 9, 10, 11, 12, 13, 14, 15, 16, 17, 18, 19, 20, 21, 22, 23, 24], [0, 24])])
def boltinglaw12_Bound.B8 : List Nat := [0, 0, 2, 0, 14, 30, 62, 0, 128, 0, 896, 1920, 3968, 0, 8192, 0, 57344, 122880, 253952, 516096, 1040384, 2097024, 4194302, 8388606, 16777215, 33554431]
end Go.Proofs.Ytjofofpplpmgjaa.Pr
/- Bound, and what the laws of chapter 12 ask, in plain words. -/
namespace Go.Proofs.Ytjofofpplpmgjaa.Pure
set_option linter.unusedVariables false
set_option linter.unusedSimpArgs false
open Go.RowKit Go.Lib Go.Shelf Go.Proofs.YtjofofpplpmgjaaW.PrintWords Go.Proofs.YtjofofpplpmgjaaW.PrintLast Go.Proofs.YtjofofpplpmgjaaW.PrintMore Go.Proofs.Ytjofofpplpmgjaa.Pr

def cutP (p : S35) : S35 := ⟨p.f0, p.f1.take 70⟩
def bound (c : Cf) : Cf := { c with els := c.els.take 70, rep := c.rep.take 70, ats := c.ats.take 70, per := (c.per.take 12).map cutP }
theorem attr_k {c : Cf} (hf : Fit c) (e a : ByteArray) : config_Attr.f c.al c.aal c.els c.rep c.ats c.per c.com c.dt e a = some (attrB c e a) := if_pos (of_fit hf)
theorem strip_k {c : Cf} (hf : Fit c) : config_Strip.f c.al c.aal c.els c.rep c.ats c.per c.com c.dt = some (c.al, c.aal, (stripC c).els, (stripC c).rep, c.ats, c.per, c.com, c.dt) := if_pos (of_fit hf)
end Go.Proofs.Ytjofofpplpmgjaa.Pure
/- A configuration that comes in: laid open. -/
namespace Go.Proofs.Ytjofofpplpmgjaa
set_option linter.unusedVariables false
set_option linter.unusedSimpArgs false
open Go.ChangeShapes Go.WideShapes Go.RowKit Go.Proofs.Ytjofofpplpmgjaa.Pr Go.Proofs.Ytjofofpplpmgjaa.Pure Go.Proofs.YtjofofpplpmgjaaW.PrintWords
abbrev Short (s : ByteArray) : Prop := s.size ≤ 140737488351232
/-- The texts of a configuration are no longer than a call can hold. -/
structure Sized (c : Cf) : Prop where
  els : ∀ x ∈ c.els, Short x
  rep : ∀ x ∈ c.rep, Short x
  ats : ∀ x ∈ c.ats, Short x
  per : ∀ p ∈ c.per, Short p.f0 ∧ ∀ x ∈ p.f1, Short x
abbrev kStr : Kd (List ByteArray) := Kd.slice 9 Kd.string
abbrev kC : Kd (Bool × Bool × List ByteArray × List ByteArray × List ByteArray × List S35 × Bool × Bool) :=
  Kd.pair Kd.bool (Kd.pair Kd.bool (Kd.pair kStr (Kd.pair kStr (Kd.pair kStr (Kd.pair (Kd.slice 35 k35) (Kd.pair Kd.bool Kd.bool))))))
end Go.Proofs.Ytjofofpplpmgjaa
/- ConfigPlain of the document's chapter 12: it answers true whatever the input. -/
namespace Go.Proofs.Ytjofofpplpmgjaa
set_option linter.unusedVariables false
set_option linter.unusedSimpArgs false
open Go.RowKit Go.Lib Go.Sort Go.Proofs.Ytjofofpplpmgjaa.Pr Go.Proofs.Ytjofofpplpmgjaa.Pure Go.Proofs.YtjofofpplpmgjaaW.PrintWords Go.Proofs.YtjofofpplpmgjaaW.PrintLast
theorem plain_eq : config_Plain.f = some (plainC.al, plainC.aal, plainC.els, plainC.rep, plainC.ats, plainC.per, plainC.com, plainC.dt) := rfl
theorem all_eq : config_All.f = some (allC.al, allC.aal, allC.els, allC.rep, allC.ats, allC.per, allC.com, allC.dt) := rfl
theorem plain_fit : fitB plainC = true := by decide +kernel
theorem plain_check : config_Check.f plainC.al plainC.aal plainC.els plainC.rep plainC.ats plainC.per plainC.com plainC.dt = some 0 := by decide +kernel
theorem plain_strip : config_Strip.f plainC.al plainC.aal plainC.els plainC.rep plainC.ats plainC.per plainC.com plainC.dt = some (plainC.al, plainC.aal, plainC.els, plainC.rep, plainC.ats, plainC.per, plainC.com, plainC.dt) := by
  have h1 : (stripC plainC).els = plainC.els := by decide +kernel
  have h2 : (stripC plainC).rep = plainC.rep := by decide +kernel
  rw [strip_k (fit_of plain_fit), h1, h2]
theorem all_strip : config_Strip.f allC.al allC.aal allC.els allC.rep allC.ats allC.per allC.com allC.dt = some (allC.al, allC.aal, unsafeL, [], [], [], true, false) := by
  have hf : fitB allC = true := by decide +kernel
  have h1 : (stripC allC).els = unsafeL := by decide +kernel
  rw [strip_k (fit_of hf), h1]
  rfl
theorem all_check : config_Check.f allC.al allC.aal unsafeL [] [] [] true false = some 0 := by decide +kernel
theorem plain_same : boltingref12_Same.f 100 plainC.al plainC.aal plainC.els plainC.rep plainC.ats plainC.per plainC.com plainC.dt plainC.al plainC.aal plainC.els plainC.rep plainC.ats plainC.per plainC.com plainC.dt = some true := by decide +kernel
def onB (x : ByteArray) : Bool := decide ((dat x).take 2 = [111, 110])
theorem mem_on {l : List ByteArray} (h : (l.all fun y => !onB y) = true) {x : ByteArray} (hx : onB x = true) : mem l x = false := by
  rw [← Bool.not_eq_true, mem_iff]
  intro hm
  have := List.all_eq_true.1 h x hm
  rw [hx] at this
  cases this
theorem on_pre (r : ByteArray) : onB ((⟨#[111, 110]⟩ : ByteArray) ++ r) = true := by
  unfold onB dat
  rw [ByteArray.data_append, Array.toList_append]
  rfl
theorem plain_attr (e r : ByteArray) : config_Attr.f plainC.al plainC.aal plainC.els plainC.rep plainC.ats plainC.per plainC.com plainC.dt e ((⟨#[111, 110]⟩ : ByteArray) ++ r) = some false := by
  rw [attr_k (fit_of plain_fit)]
  congr 1
  have h1 : mem plainC.ats ((⟨#[111, 110]⟩ : ByteArray) ++ r) = false := mem_on (by decide +kernel) (on_pre r)
  have h2 : plainC.per.any (perB e ((⟨#[111, 110]⟩ : ByteArray) ++ r)) = false := by
    rw [← Bool.not_eq_true]
    intro h
    obtain ⟨p, hp, hb⟩ := List.any_eq_true.1 h
    have hall : (plainC.per.all fun p => p.f1.all fun y => !onB y) = true := by decide +kernel
    have := mem_on (List.all_eq_true.1 hall p hp) (on_pre r)
    unfold perB at hb
    rw [this, Bool.and_false] at hb
    cases hb
  unfold attrB namedB
  rw [h1, h2]
  rfl
theorem sortL_up {l : List ByteArray} (h : Up (l.map dat)) (h2 : SS (l.map dat) = l) : sortL l = l := by
  unfold sortL
  rw [sorted_of_up h, h2]
theorem plain_per : perL plainC.per = plainC.per := by
  have h : ∀ p ∈ plainC.per, 0 < p.f1.length ∧ sortL p.f1 = p.f1 := by
    have hall : (plainC.per.all fun p => decide (0 < p.f1.length) && decide (List.Pairwise (· < ·) (p.f1.map dat)) && decide (SS (p.f1.map dat) = p.f1)) = true := by decide +kernel
    intro p hp
    have := List.all_eq_true.1 hall p hp
    simp only [Bool.and_eq_true, decide_eq_true_eq] at this
    exact ⟨this.1.1, sortL_up this.1.2 this.2⟩
  generalize plainC.per = l at h
  induction l with
  | nil => rfl
  | cons p l ih =>
    rw [perL_cons, if_pos (h p (by simp)).1, (h p (by simp)).2, ih (fun q hq => h q (by simp [hq]))]
    rfl
theorem plain_sortP : sortP plainC.per = plainC.per := by
  unfold sortP Go.Sort.insertionSort
  rw [show plainC.per.length = 3 from rfl, insOuter_go ltP 0 3 1 _ (by decide), show Go.Sort.insInner ltP 0 1 plainC.per.toArray = plainC.per.toArray from by rfl, insOuter_go ltP 0 3 2 _ (by decide), show Go.Sort.insInner ltP 0 2 plainC.per.toArray = plainC.per.toArray from by rfl, insOuter_stop ltP 0 3 3 _ (by decide)]
theorem plain_canon : config_Canon.f plainC.al plainC.aal plainC.els plainC.rep plainC.ats plainC.per plainC.com plainC.dt = some (plainC.al, plainC.aal, plainC.els, plainC.rep, plainC.ats, plainC.per, plainC.com, plainC.dt) := by
  have h1 : sortL plainC.els = plainC.els := sortL_up (by unfold Up; decide +kernel) (by decide +kernel)
  have h2 : sortL plainC.rep = plainC.rep := sortL_up (by unfold Up; decide +kernel) (by decide +kernel)
  have h3 : sortL plainC.ats = plainC.ats := sortL_up (by unfold Up; decide +kernel) (by decide +kernel)
  unfold config_Canon.f
  rw [if_pos ⟨plain_fit, by decide +kernel⟩, h1, h2, h3, plain_per, plain_sortP]
theorem plain_law (e r : ByteArray) (hr : r.size ≤ 140737488351232) : boltinglaw12_ConfigPlain.f 100 e r = some true := by
  unfold boltinglaw12_ConfigPlain.f
  simp only [plain_eq, plain_check, Option.bind_some, plain_attr, plain_canon, plain_same, plain_strip, all_eq, all_strip, all_check, if_true]
  rw [if_pos (by omega)]
  rfl
theorem Pure.ConfigPlain (e r : ByteArray) (he : e.size ≤ 140737488351232) (hr : r.size ≤ 140737488351232) : ∃ k, boltinglaw12_ConfigPlain.f k e r = some true := ⟨100, plain_law e r hr⟩
end Go.Proofs.Ytjofofpplpmgjaa
/- The row of ConfigPlain. -/
namespace Go.Proofs.Ytjofofpplpmgjaa.configPlain
open Go.ChangeShapes Go.WideShapes Go.ChangeAt Go.RowKit
open Go.ChangeMaps (open_string shut_string)
set_option linter.unusedVariables false
set_option linter.unusedSimpArgs false
theorem own : ownKnob Try.prog.godebug = none := by kernel_rfl
set_option maxRecDepth 100000 in
theorem lifted (os : Os) (started : os.Started) (H : Type) (enc : TypeId × Value → H) :
    ReturnsInHanded {} Try.checked os 10 .any (Rows.configPlainSpec.pre6 enc Try.prog Try.f10 Rows.configPlainRow.domain false) (Rows.configPlainSpec.post enc Try.prog Try.f10 false true false false) := by
  refine returnsInHanded_of_change_sized (C := Try.checked) own started (by kernel_rfl) Try.func10
    (ChangeSpec.witness6 (enc := enc) (C := Try.checked) false ⟨#[], #[.string ByteArray.empty, .string ByteArray.empty], []⟩ 8 (by kernel_rfl) (by kernel_rfl) (by kernel_rfl) (by kernel_rfl)) ?_
  intro W base args ds gs before hval0 hW hcnd hsz0 _
  have hsz : (DataW.weightsEach Try.prog (Try.f10.params.toList ++ Rows.configPlainSpec.plain.varTypes Try.prog) (ds ++ gs)).all (· ≤ reachBytes) = true := hsz0
  have hval : ∀ (j : Nat) t v, Try.f10.params[j]? = some t → args[j]? = some v → Value.okWide Try.prog W .any base t v := hval0
  have hW' := hW
  obtain ⟨p, q, hA0, hV, rfl, hfz, hnd⟩ := hW
  have hA : DataW.TrodAll enc Try.prog W 0 (fun _ => true) true Try.f10.params.toList args.toList ds p := hA0
  rw [Try.params10] at hA hval hsz
  obtain ⟨v0, vs0, d0, ds0, p0, q0, hargs, rfl, rfl, h0, r0⟩ := trodAll_cons hA
  obtain ⟨v1, vs1, d1, ds1, p1, q1, rfl, rfl, rfl, h1, r1⟩ := trodAll_cons r0
  obtain ⟨rfl, rfl, rfl⟩ := trodAll_nil r1
  obtain rfl : args = #[v0, v1] := by cases args; simp_all
  obtain ⟨rfl, rfl⟩ := trodVars_none hV
  obtain ⟨a0, rfl, rfl, rfl, y0⟩ := open_string Try.underlying9 (hval 0 9 v0 rfl rfl) h0
  have w0 : a0.size ≤ 140737488351232 := by
    have z := sized_string hsz (j := 0) (t := 9) rfl rfl
    rw [Array.length_toList] at z
    exact z
  obtain ⟨a1, rfl, rfl, rfl, y1⟩ := open_string Try.underlying9 (hval 1 9 v1 rfl rfl) h1
  have w1 : a1.size ≤ 140737488351232 := by
    have z := sized_string hsz (j := 1) (t := 9) rfl rfl
    rw [Array.length_toList] at z
    exact z
  clear hA0 hval0 hsz0 hsz
  obtain ⟨k, hk⟩ := Pure.ConfigPlain a0 a1 w0 w1
  refine (Pr.boltinglaw12_ConfigPlain.calls k a0 a1 true W  hk (hT := ⟨rfl⟩)).mono fun e W' ⟨he, bel0⟩ => ?_
  have bel : Below W.heap.size W W' := by first | exact bel0 | exact below_of_drawn0 bel0
  subst he
  exact ⟨_, rfl, _, _, _, [], _, [], hW', trodAll_mk1 (shut_bool Try.underlying4 _), (trodAll_cons_mk (shut_string Try.underlying9 y0) (trodAll_cons_mk (shut_string Try.underlying9 y1) trodAll_mk0)), rfl, bel.frame _, fun h => by cases h⟩
theorem over : Rows.configPlainRow.holds Try.pinned (OpenSpec.ofChange Rows.configPlainSpec) :=
  OpenClaim.holds_of_wide 10 Try.f10 rfl rfl rfl rfl rfl rfl rfl ⟨rfl, rfl, rfl, rfl, rfl⟩ rfl rfl rfl rfl rfl (by kernel_rfl) Try.func10 (by kernel_rfl)
    (of_decide_eq_true (by kernel_rfl)) (by unfold Func.isWrapper; first | (rw [if_pos (by decide +kernel)]; kernel_rfl) | (rw [if_neg (by decide +kernel)]; exact ⟨rfl, rfl⟩))
    (fun os started H enc _ => lifted os started H enc)
theorem proved : Rows.ConfigPlainSaid := over
#print axioms proved
end Go.Proofs.Ytjofofpplpmgjaa.configPlain
namespace Go.Proofs.Ytjofofpplpmgjaa
/-- The row, under a short name, for the claim. -/
theorem configPlain_holds : Rows.ConfigPlainSaid := configPlain.proved
end Go.Proofs.Ytjofofpplpmgjaa
