-- Written by wip/tools/pr.sh out of Lean's own print of the translation. Not trusted: Lean checks it.
import Derived.Test.YthblohknnlkidaaDoorPrx0
import Derived.Test.YthblohknnlkidaaDoorPrx3
import Derived.Test.YthblohknnlkidaaDoorPrx4
import Derived.Test.YthblohknnlkidaaDoorPrx6
namespace Go.Proofs.YthblohknnlkidaaDoor.Pr
open Go.RowKit Go.Proofs.YthblohknnlkidaaDoorW.PrintWords Go.Proofs.YthblohknnlkidaaDoorW.PrintLast Go.Proofs.YthblohknnlkidaaDoorW.PrintMore
attribute [local go_sem] max2_int min2_int max_two min_two max_three min_three max_four min_four   -- for this text's walks alone
set_option linter.unusedVariables false
set_option linter.unusedSimpArgs false

/-! ### boltinglaw15_HeaderAllows: function 4 -/
def boltinglaw15_HeaderAllows.f (k : Nat) (a0_0 : Bool) (a0_1 : Bool) (l0_2 : List ByteArray) (a0_3 : Bool) (a0_4 : Bool) (a1 : ByteArray) (a2 : Int) : Option (Bool) := if 0 ≤ (mn (l0_2.length : Int) 60) then (if (mn (l0_2.length : Int) 60) ≤ (l0_2.length : Int) then ((boltinglaw15_fixed.f k).bind fun t195 => (if t195 = true then ((header_Allows.f k a0_0 a0_1 (l0_2.take ((mn (l0_2.length : Int) 60) : Int).toNat) a0_3 a0_4 a1 a2).bind fun t196 => ((boltingref15_Allows.f k a0_0 a0_1 (l0_2.take ((mn (l0_2.length : Int) 60) : Int).toNat) a0_3 a0_4 a1 a2).bind fun t197 => (some (t196 == t197)))) else (some false))) else (none)) else (none)
theorem boltinglaw15_HeaderAllows.mono : ∀ a0 a1 a2 a3 a4 a5 a6 k, LeO (boltinglaw15_HeaderAllows.f k a0 a1 a2 a3 a4 a5 a6) (boltinglaw15_HeaderAllows.f (k + 1) a0 a1 a2 a3 a4 a5 a6) := by
  intro a0 a1 a2 a3 a4 a5 a6 k
  unfold boltinglaw15_HeaderAllows.f
  repeat' first
      | (with_reducible exact boltinglaw15_fixed.mono _)
      | (with_reducible exact boltingref15_Allows.mono _ _ _ _ _ _ _ _)
      | (with_reducible exact header_Allows.mono _ _ _ _ _ _ _ _)
      | (with_reducible exact LeO.refl _)
      | (with_reducible exact LeO.none _)
      | (with_reducible refine LeO.ite ?_ ?_)
      | (with_reducible refine LeO.bind ?_ (fun _ => ?_))
      | exact boltinglaw15_fixed.mono _
      | exact boltingref15_Allows.mono _ _ _ _ _ _ _ _
      | exact header_Allows.mono _ _ _ _ _ _ _ _
      | exact LeO.none _
      | refine LeO.ite ?_ ?_
      | refine LeO.bind ?_ (fun _ => ?_)
def boltinglaw15_HeaderAllows.T2 : Bool × List (List Nat × List Nat) := (true, [([], []), ([0, 0], [0]), ([1], [1]), ([1], [1]), ([1], [1]), ([2, 3, 4, 1, 1], [1, 2, 3, 4]), ([1], [1]), ([1], [1]), ([1], [1]), ([6, 7, 8, 5, 1], [1, 6, 7, 8]), ([5, 9, 1], [1, 5, 9]), ([1, 10], [1, 10]), ([11, 9, 0, 1, 2, 3, 4, 5, 6, 7, 8, 9, 10, 11], [11])])
def boltinglaw15_HeaderAllows.B2 : List Nat := [0, 1, 3, 3, 3, 31, 3, 3, 3, 511, 1023, 2047, 4095]
theorem boltinglaw15_HeaderAllows.tab2 : rtab .any (opsOf Tryd.f4 2) = boltinglaw15_HeaderAllows.T2 := by kernel_rfl
theorem boltinglaw15_HeaderAllows.bits2 : waitsOk boltinglaw15_HeaderAllows.T2.2 boltinglaw15_HeaderAllows.B2 = true := by kernel_rfl
set_option maxHeartbeats 8000000 in
set_option maxRecDepth 100000 in
theorem boltinglaw15_HeaderAllows.calls (k : Nat) (a0_0 : Bool) (a0_1 : Bool) (A0_2 : Option Addr) (c0_2 : Nat) (l0_2 : List ByteArray) (a0_3 : Bool) (a0_4 : Bool) (a1 : ByteArray) (a2 : Int) (r : Bool) (w : World) (hr0_2 : Kd.C Kd.string w A0_2 l0_2.length l0_2) (hc0_2 : l0_2.length ≤ c0_2) (h : boltinglaw15_HeaderAllows.f k a0_0 a0_1 l0_2 a0_3 a0_4 a1 a2 = some r) :
    Calls Tryd.prog 4 #[.agg #[.bool a0_0, .bool a0_1, .slice A0_2 l0_2.length c0_2, .bool a0_3, .bool a0_4], .string a1, .int .i64 a2] w fun e w' => e = .returned (.bool r) ∧ Below w.heap.size w w' := by
  have hu26 := Tryd.underlying26
  have HR0_2 := Aside0.mk hr0_2
  have HC0_2 := Aside0.mk hc0_2
  clear hr0_2 hc0_2
  have HB := Aside0.mk (Below.refl w.heap.size w)
  have H : (if 0 ≤ (mn (l0_2.length : Int) 60) then (if (mn (l0_2.length : Int) 60) ≤ (l0_2.length : Int) then ((boltinglaw15_fixed.f k).bind fun t195 => (if t195 = true then ((header_Allows.f k a0_0 a0_1 (l0_2.take ((mn (l0_2.length : Int) 60) : Int).toNat) a0_3 a0_4 a1 a2).bind fun t196 => ((boltingref15_Allows.f k a0_0 a0_1 (l0_2.take ((mn (l0_2.length : Int) 60) : Int).toNat) a0_3 a0_4 a1 a2).bind fun t197 => (some (t196 == t197)))) else (some false))) else (none)) else (none)) = some r := h
  clear h
  obtain ⟨ji4, hji4⟩ : ∃ j_ : Int, (mn (l0_2.length : Int) 60) = j_ := ⟨_, rfl⟩
  replace H : (if 0 ≤ (ji4) then (if (ji4) ≤ (l0_2.length : Int) then ((boltinglaw15_fixed.f k).bind fun t195 => (if t195 = true then ((header_Allows.f k a0_0 a0_1 (l0_2.take ((ji4) : Int).toNat) a0_3 a0_4 a1 a2).bind fun t196 => ((boltingref15_Allows.f k a0_0 a0_1 (l0_2.take ((ji4) : Int).toNat) a0_3 a0_4 a1 a2).bind fun t197 => (some (t196 == t197)))) else (some false))) else (none)) else (none)) = some r := by first | (rw [hji4] at H; exact H) | (simp only [hji4] at H ⊢; exact H)
  (try (have hji4h : ji4 ≤ 60 := by (rw [← hji4]; unfold mn; (repeat' split) <;> omega)))
  (try (have hji4g : ji4 ≤ 64 := by omega))
  (try (have hji4l : 0 ≤ ji4 := by (rw [← hji4]; unfold mn; (repeat' split) <;> omega)))
  (try (have hji4m : 0 ≤ ji4 := by omega))
  have hji4_ : (if 60 < (l0_2.length : Int) then 60 else (l0_2.length : Int)) = ji4 := hji4
  by_cases c5 : 0 ≤ (ji4)
  · rw [if_pos c5] at H
    have c5b0 := eq_true c5
    have c5b1 : decide (0 ≤ (ji4)) = true := decide_eq_true c5
    clear c5
    by_cases c6 : (ji4) ≤ (l0_2.length : Int)
    · rw [if_pos c6] at H
      have c6b0 := eq_true c6
      have c6b1 : decide ((ji4) ≤ (l0_2.length : Int)) = true := decide_eq_true c6
      clear c6
      replace H := Option.bind_eq_some_iff.mp H
      obtain ⟨t195, A70, H⟩ := H
      replace H : (if t195 = true then ((header_Allows.f k a0_0 a0_1 (l0_2.take ((ji4) : Int).toNat) a0_3 a0_4 a1 a2).bind fun t196 => ((boltingref15_Allows.f k a0_0 a0_1 (l0_2.take ((ji4) : Int).toNat) a0_3 a0_4 a1 a2).bind fun t197 => (some (t196 == t197)))) else (some false)) = some r := H
      have A7 := Aside0.mk A70
      clear A70
      by_cases c8 : t195 = true
      · subst c8
        have H1 : ((header_Allows.f k a0_0 a0_1 (l0_2.take ((ji4) : Int).toNat) a0_3 a0_4 a1 a2).bind fun t196 => ((boltingref15_Allows.f k a0_0 a0_1 (l0_2.take ((ji4) : Int).toNat) a0_3 a0_4 a1 a2).bind fun t197 => (some (t196 == t197)))) = some r := by rw [if_pos rfl] at H; exact H
        clear H
        have H := H1
        clear H1
        replace H := Option.bind_eq_some_iff.mp H
        obtain ⟨t196, A90, H⟩ := H
        replace H : ((boltingref15_Allows.f k a0_0 a0_1 (l0_2.take ((ji4) : Int).toNat) a0_3 a0_4 a1 a2).bind fun t197 => (some (t196 == t197))) = some r := H
        have A9 := Aside0.mk A90
        clear A90
        replace H := Option.bind_eq_some_iff.mp H
        obtain ⟨t197, A100, H⟩ := H
        replace H : (some (t196 == t197)) = some r := H
        have A10 := Aside0.mk A100
        clear A100
        obtain rfl := Option.some.inj H
        go_enter Tryd.func4, Tryd.ntmps4
        try go_wp2_with (first | ((with_reducible refine gate_dst (N := 3) rfl ?_); refine box_event ?hg (N := 3) ?hd (cs := #[.bool a0_0, .bool a0_1, .slice A0_2 l0_2.length c0_2, .bool a0_3, .bool a0_4]) (t := 26) ?hr ?_; (case hd => rfl); (case hg => rfl); (case hr => first | (go_simp; done) | (go_simp; rfl)); intro gb193 hg w11 hbox hb; have n0_ := Aside0.mk (below_step (by repeat (first | (with_reducible first | exact HB.out | apply below_alloc | apply pw_below_drewN | apply below_drew1) | exact HB.out)) hb); have n1_ := Aside0.mk (hbox); have n2_ := Aside0.mk ((by rw [hg]; exact (below_size (by repeat (first | (with_reducible first | exact HB.out | apply below_alloc | apply pw_below_drewN | apply below_drew1) | exact HB.out))) : w.heap.size ≤ gb193)); have n3_ := Aside0.mk ((by rw [hg]; exact (below_size (by repeat (first | (with_reducible first | exact HB.out | apply below_alloc | apply pw_below_drewN | apply below_drew1) | exact HB.out))) : w.heap.size ≤ gb193)); clear HB; have HB := n0_; have BK193 := n1_; have GW193 := n2_; have GE193 := n3_; clear n0_ n1_ n2_ n3_; clear hb hbox hg; have hcz12_0 : w11.cell? ⟨gb193, 0, none⟩ = some (.bool a0_0) := (blk_cell BK193.out 0).trans rfl; have hcz12_1 : w11.cell? ⟨gb193, 1, none⟩ = some (.bool a0_1) := (blk_cell BK193.out 1).trans rfl; have hcz12_2 : w11.cell? ⟨gb193, 2, none⟩ = some (.slice A0_2 l0_2.length c0_2) := (blk_cell BK193.out 2).trans rfl; have hcz12_3 : w11.cell? ⟨gb193, 3, none⟩ = some (.bool a0_3) := (blk_cell BK193.out 3).trans rfl; have hcz12_4 : w11.cell? ⟨gb193, 4, none⟩ = some (.bool a0_4) := (blk_cell BK193.out 4).trans rfl; have hfz12_0 := blk_frozen BK193.out 0; have hfz12_1 := blk_frozen BK193.out 1; have hfz12_2 := blk_frozen BK193.out 2; have hfz12_3 := blk_frozen BK193.out 3; have hfz12_4 := blk_frozen BK193.out 4; obtain ⟨i013, hi013, _, hsz13, _⟩ := info_parts info9; obtain ⟨hcut13, hA13, hC13⟩ := print_take_of (P := Tryd.prog) Value.string (⟨#[]⟩ : ByteArray) 24 9 .i64 Tryd.underlying24 hi013 hsz13 A0_2 c0_2 l0_2 (ji4) (of_decide_eq_true (by first | (with_reducible assumption) | assumption)) (of_decide_eq_true (by first | (with_reducible assumption) | assumption)) HC0_2.out; have HR194 := Aside0.mk (Kd.C_of_reads (h1 := fun _ => rfl) (hA13 _ (Kd.reads_of_C HR0_2.out))); have HC194 := Aside0.mk hC13; clear hA13 hC13 hi013 hsz13))
        have n0_ : Aside0 ((w11.setCell ⟨gb193, 2, none⟩ (.slice A0_2 (l0_2.take ((ji4) : Int).toNat).length c0_2)).heap[gb193]? = some (.cells #[.bool a0_0, .bool a0_1, .slice A0_2 (l0_2.take ((ji4) : Int).toNat).length c0_2, .bool a0_3, .bool a0_4] 26 (0, 0))) := ⟨by (with_reducible repeat (first | refine blk_drewN ?_ _ | refine blk_drew ?_ | refine blk_alloc ?_ _)); refine blk_put (cs := #[.bool a0_0, .bool a0_1, .slice A0_2 l0_2.length c0_2, .bool a0_3, .bool a0_4]) ?_ 2 _ rfl; (with_reducible repeat (first | refine blk_drewN ?_ _ | refine blk_drew ?_ | refine blk_alloc ?_ _)); exact BK193.out⟩
        have n1_ : Aside0 (Below w.heap.size w (w11.setCell ⟨gb193, 2, none⟩ (.slice A0_2 (l0_2.take ((ji4) : Int).toNat).length c0_2))) := ⟨by repeat (first | (with_reducible first | exact HB.out | apply below_alloc | apply pw_below_drewN | apply below_drew1 | refine below_set ?_ GE193.out) | exact HB.out)⟩
        (try clear BK193)
        (try clear HB)
        (try rw [show (l0_2.take ((ji4) : Int).toNat).length = (ji4).toNat from (by rw [List.length_take]; have h_ : ((ji4) : Int) ≤ (l0_2.length : Int) := of_decide_eq_true (by first | (with_reducible assumption) | assumption); omega)] at n0_)
        (try rw [show (l0_2.take ((ji4) : Int).toNat).length = (ji4).toNat from (by rw [List.length_take]; have h_ : ((ji4) : Int) ≤ (l0_2.length : Int) := of_decide_eq_true (by first | (with_reducible assumption) | assumption); omega)] at n1_)
        generalize (w11.setCell ⟨gb193, 2, none⟩ (.slice A0_2 ((ji4).toNat) c0_2)) = w14 at n0_ n1_ ⊢
        (try rw [← show (l0_2.take ((ji4) : Int).toNat).length = (ji4).toNat from (by rw [List.length_take]; have h_ : ((ji4) : Int) ≤ (l0_2.length : Int) := of_decide_eq_true (by first | (with_reducible assumption) | assumption); omega)] at n0_)
        (try rw [← show (l0_2.take ((ji4) : Int).toNat).length = (ji4).toNat from (by rw [List.length_take]; have h_ : ((ji4) : Int) ≤ (l0_2.length : Int) := of_decide_eq_true (by first | (with_reducible assumption) | assumption); omega)] at n1_)
        have BK193 := n0_
        have HB := n1_
        clear n0_ n1_
        have n0_ := Aside0.mk (blk_drew BK193.out)
        have n1_ := Aside0.mk (below_drew1 HB.out)
        clear BK193
        clear HB
        have BK193 := n0_
        have HB := n1_
        clear n0_ n1_
        refine start_ (n := 13) (S := fun w' => w'.cell? ⟨gb193, 0, none⟩ = some (.bool a0_0) ∧ w'.cell? ⟨gb193, 1, none⟩ = some (.bool a0_1) ∧ w'.cell? ⟨gb193, 2, none⟩ = some (.slice A0_2 (l0_2.take ((ji4) : Int).toNat).length c0_2) ∧ w'.cell? ⟨gb193, 3, none⟩ = some (.bool a0_3) ∧ w'.cell? ⟨gb193, 4, none⟩ = some (.bool a0_4)) (ds := []) #[false, false, false, false, false, false, false, false, false, false, false, false, false] (by kernel_rfl) rfl rfl ⟨(blk_cell BK193.out 0).trans rfl, (blk_cell BK193.out 1).trans rfl, (blk_cell BK193.out 2).trans rfl, (blk_cell BK193.out 3).trans rfl, (blk_cell BK193.out 4).trans rfl⟩ (fun hHeld => ?_); refine with_tabW boltinglaw15_HeaderAllows.tab2 boltinglaw15_HeaderAllows.bits2 (fun HT_ HW_ => ?_)
        generalize w14.drew = w15 at BK193 HB hHeld ⊢
        refine one_ (i := 0) (N := some 15) #[true, false, false, false, false, false, false, false, false, false, false, false, false] rfl rfl (one_of HT_.out (by kernel_rfl)) (by decide) (fun K hK => ?_)
        refine goes_ Tryd.func16 (by kernel_rfl) rfl #[] (by rfl) rfl rfl (by (try simp only [List.map_toArray, List.map_cons, List.map_nil]); first | done | rfl | (simp only [List.length_drop, List.length_take]; rfl)) ?_
        with_reducible refine (boltinglaw15_fixed.calls k  true _ A7.out).mono ?_
        rintro e w16 ⟨rfl, hb⟩
        refine ⟨_, rfl, ?_⟩
        have n0_ := Aside0.mk (blk_below (g := gb193) (o := .cells #[.bool a0_0, .bool a0_1, .slice A0_2 (l0_2.take ((ji4) : Int).toNat).length c0_2, .bool a0_3, .bool a0_4] 26 (0, 0)) (by (with_reducible repeat (first | refine blk_drewN ?_ _ | refine blk_drew ?_ | refine blk_alloc ?_ _)); exact BK193.out) hb)
        have n1_ := Aside0.mk (below_step (by repeat (first | (with_reducible first | exact HB.out | apply below_alloc | apply pw_below_drewN | apply below_drew1 | refine below_set ?_ GE193.out) | exact HB.out)) hb)
        clear BK193
        clear HB
        have BK193 := n0_
        have HB := n1_
        clear n0_ n1_
        (try clear hb)
        (try clear hb2)
        (try clear hk)
        (try clear hi)
        refine hK.out _ _ ⟨(blk_cell BK193.out 0).trans rfl, (blk_cell BK193.out 1).trans rfl, (blk_cell BK193.out 2).trans rfl, (blk_cell BK193.out 3).trans rfl, (blk_cell BK193.out 4).trans rfl⟩ (fun hHeld => ?_)
        clear hK K
        refine norm_ (a' := ?_) ?_ ?_
        rotate_left
        · show Act.put _ (some 15) _ = _
          simp only [Act.put, List.setIfInBounds_toArray, List.set_cons_zero, List.set_cons_succ, i64_w, i32_w]
          rfl
        refine pure_ (i := 1) (N := some 16) (v := ?_) (a' := ?_) #[true, true, false, false, false, false, false, false, false, false, false, false, false] rfl rfl (any_of HT_.out (by kernel_rfl)) (fun _ _ _ h => h) (Or.inl ⟨by rfl, ?_⟩) ?_ ?_
        rotate_left
        · intro w'
          go_simp
          with_reducible rfl
        rotate_left
        · simp only [Act.put, List.setIfInBounds_toArray, List.set_cons_zero, List.set_cons_succ, i64_w, i32_w]
          rfl
        refine pure_ (i := 3) (N := some 18) (v := ?_) (a' := ?_) #[true, true, false, true, false, false, false, false, false, false, false, false, false] rfl rfl (any_of HT_.out (by kernel_rfl)) (fun _ _ _ h => h) (Or.inl ⟨by rfl, ?_⟩) ?_ ?_
        rotate_left
        · intro w'
          go_simp
          with_reducible rfl
        rotate_left
        · simp only [Act.put, List.setIfInBounds_toArray, List.set_cons_zero, List.set_cons_succ, i64_w, i32_w]
          rfl
        refine pure_ (i := 4) (N := some 19) (v := ?_) (a' := ?_) #[true, true, false, true, true, false, false, false, false, false, false, false, false] rfl rfl (any_of HT_.out (by kernel_rfl)) (fun _ _ _ h => h) (Or.inl ⟨by rfl, ?_⟩) ?_ ?_
        rotate_left
        · intro w'
          go_simp
          with_reducible rfl
        rotate_left
        · simp only [Act.put, List.setIfInBounds_toArray, List.set_cons_zero, List.set_cons_succ, i64_w, i32_w]
          rfl
        refine pure_ (i := 7) (N := some 22) (v := ?_) (a' := ?_) #[true, true, false, true, true, false, false, true, false, false, false, false, false] rfl rfl (any_of HT_.out (by kernel_rfl)) (fun _ _ _ h => h) (Or.inl ⟨by rfl, ?_⟩) ?_ ?_
        rotate_left
        · intro w'
          go_simp
          with_reducible rfl
        rotate_left
        · simp only [Act.put, List.setIfInBounds_toArray, List.set_cons_zero, List.set_cons_succ, i64_w, i32_w]
          rfl
        refine pure_ (i := 8) (N := some 23) (v := ?_) (a' := ?_) #[true, true, false, true, true, false, false, true, true, false, false, false, false] rfl rfl (any_of HT_.out (by kernel_rfl)) (fun _ _ _ h => h) (Or.inl ⟨by rfl, ?_⟩) ?_ ?_
        rotate_left
        · intro w'
          go_simp
          with_reducible rfl
        rotate_left
        · simp only [Act.put, List.setIfInBounds_toArray, List.set_cons_zero, List.set_cons_succ, i64_w, i32_w]
          rfl
        refine take_ (i := 2) (N := some 17) (v := ?_) (a' := ?_) #[true, true, true, true, true, false, false, true, true, false, false, false, false] rfl rfl (take_ofW HT_.out HW_.out (by kernel_rfl)) (fun _ _ _ h => h) (Or.inl ⟨by rfl, ?_⟩) hHeld ?_ ?_
        rotate_left
        · rintro w' ⟨s0, s1, s2, s3, s4⟩
          go_simp
          with_reducible rfl
        rotate_left
        · simp only [Act.put, List.setIfInBounds_toArray, List.set_cons_zero, List.set_cons_succ, i64_w, i32_w]
          rfl
        refine take_ (i := 6) (N := some 21) (v := ?_) (a' := ?_) #[true, true, true, true, true, false, true, true, true, false, false, false, false] rfl rfl (take_ofW HT_.out HW_.out (by kernel_rfl)) (fun _ _ _ h => h) (Or.inl ⟨by rfl, ?_⟩) hHeld ?_ ?_
        rotate_left
        · rintro w' ⟨s0, s1, s2, s3, s4⟩
          go_simp
          with_reducible rfl
        rotate_left
        · simp only [Act.put, List.setIfInBounds_toArray, List.set_cons_zero, List.set_cons_succ, i64_w, i32_w]
          rfl
        refine one_ (i := 5) (N := some 20) #[true, true, true, true, true, true, true, true, true, false, false, false, false] rfl rfl (one_of HT_.out (by kernel_rfl)) (by decide) (fun K hK => ?_)
        refine goes_ Tryd.func17 (by kernel_rfl) rfl #[.agg #[.bool a0_0, .bool a0_1, .slice A0_2 (l0_2.take ((ji4) : Int).toNat).length c0_2, .bool a0_3, .bool a0_4], .string a1, .int .i64 a2] (by rfl) rfl rfl (by (try simp only [List.map_toArray, List.map_cons, List.map_nil]); first | done | (rw [show (l0_2.take ((ji4) : Int).toNat).length = (ji4).toNat from (by rw [List.length_take]; have h_ : ((ji4) : Int) ≤ (l0_2.length : Int) := of_decide_eq_true (by first | (with_reducible assumption) | assumption); omega)] <;> rfl) | (simp only [hji4]; rfl) | rfl | (simp only [List.length_drop, List.length_take]; rfl)) ?_
        with_reducible refine (header_Allows.calls k a0_0 a0_1 _ _ (l0_2.take ((ji4) : Int).toNat) a0_3 a0_4 a1 a2 t196 _ ?side1 ?side2 A9.out).mono ?_
        (case side1 => repeat (first | exact (Kd.C_below HR194.out HB.out) | (with_reducible refine Kd.C_alloc ?_ _) | (with_reducible refine Kd.C_drewN ?_ _) | (with_reducible refine Kd.C_drew ?_)))
        (case side2 => exact HC194.out)
        rintro e w17 ⟨rfl, hb⟩
        refine ⟨_, rfl, ?_⟩
        have n0_ := Aside0.mk (blk_below (g := gb193) (o := .cells #[.bool a0_0, .bool a0_1, .slice A0_2 (l0_2.take ((ji4) : Int).toNat).length c0_2, .bool a0_3, .bool a0_4] 26 (0, 0)) (by (with_reducible repeat (first | refine blk_drewN ?_ _ | refine blk_drew ?_ | refine blk_alloc ?_ _)); exact BK193.out) hb)
        have n1_ := Aside0.mk (below_step (by repeat (first | (with_reducible first | exact HB.out | apply below_alloc | apply pw_below_drewN | apply below_drew1 | refine below_set ?_ GE193.out) | exact HB.out)) hb)
        clear BK193
        clear HB
        have BK193 := n0_
        have HB := n1_
        clear n0_ n1_
        (try clear hb)
        (try clear hb2)
        (try clear hk)
        (try clear hi)
        refine hK.out _ _ ⟨(blk_cell BK193.out 0).trans rfl, (blk_cell BK193.out 1).trans rfl, (blk_cell BK193.out 2).trans rfl, (blk_cell BK193.out 3).trans rfl, (blk_cell BK193.out 4).trans rfl⟩ (fun hHeld => ?_)
        clear hK K
        refine norm_ (a' := ?_) ?_ ?_
        rotate_left
        · show Act.put _ (some 20) _ = _
          simp only [Act.put, List.setIfInBounds_toArray, List.set_cons_zero, List.set_cons_succ, i64_w, i32_w]
          rfl
        refine one_ (i := 9) (N := some 24) #[true, true, true, true, true, true, true, true, true, true, false, false, false] rfl rfl (one_of HT_.out (by kernel_rfl)) (by decide) (fun K hK => ?_)
        refine goes_ Tryd.func18 (by kernel_rfl) rfl #[.agg #[.bool a0_0, .bool a0_1, .slice A0_2 (l0_2.take ((ji4) : Int).toNat).length c0_2, .bool a0_3, .bool a0_4], .string a1, .int .i64 a2] (by rfl) rfl rfl (by (try simp only [List.map_toArray, List.map_cons, List.map_nil]); first | done | (rw [show (l0_2.take ((ji4) : Int).toNat).length = (ji4).toNat from (by rw [List.length_take]; have h_ : ((ji4) : Int) ≤ (l0_2.length : Int) := of_decide_eq_true (by first | (with_reducible assumption) | assumption); omega)] <;> rfl) | (simp only [hji4]; rfl) | rfl | (simp only [List.length_drop, List.length_take]; rfl)) ?_
        with_reducible refine (boltingref15_Allows.calls k a0_0 a0_1 _ _ (l0_2.take ((ji4) : Int).toNat) a0_3 a0_4 a1 a2 t197 _ ?side1 ?side2 A10.out).mono ?_
        (case side1 => repeat (first | exact (Kd.C_below HR194.out HB.out) | (with_reducible refine Kd.C_alloc ?_ _) | (with_reducible refine Kd.C_drewN ?_ _) | (with_reducible refine Kd.C_drew ?_)))
        (case side2 => exact HC194.out)
        rintro e w18 ⟨rfl, hb⟩
        refine ⟨_, rfl, ?_⟩
        have n0_ := Aside0.mk (blk_below (g := gb193) (o := .cells #[.bool a0_0, .bool a0_1, .slice A0_2 (l0_2.take ((ji4) : Int).toNat).length c0_2, .bool a0_3, .bool a0_4] 26 (0, 0)) (by (with_reducible repeat (first | refine blk_drewN ?_ _ | refine blk_drew ?_ | refine blk_alloc ?_ _)); exact BK193.out) hb)
        have n1_ := Aside0.mk (below_step (by repeat (first | (with_reducible first | exact HB.out | apply below_alloc | apply pw_below_drewN | apply below_drew1 | refine below_set ?_ GE193.out) | exact HB.out)) hb)
        clear BK193
        clear HB
        have BK193 := n0_
        have HB := n1_
        clear n0_ n1_
        (try clear hb)
        (try clear hb2)
        (try clear hk)
        (try clear hi)
        refine hK.out _ _ ⟨(blk_cell BK193.out 0).trans rfl, (blk_cell BK193.out 1).trans rfl, (blk_cell BK193.out 2).trans rfl, (blk_cell BK193.out 3).trans rfl, (blk_cell BK193.out 4).trans rfl⟩ (fun hHeld => ?_)
        clear hK K
        refine norm_ (a' := ?_) ?_ ?_
        rotate_left
        · show Act.put _ (some 24) _ = _
          simp only [Act.put, List.setIfInBounds_toArray, List.set_cons_zero, List.set_cons_succ, i64_w, i32_w]
          rfl
        refine pure_ (i := 10) (N := some 25) (v := ?_) (a' := ?_) #[true, true, true, true, true, true, true, true, true, true, true, false, false] rfl rfl (any_of HT_.out (by kernel_rfl)) (fun _ _ _ h => h) (Or.inl ⟨by rfl, ?_⟩) ?_ ?_
        rotate_left
        · intro w'
          go_simp
          with_reducible rfl
        rotate_left
        · simp only [Act.put, List.setIfInBounds_toArray, List.set_cons_zero, List.set_cons_succ, i64_w, i32_w]
          rfl
        refine pure_ (i := 11) (N := some 26) (v := ?_) (a' := ?_) #[true, true, true, true, true, true, true, true, true, true, true, true, false] rfl rfl (any_of HT_.out (by kernel_rfl)) (fun _ _ _ h => h) (Or.inl ⟨by rfl, ?_⟩) ?_ ?_
        rotate_left
        · intro w'
          go_simp
          with_reducible rfl
        rotate_left
        · simp only [Act.put, List.setIfInBounds_toArray, List.set_cons_zero, List.set_cons_succ, i64_w, i32_w]
          rfl
        refine pure_ (i := 12) (N := some 6) (v := ?_) (a' := ?_) #[true, true, true, true, true, true, true, true, true, true, true, true, true] rfl rfl (any_of HT_.out (by kernel_rfl)) (fun _ _ _ h => h) (Or.inl ⟨by rfl, ?_⟩) ?_ ?_
        rotate_left
        · intro w'
          go_simp
          with_reducible rfl
        rotate_left
        · simp only [Act.put, List.setIfInBounds_toArray, List.set_cons_zero, List.set_cons_succ, i64_w, i32_w]
          rfl
        refine done_ (done_of HT_.out (by kernel_rfl)) ?_
        try go_wp2
        go_ret
        exact ⟨by first | rfl | (simp [errW_none, errW_some] <;> rfl) | (simp only [← hji4]; first | rfl | (simp [errW_none, errW_some] <;> rfl)) | (simp [*, errW_none, errW_some] <;> rfl), by repeat (first | (with_reducible first | exact HB.out | apply below_alloc | apply pw_below_drewN | apply below_drew1 | refine below_set ?_ GE193.out) | exact HB.out)⟩
      · replace c8 := Bool.eq_false_iff.mpr c8
        subst c8
        have H1 : (some false) = some r := by rw [if_neg (show ¬ (false = true) by decide)] at H; exact H
        clear H
        have H := H1
        clear H1
        obtain rfl := Option.some.inj H
        go_enter Tryd.func4, Tryd.ntmps4
        try go_wp2_with (first | ((with_reducible refine gate_dst (N := 3) rfl ?_); refine box_event ?hg (N := 3) ?hd (cs := #[.bool a0_0, .bool a0_1, .slice A0_2 l0_2.length c0_2, .bool a0_3, .bool a0_4]) (t := 26) ?hr ?_; (case hd => rfl); (case hg => rfl); (case hr => first | (go_simp; done) | (go_simp; rfl)); intro gb193 hg w19 hbox hb; have n0_ := Aside0.mk (below_step (by repeat (first | (with_reducible first | exact HB.out | apply below_alloc | apply pw_below_drewN | apply below_drew1) | exact HB.out)) hb); have n1_ := Aside0.mk (hbox); have n2_ := Aside0.mk ((by rw [hg]; exact (below_size (by repeat (first | (with_reducible first | exact HB.out | apply below_alloc | apply pw_below_drewN | apply below_drew1) | exact HB.out))) : w.heap.size ≤ gb193)); have n3_ := Aside0.mk ((by rw [hg]; exact (below_size (by repeat (first | (with_reducible first | exact HB.out | apply below_alloc | apply pw_below_drewN | apply below_drew1) | exact HB.out))) : w.heap.size ≤ gb193)); clear HB; have HB := n0_; have BK193 := n1_; have GW193 := n2_; have GE193 := n3_; clear n0_ n1_ n2_ n3_; clear hb hbox hg; have hcz20_0 : w19.cell? ⟨gb193, 0, none⟩ = some (.bool a0_0) := (blk_cell BK193.out 0).trans rfl; have hcz20_1 : w19.cell? ⟨gb193, 1, none⟩ = some (.bool a0_1) := (blk_cell BK193.out 1).trans rfl; have hcz20_2 : w19.cell? ⟨gb193, 2, none⟩ = some (.slice A0_2 l0_2.length c0_2) := (blk_cell BK193.out 2).trans rfl; have hcz20_3 : w19.cell? ⟨gb193, 3, none⟩ = some (.bool a0_3) := (blk_cell BK193.out 3).trans rfl; have hcz20_4 : w19.cell? ⟨gb193, 4, none⟩ = some (.bool a0_4) := (blk_cell BK193.out 4).trans rfl; have hfz20_0 := blk_frozen BK193.out 0; have hfz20_1 := blk_frozen BK193.out 1; have hfz20_2 := blk_frozen BK193.out 2; have hfz20_3 := blk_frozen BK193.out 3; have hfz20_4 := blk_frozen BK193.out 4; obtain ⟨i021, hi021, _, hsz21, _⟩ := info_parts info9; obtain ⟨hcut21, hA21, hC21⟩ := print_take_of (P := Tryd.prog) Value.string (⟨#[]⟩ : ByteArray) 24 9 .i64 Tryd.underlying24 hi021 hsz21 A0_2 c0_2 l0_2 (ji4) (of_decide_eq_true (by first | (with_reducible assumption) | assumption)) (of_decide_eq_true (by first | (with_reducible assumption) | assumption)) HC0_2.out; have HR194 := Aside0.mk (Kd.C_of_reads (h1 := fun _ => rfl) (hA21 _ (Kd.reads_of_C HR0_2.out))); have HC194 := Aside0.mk hC21; clear hA21 hC21 hi021 hsz21))
        have n0_ : Aside0 ((w19.setCell ⟨gb193, 2, none⟩ (.slice A0_2 (l0_2.take ((ji4) : Int).toNat).length c0_2)).heap[gb193]? = some (.cells #[.bool a0_0, .bool a0_1, .slice A0_2 (l0_2.take ((ji4) : Int).toNat).length c0_2, .bool a0_3, .bool a0_4] 26 (0, 0))) := ⟨by (with_reducible repeat (first | refine blk_drewN ?_ _ | refine blk_drew ?_ | refine blk_alloc ?_ _)); refine blk_put (cs := #[.bool a0_0, .bool a0_1, .slice A0_2 l0_2.length c0_2, .bool a0_3, .bool a0_4]) ?_ 2 _ rfl; (with_reducible repeat (first | refine blk_drewN ?_ _ | refine blk_drew ?_ | refine blk_alloc ?_ _)); exact BK193.out⟩
        have n1_ : Aside0 (Below w.heap.size w (w19.setCell ⟨gb193, 2, none⟩ (.slice A0_2 (l0_2.take ((ji4) : Int).toNat).length c0_2))) := ⟨by repeat (first | (with_reducible first | exact HB.out | apply below_alloc | apply pw_below_drewN | apply below_drew1 | refine below_set ?_ GE193.out) | exact HB.out)⟩
        (try clear BK193)
        (try clear HB)
        (try rw [show (l0_2.take ((ji4) : Int).toNat).length = (ji4).toNat from (by rw [List.length_take]; have h_ : ((ji4) : Int) ≤ (l0_2.length : Int) := of_decide_eq_true (by first | (with_reducible assumption) | assumption); omega)] at n0_)
        (try rw [show (l0_2.take ((ji4) : Int).toNat).length = (ji4).toNat from (by rw [List.length_take]; have h_ : ((ji4) : Int) ≤ (l0_2.length : Int) := of_decide_eq_true (by first | (with_reducible assumption) | assumption); omega)] at n1_)
        generalize (w19.setCell ⟨gb193, 2, none⟩ (.slice A0_2 ((ji4).toNat) c0_2)) = w22 at n0_ n1_ ⊢
        (try rw [← show (l0_2.take ((ji4) : Int).toNat).length = (ji4).toNat from (by rw [List.length_take]; have h_ : ((ji4) : Int) ≤ (l0_2.length : Int) := of_decide_eq_true (by first | (with_reducible assumption) | assumption); omega)] at n0_)
        (try rw [← show (l0_2.take ((ji4) : Int).toNat).length = (ji4).toNat from (by rw [List.length_take]; have h_ : ((ji4) : Int) ≤ (l0_2.length : Int) := of_decide_eq_true (by first | (with_reducible assumption) | assumption); omega)] at n1_)
        have BK193 := n0_
        have HB := n1_
        clear n0_ n1_
        have n0_ := Aside0.mk (blk_drew BK193.out)
        have n1_ := Aside0.mk (below_drew1 HB.out)
        clear BK193
        clear HB
        have BK193 := n0_
        have HB := n1_
        clear n0_ n1_
        refine start_ (n := 13) (S := fun w' => True) (ds := []) #[false, false, false, false, false, false, false, false, false, false, false, false, false] (by kernel_rfl) rfl rfl trivial (fun hHeld => ?_); refine with_tabW boltinglaw15_HeaderAllows.tab2 boltinglaw15_HeaderAllows.bits2 (fun HT_ HW_ => ?_)
        generalize w22.drew = w23 at BK193 HB hHeld ⊢
        refine one_ (i := 0) (N := some 15) #[true, false, false, false, false, false, false, false, false, false, false, false, false] rfl rfl (one_of HT_.out (by kernel_rfl)) (by decide) (fun K hK => ?_)
        refine goes_ Tryd.func16 (by kernel_rfl) rfl #[] (by rfl) rfl rfl (by (try simp only [List.map_toArray, List.map_cons, List.map_nil]); first | done | rfl | (simp only [List.length_drop, List.length_take]; rfl)) ?_
        with_reducible refine (boltinglaw15_fixed.calls k  false _ A7.out).mono ?_
        rintro e w24 ⟨rfl, hb⟩
        refine ⟨_, rfl, ?_⟩
        have n0_ := Aside0.mk (blk_below (g := gb193) (o := .cells #[.bool a0_0, .bool a0_1, .slice A0_2 (l0_2.take ((ji4) : Int).toNat).length c0_2, .bool a0_3, .bool a0_4] 26 (0, 0)) (by (with_reducible repeat (first | refine blk_drewN ?_ _ | refine blk_drew ?_ | refine blk_alloc ?_ _)); exact BK193.out) hb)
        have n1_ := Aside0.mk (below_step (by repeat (first | (with_reducible first | exact HB.out | apply below_alloc | apply pw_below_drewN | apply below_drew1 | refine below_set ?_ GE193.out) | exact HB.out)) hb)
        clear BK193
        clear HB
        have BK193 := n0_
        have HB := n1_
        clear n0_ n1_
        (try clear hb)
        (try clear hb2)
        (try clear hk)
        (try clear hi)
        refine hK.out _ _ trivial (fun hHeld => ?_)
        clear hK K
        refine norm_ (a' := ?_) ?_ ?_
        rotate_left
        · show Act.put _ (some 15) _ = _
          simp only [Act.put, List.setIfInBounds_toArray, List.set_cons_zero, List.set_cons_succ, i64_w, i32_w]
          rfl
        refine pure_ (i := 1) (N := some 16) (v := ?_) (a' := ?_) #[true, true, false, false, false, false, false, false, false, false, false, false, false] rfl rfl (any_of HT_.out (by kernel_rfl)) (fun _ _ _ h => h) (Or.inl ⟨by rfl, ?_⟩) ?_ ?_
        rotate_left
        · intro w'
          go_simp
          with_reducible rfl
        rotate_left
        · simp only [Act.put, List.setIfInBounds_toArray, List.set_cons_zero, List.set_cons_succ, i64_w, i32_w]
          rfl
        refine pure_ (i := 2) (N := some 17) (v := undef) (a' := ?_) #[true, true, true, false, false, false, false, false, false, false, false, false, false] rfl rfl (any_of HT_.out (by kernel_rfl)) (fun _ _ _ h => h) (Or.inr ⟨by rfl, rfl⟩) ?_ ?_
        rotate_left
        · simp only [Act.put, List.setIfInBounds_toArray, List.set_cons_zero, List.set_cons_succ, i64_w, i32_w]
          rfl
        refine pure_ (i := 3) (N := some 18) (v := undef) (a' := ?_) #[true, true, true, true, false, false, false, false, false, false, false, false, false] rfl rfl (any_of HT_.out (by kernel_rfl)) (fun _ _ _ h => h) (Or.inr ⟨by rfl, rfl⟩) ?_ ?_
        rotate_left
        · simp only [Act.put, List.setIfInBounds_toArray, List.set_cons_zero, List.set_cons_succ, i64_w, i32_w]
          rfl
        refine pure_ (i := 4) (N := some 19) (v := undef) (a' := ?_) #[true, true, true, true, true, false, false, false, false, false, false, false, false] rfl rfl (any_of HT_.out (by kernel_rfl)) (fun _ _ _ h => h) (Or.inr ⟨by rfl, rfl⟩) ?_ ?_
        rotate_left
        · simp only [Act.put, List.setIfInBounds_toArray, List.set_cons_zero, List.set_cons_succ, i64_w, i32_w]
          rfl
        refine pure_ (i := 5) (N := some 20) (v := undef) (a' := ?_) #[true, true, true, true, true, true, false, false, false, false, false, false, false] rfl rfl (any_of HT_.out (by kernel_rfl)) (fun _ _ _ h => h) (Or.inr ⟨by rfl, rfl⟩) ?_ ?_
        rotate_left
        · simp only [Act.put, List.setIfInBounds_toArray, List.set_cons_zero, List.set_cons_succ, i64_w, i32_w]
          rfl
        refine pure_ (i := 6) (N := some 21) (v := undef) (a' := ?_) #[true, true, true, true, true, true, true, false, false, false, false, false, false] rfl rfl (any_of HT_.out (by kernel_rfl)) (fun _ _ _ h => h) (Or.inr ⟨by rfl, rfl⟩) ?_ ?_
        rotate_left
        · simp only [Act.put, List.setIfInBounds_toArray, List.set_cons_zero, List.set_cons_succ, i64_w, i32_w]
          rfl
        refine pure_ (i := 7) (N := some 22) (v := undef) (a' := ?_) #[true, true, true, true, true, true, true, true, false, false, false, false, false] rfl rfl (any_of HT_.out (by kernel_rfl)) (fun _ _ _ h => h) (Or.inr ⟨by rfl, rfl⟩) ?_ ?_
        rotate_left
        · simp only [Act.put, List.setIfInBounds_toArray, List.set_cons_zero, List.set_cons_succ, i64_w, i32_w]
          rfl
        refine pure_ (i := 8) (N := some 23) (v := undef) (a' := ?_) #[true, true, true, true, true, true, true, true, true, false, false, false, false] rfl rfl (any_of HT_.out (by kernel_rfl)) (fun _ _ _ h => h) (Or.inr ⟨by rfl, rfl⟩) ?_ ?_
        rotate_left
        · simp only [Act.put, List.setIfInBounds_toArray, List.set_cons_zero, List.set_cons_succ, i64_w, i32_w]
          rfl
        refine pure_ (i := 9) (N := some 24) (v := undef) (a' := ?_) #[true, true, true, true, true, true, true, true, true, true, false, false, false] rfl rfl (any_of HT_.out (by kernel_rfl)) (fun _ _ _ h => h) (Or.inr ⟨by rfl, rfl⟩) ?_ ?_
        rotate_left
        · simp only [Act.put, List.setIfInBounds_toArray, List.set_cons_zero, List.set_cons_succ, i64_w, i32_w]
          rfl
        refine pure_ (i := 10) (N := some 25) (v := undef) (a' := ?_) #[true, true, true, true, true, true, true, true, true, true, true, false, false] rfl rfl (any_of HT_.out (by kernel_rfl)) (fun _ _ _ h => h) (Or.inr ⟨by rfl, rfl⟩) ?_ ?_
        rotate_left
        · simp only [Act.put, List.setIfInBounds_toArray, List.set_cons_zero, List.set_cons_succ, i64_w, i32_w]
          rfl
        refine pure_ (i := 11) (N := some 26) (v := ?_) (a' := ?_) #[true, true, true, true, true, true, true, true, true, true, true, true, false] rfl rfl (any_of HT_.out (by kernel_rfl)) (fun _ _ _ h => h) (Or.inl ⟨by rfl, ?_⟩) ?_ ?_
        rotate_left
        · intro w'
          go_simp
          with_reducible rfl
        rotate_left
        · simp only [Act.put, List.setIfInBounds_toArray, List.set_cons_zero, List.set_cons_succ, i64_w, i32_w]
          rfl
        refine pure_ (i := 12) (N := some 6) (v := ?_) (a' := ?_) #[true, true, true, true, true, true, true, true, true, true, true, true, true] rfl rfl (any_of HT_.out (by kernel_rfl)) (fun _ _ _ h => h) (Or.inl ⟨by rfl, ?_⟩) ?_ ?_
        rotate_left
        · intro w'
          go_simp
          with_reducible rfl
        rotate_left
        · simp only [Act.put, List.setIfInBounds_toArray, List.set_cons_zero, List.set_cons_succ, i64_w, i32_w]
          rfl
        refine done_ (done_of HT_.out (by kernel_rfl)) ?_
        try go_wp2
        go_ret
        exact ⟨by first | rfl | (simp [errW_none, errW_some] <;> rfl) | (simp only [← hji4]; first | rfl | (simp [errW_none, errW_some] <;> rfl)) | (simp [*, errW_none, errW_some] <;> rfl), by repeat (first | (with_reducible first | exact HB.out | apply below_alloc | apply pw_below_drewN | apply below_drew1 | refine below_set ?_ GE193.out) | exact HB.out)⟩
    · rw [if_neg c6] at H
      exact absurd H (by simp)
  · rw [if_neg c5] at H
    exact absurd H (by simp)

end Go.Proofs.YthblohknnlkidaaDoor.Pr
