import Derived.Test.YticacakoefojbaaGreatJCleanKeeps2
import Derived.Test.YticacakoefojbaaGreatJCleanKeeps1
import Derived.Test.YticacakoefojbaaGreatJCleanKeeps3
set_option linter.unusedSimpArgs false
set_option linter.unusedVariables false
namespace Go.Proofs.YticacakoefojbaaGreat.Pr
open Go.RowKit Go.Proofs.YticacakoefojbaaGreatW.PrintWords Go.Proofs.YticacakoefojbaaGreatW.PrintLast Go.Proofs.YticacakoefojbaaGreatW.PrintMore
attribute [local go_sem] max2_int min2_int max_two min_two max_three min_three max_four min_four   -- for this text's walks alone

mutual
def boltingref04_Same.l0 : Nat → List (S38) → List (S38) → Int → Option (Bool)
 | 0, _, _, _ => none
 | k + 1, x0, x1, x5 => if x5 < (x0.length : Int) then (if 0 ≤ x5 then (if x5 < (x1.length : Int) then (if ((rd_T38 x0 x5).f0) = ((rd_T38 x1 x5).f0) then (if ((rd_T38 x0 x5).f1) = ((rd_T38 x1 x5).f1) then (if ((rd_T38 x0 x5).f2).toList = ((rd_T38 x1 x5).f2).toList then (if ((rd_T38 x0 x5).f3).toList = ((rd_T38 x1 x5).f3).toList then ((boltingref04_Attrs.f k ((rd_T38 x0 x5).f4) ((rd_T38 x1 x5).f4)).bind fun t467 => (boltingref04_Same.j1 k x0 x1 x5 (!t467))) else (boltingref04_Same.j1 k x0 x1 x5 true)) else (boltingref04_Same.j1 k x0 x1 x5 true)) else (boltingref04_Same.j1 k x0 x1 x5 true)) else (boltingref04_Same.j1 k x0 x1 x5 true)) else (none)) else (none)) else (some true)
def boltingref04_Same.j1 : Nat → List (S38) → List (S38) → Int → Bool → Option (Bool)
 | 0, _, _, _, _ => none
 | k + 1, x0, x1, x5, x60 => if x60 = true then (some false) else (boltingref04_Same.l0 k x0 x1 (wrap64 (x5 + 1)))
end
def boltingref04_Same.f (k : Nat) (l0 : List (S38)) (l1 : List (S38)) : Option (Bool) := if (l0.length : Int) = (l1.length : Int) then (boltingref04_Same.l0 k l0 l1 0) else (some false)
theorem boltingref04_Same.mono_l : ∀ k, (∀ y0 y1 y2, LeO (boltingref04_Same.l0 k y0 y1 y2) (boltingref04_Same.l0 (k + 1) y0 y1 y2)) ∧ (∀ y0 y1 y2 y3, LeO (boltingref04_Same.j1 k y0 y1 y2 y3) (boltingref04_Same.j1 (k + 1) y0 y1 y2 y3))
 | 0 => ⟨fun _ _ _ r h => by simp [boltingref04_Same.l0] at h, fun _ _ _ _ r h => by simp [boltingref04_Same.j1] at h⟩
 | k + 1 => by
  obtain ⟨ih0, ih1⟩ := boltingref04_Same.mono_l k
  refine ⟨?_, ?_⟩
  ·intro y0 y1 y2
   unfold boltingref04_Same.l0
   repeat' first
   | (with_reducible exact ih0 _ _ _)
   | (with_reducible exact ih1 _ _ _ _)
   | (with_reducible exact boltingref04_Attrs.mono _ _ _)
   | (with_reducible exact LeO.refl _)
   | (with_reducible exact LeO.none _)
   | (with_reducible refine LeO.ite ?_ ?_)
   | (with_reducible refine LeO.bind ?_ (fun _ => ?_))
   | exact ih0 _ _ _
   | exact ih1 _ _ _ _
   | exact boltingref04_Attrs.mono _ _ _
   | exact LeO.none _
   | refine LeO.ite ?_ ?_
   | refine LeO.bind ?_ (fun _ => ?_)
  ·intro y0 y1 y2 y3
   unfold boltingref04_Same.j1
   repeat' first
   | (with_reducible exact ih0 _ _ _)
   | (with_reducible exact ih1 _ _ _ _)
   | (with_reducible exact boltingref04_Attrs.mono _ _ _)
   | (with_reducible exact LeO.refl _)
   | (with_reducible exact LeO.none _)
   | (with_reducible refine LeO.ite ?_ ?_)
   | (with_reducible refine LeO.bind ?_ (fun _ => ?_))
   | exact ih0 _ _ _
   | exact ih1 _ _ _ _
   | exact boltingref04_Attrs.mono _ _ _
   | exact LeO.none _
   | refine LeO.ite ?_ ?_
   | refine LeO.bind ?_ (fun _ => ?_)
theorem boltingref04_Same.mono : ∀ a0 a1 k, LeO (boltingref04_Same.f k a0 a1) (boltingref04_Same.f (k + 1) a0 a1) := by
 intro a0 a1 k
 obtain ⟨ih0, ih1⟩ := boltingref04_Same.mono_l k
 unfold boltingref04_Same.f
 repeat' first
   | (with_reducible exact ih0 _ _ _)
   | (with_reducible exact ih1 _ _ _ _)
   | (with_reducible exact boltingref04_Attrs.mono _ _ _)
   | (with_reducible exact LeO.refl _)
   | (with_reducible exact LeO.none _)
   | (with_reducible refine LeO.ite ?_ ?_)
   | (with_reducible refine LeO.bind ?_ (fun _ => ?_))
   | exact ih0 _ _ _
   | exact ih1 _ _ _ _
   | exact boltingref04_Attrs.mono _ _ _
   | exact LeO.none _
   | refine LeO.ite ?_ ?_
   | refine LeO.bind ?_ (fun _ => ?_)
def boltingref04_Same.T6 : Bool × List (List Nat × List Nat) := (true, [([], []), ([], []), ([0, 1], [0, 1]), ([2], [2]), ([], []), ([], []), ([4, 5], [4, 5]), ([6], [6]), ([], []), ([], []), ([8, 3, 0, 1, 2, 3, 8, 9], [3, 8]), ([9, 7, 10, 0, 1, 2, 3, 4, 5, 6, 7, 8, 9, 10], [7, 9])])
def boltingref04_Same.B6 : List Nat := [0, 0, 3, 7, 0, 0, 48, 112, 0, 0, 783, 2047]
theorem boltingref04_Same.tab6 : rtab .any (opsOf Tryz.f16 6) = boltingref04_Same.T6 := by kernel_rfl
theorem boltingref04_Same.bits6 : waitsOk boltingref04_Same.T6.2 boltingref04_Same.B6 = true := by kernel_rfl
set_option maxHeartbeats 8000000 in
set_option maxRecDepth 100000 in
theorem boltingref04_Same.calls (k : Nat) (A0 : Option Addr) (c0 : Nat) (l0 : List (S38)) (A1 : Option Addr) (c1 : Nat) (l1 : List (S38)) (r : Bool) (w : World) (hr0 : Kd.C k38 w A0 l0.length l0) (hc0 : l0.length ≤ c0) (hr1 : Kd.C k38 w A1 l1.length l1) (hc1 : l1.length ≤ c1) (h : boltingref04_Same.f k l0 l1 = some r) :
  Calls Tryz.prog 16 #[.slice A0 l0.length c0, .slice A1 l1.length c1] w fun e w' => e = .returned (.bool r) ∧ Below w.heap.size w w' := by
 have hu38 := Tryz.underlying38
 have HR0 := am hr0
 have HC0 := am hc0
 clear hr0 hc0
 have HR1 := am hr1
 have HC1 := am hc1
 clear hr1 hc1
 have HB := am (Below.refl w.heap.size w)
 have H : (if (l0.length : Int) = (l1.length : Int) then (boltingref04_Same.l0 k l0 l1 0) else (some false)) = some r := h
 clear h
 by_cases c3 : (l0.length : Int) = (l1.length : Int)
 ·rw [if_pos c3] at H
  have c3b0 : ((l0.length : Int) == (l1.length : Int)) = true := beq_iff_eq.mpr c3
  have c3b1 : ((l0.length : Int) != (l1.length : Int)) = false := bne_eq_false_iff_eq.mpr c3
  have c3b2 : (l0.length == l1.length) = true := by first | simpa using c3 | (simp at c3 ⊢; omega)
  clear c3
  have H' := am H
  clear H
  go_enter Tryz.func16, Tryz.ntmps16
  go_wp2
  go_loopg [5] k (fun kq v5 w' => ∃ (x5_1 : Int), v5 = .int .i64 x5_1 ∧ Aside0 (boltingref04_Same.l0 kq l0 l1 x5_1 = some r) ∧ Aside0 (kq ≤ k) ∧ Aside0 (Below w.heap.size w w'))
  case atStart => exact ⟨(0), zr, H', ⟨Nat.le_refl _⟩, ⟨zb HB⟩⟩
  case round =>
   clear H'
   try clear c1
   try clear p2
   try clear c3
   try clear c3b0
   try clear c3b1
   try clear c3b2
   obtain ⟨x5_1, rfl, HA, HK1, HB⟩ := hrel
   cases gk with
   | zero => exact absurd HA.out (by simp [boltingref04_Same.l0])
   | succ k1 =>
    have H := HA.out
    clear HA
    simp only [boltingref04_Same.l0] at H
    by_cases c4 : x5_1 < (l0.length : Int)
    ·rw [if_pos c4] at H
     have c4b0 : decide (x5_1 < (l0.length : Int)) = true := decide_eq_true c4
     clear c4
     by_cases c5 : 0 ≤ x5_1
     ·rw [if_pos c5] at H
      have c5b0 : decide (0 ≤ x5_1) = true := decide_eq_true c5
      clear c5
      by_cases c6 : x5_1 < (l1.length : Int)
      ·rw [if_pos c6] at H
       have c6b0 : decide (x5_1 < (l1.length : Int)) = true := decide_eq_true c6
       clear c6
       have HC7 := am H
       clear H
       try go_wp2
       have n0_ := am (below_drew1 HB.out)
       clear HB
       have HB := n0_
       clear n0_
       have p463 : 0 ≤ (x5_1 : Int) := of_decide_eq_true za
       have q463 : x5_1 < (l0.length : Int) := of_decide_eq_true za
       obtain ⟨ad463, A463_4, c463_4, e463, hx463_0, hx463_1, hx463_2, hx463_3, hx463_4, hl463_4, hi463_4⟩ := at_T38 HR0.out x5_1 p463 q463
       have hw463_4 := hx463_4
       have hw463_3 := hx463_3
       have hw463_2 := hx463_2
       have hw463_1 := hx463_1
       have hw463_0 := hx463_0
       cases e463
       replace hx463_0 := (HB.out.cell (World.block_lt_of_cell? w _ hx463_0)).trans hx463_0
       replace hx463_1 := (HB.out.cell (World.block_lt_of_cell? w _ hx463_1)).trans hx463_1
       replace hx463_2 := (HB.out.cell (World.block_lt_of_cell? w _ hx463_2)).trans hx463_2
       replace hx463_3 := (HB.out.cell (World.block_lt_of_cell? w _ hx463_3)).trans hx463_3
       replace hx463_4 := (HB.out.cell (World.block_lt_of_cell? w _ hx463_4)).trans hx463_4
       have HR463_4 := am hi463_4
       have HC463_4 := am hl463_4
       clear hi463_4 hl463_4
       replace p463 := eq_true p463
       replace q463 := eq_true q463
       have p464 : 0 ≤ (x5_1 : Int) := of_decide_eq_true za
       have q464 : x5_1 < (l1.length : Int) := of_decide_eq_true za
       obtain ⟨ad464, A464_4, c464_4, e464, hx464_0, hx464_1, hx464_2, hx464_3, hx464_4, hl464_4, hi464_4⟩ := at_T38 HR1.out x5_1 p464 q464
       have hw464_4 := hx464_4
       have hw464_3 := hx464_3
       have hw464_2 := hx464_2
       have hw464_1 := hx464_1
       have hw464_0 := hx464_0
       cases e464
       replace hx464_0 := (HB.out.cell (World.block_lt_of_cell? w _ hx464_0)).trans hx464_0
       replace hx464_1 := (HB.out.cell (World.block_lt_of_cell? w _ hx464_1)).trans hx464_1
       replace hx464_2 := (HB.out.cell (World.block_lt_of_cell? w _ hx464_2)).trans hx464_2
       replace hx464_3 := (HB.out.cell (World.block_lt_of_cell? w _ hx464_3)).trans hx464_3
       replace hx464_4 := (HB.out.cell (World.block_lt_of_cell? w _ hx464_4)).trans hx464_4
       have HR464_4 := am hi464_4
       have HC464_4 := am hl464_4
       clear hi464_4 hl464_4
       replace p464 := eq_true p464
       replace q464 := eq_true q464
       have HS : ∀ w', Below w.heap.size w w' → (w'.cell? (ad463.add ((x5_1).toNat * 5)) = some (.int .i64 ((rd_T38 l0 x5_1).f0)) ∧ w'.cell? ⟨(ad463.add ((x5_1).toNat * 5)).block, (ad463.add ((x5_1).toNat * 5)).off + 1, none⟩ = some (.int .i64 ((rd_T38 l0 x5_1).f1)) ∧ w'.cell? ⟨(ad463.add ((x5_1).toNat * 5)).block, (ad463.add ((x5_1).toNat * 5)).off + 2, none⟩ = some (.string ((rd_T38 l0 x5_1).f2)) ∧ w'.cell? ⟨(ad463.add ((x5_1).toNat * 5)).block, (ad463.add ((x5_1).toNat * 5)).off + 3, none⟩ = some (.string ((rd_T38 l0 x5_1).f3)) ∧ w'.cell? ⟨(ad463.add ((x5_1).toNat * 5)).block, (ad463.add ((x5_1).toNat * 5)).off + 4, none⟩ = some (.slice A463_4 ((rd_T38 l0 x5_1).f4).length c463_4) ∧ w'.cell? (ad464.add ((x5_1).toNat * 5)) = some (.int .i64 ((rd_T38 l1 x5_1).f0)) ∧ w'.cell? ⟨(ad464.add ((x5_1).toNat * 5)).block, (ad464.add ((x5_1).toNat * 5)).off + 1, none⟩ = some (.int .i64 ((rd_T38 l1 x5_1).f1)) ∧ w'.cell? ⟨(ad464.add ((x5_1).toNat * 5)).block, (ad464.add ((x5_1).toNat * 5)).off + 2, none⟩ = some (.string ((rd_T38 l1 x5_1).f2)) ∧ w'.cell? ⟨(ad464.add ((x5_1).toNat * 5)).block, (ad464.add ((x5_1).toNat * 5)).off + 3, none⟩ = some (.string ((rd_T38 l1 x5_1).f3)) ∧ w'.cell? ⟨(ad464.add ((x5_1).toNat * 5)).block, (ad464.add ((x5_1).toNat * 5)).off + 4, none⟩ = some (.slice A464_4 ((rd_T38 l1 x5_1).f4).length c464_4)) := fun w' hb_ => ⟨(hb_.cell (World.block_lt_of_cell? w _ hw463_0)).trans hw463_0, (hb_.cell (World.block_lt_of_cell? w _ hw463_1)).trans hw463_1, (hb_.cell (World.block_lt_of_cell? w _ hw463_2)).trans hw463_2, (hb_.cell (World.block_lt_of_cell? w _ hw463_3)).trans hw463_3, (hb_.cell (World.block_lt_of_cell? w _ hw463_4)).trans hw463_4, (hb_.cell (World.block_lt_of_cell? w _ hw464_0)).trans hw464_0, (hb_.cell (World.block_lt_of_cell? w _ hw464_1)).trans hw464_1, (hb_.cell (World.block_lt_of_cell? w _ hw464_2)).trans hw464_2, (hb_.cell (World.block_lt_of_cell? w _ hw464_3)).trans hw464_3, (hb_.cell (World.block_lt_of_cell? w _ hw464_4)).trans hw464_4⟩
       refine start_ (n := 12) (S := fun w' => w'.cell? (ad463.add ((x5_1).toNat * 5)) = some (.int .i64 ((rd_T38 l0 x5_1).f0)) ∧ w'.cell? ⟨(ad463.add ((x5_1).toNat * 5)).block, (ad463.add ((x5_1).toNat * 5)).off + 1, none⟩ = some (.int .i64 ((rd_T38 l0 x5_1).f1)) ∧ w'.cell? ⟨(ad463.add ((x5_1).toNat * 5)).block, (ad463.add ((x5_1).toNat * 5)).off + 2, none⟩ = some (.string ((rd_T38 l0 x5_1).f2)) ∧ w'.cell? ⟨(ad463.add ((x5_1).toNat * 5)).block, (ad463.add ((x5_1).toNat * 5)).off + 3, none⟩ = some (.string ((rd_T38 l0 x5_1).f3)) ∧ w'.cell? ⟨(ad463.add ((x5_1).toNat * 5)).block, (ad463.add ((x5_1).toNat * 5)).off + 4, none⟩ = some (.slice A463_4 ((rd_T38 l0 x5_1).f4).length c463_4) ∧ w'.cell? (ad464.add ((x5_1).toNat * 5)) = some (.int .i64 ((rd_T38 l1 x5_1).f0)) ∧ w'.cell? ⟨(ad464.add ((x5_1).toNat * 5)).block, (ad464.add ((x5_1).toNat * 5)).off + 1, none⟩ = some (.int .i64 ((rd_T38 l1 x5_1).f1)) ∧ w'.cell? ⟨(ad464.add ((x5_1).toNat * 5)).block, (ad464.add ((x5_1).toNat * 5)).off + 2, none⟩ = some (.string ((rd_T38 l1 x5_1).f2)) ∧ w'.cell? ⟨(ad464.add ((x5_1).toNat * 5)).block, (ad464.add ((x5_1).toNat * 5)).off + 3, none⟩ = some (.string ((rd_T38 l1 x5_1).f3)) ∧ w'.cell? ⟨(ad464.add ((x5_1).toNat * 5)).block, (ad464.add ((x5_1).toNat * 5)).off + 4, none⟩ = some (.slice A464_4 ((rd_T38 l1 x5_1).f4).length c464_4)) (ds := []) (tf 0 12) (by kernel_rfl) rfl rfl (HS _ (zb HB)) (fun hHeld => ?_); refine with_tabW boltingref04_Same.tab6 boltingref04_Same.bits6 (fun HT_ HW_ => ?_)
       generalize wr.drew = w8 at HB HR463_4 HR464_4 hx463_0 hx463_1 hx463_2 hx463_3 hx463_4 hx464_0 hx464_1 hx464_2 hx464_3 hx464_4 hHeld ⊢
       refine pure_ (i := 0) (N := some 19) (v := ?_) (a' := ?_) (tf 1 11) rfl rfl (any_of HT_.out (by kernel_rfl)) (fun _ _ _ h => h) (Or.inl ⟨by rfl, ?_⟩) ?_ ?_
       rotate_left
       ·intro w'
        go_simp
        with_reducible rfl
       rotate_left
       ·simp only [Act.put, List.setIfInBounds_toArray, List.set_cons_zero, List.set_cons_succ, i64_w, i32_w]
        rfl
       refine pure_ (i := 1) (N := some 20) (v := ?_) (a' := ?_) (tf 2 10) rfl rfl (any_of HT_.out (by kernel_rfl)) (fun _ _ _ h => h) (Or.inl ⟨by rfl, ?_⟩) ?_ ?_
       rotate_left
       ·intro w'
        go_simp
        with_reducible rfl
       rotate_left
       ·simp only [Act.put, List.setIfInBounds_toArray, List.set_cons_zero, List.set_cons_succ, i64_w, i32_w]
        rfl
       refine pure_ (i := 2) (N := some 21) (v := ?_) (a' := ?_) (tf 3 9) rfl rfl (any_of HT_.out (by kernel_rfl)) (fun _ _ _ h => h) (Or.inl ⟨by rfl, ?_⟩) ?_ ?_
       rotate_left
       ·intro w'
        go_simp
        with_reducible rfl
       rotate_left
       ·simp only [Act.put, List.setIfInBounds_toArray, List.set_cons_zero, List.set_cons_succ, i64_w, i32_w]
        rfl
       refine pure_ (i := 4) (N := some 23) (v := ?_) (a' := ?_) #[true, true, true, false, true, false, false, false, false, false, false, false] rfl rfl (any_of HT_.out (by kernel_rfl)) (fun _ _ _ h => h) (Or.inl ⟨by rfl, ?_⟩) ?_ ?_
       rotate_left
       ·intro w'
        go_simp
        with_reducible rfl
       rotate_left
       ·simp only [Act.put, List.setIfInBounds_toArray, List.set_cons_zero, List.set_cons_succ, i64_w, i32_w]
        rfl
       refine pure_ (i := 5) (N := some 24) (v := ?_) (a' := ?_) #[true, true, true, false, true, true, false, false, false, false, false, false] rfl rfl (any_of HT_.out (by kernel_rfl)) (fun _ _ _ h => h) (Or.inl ⟨by rfl, ?_⟩) ?_ ?_
       rotate_left
       ·intro w'
        go_simp
        with_reducible rfl
       rotate_left
       ·simp only [Act.put, List.setIfInBounds_toArray, List.set_cons_zero, List.set_cons_succ, i64_w, i32_w]
        rfl
       refine pure_ (i := 6) (N := some 25) (v := ?_) (a' := ?_) #[true, true, true, false, true, true, true, false, false, false, false, false] rfl rfl (any_of HT_.out (by kernel_rfl)) (fun _ _ _ h => h) (Or.inl ⟨by rfl, ?_⟩) ?_ ?_
       rotate_left
       ·intro w'
        go_simp
        with_reducible rfl
       rotate_left
       ·simp only [Act.put, List.setIfInBounds_toArray, List.set_cons_zero, List.set_cons_succ, i64_w, i32_w]
        rfl
       refine take_ (i := 3) (N := some 22) (v := ?_) (a' := ?_) (tf 7 5) rfl rfl (take_ofW HT_.out HW_.out (by kernel_rfl)) (fun _ _ _ h => h) (Or.inl ⟨by rfl, ?_⟩) hHeld ?_ ?_
       rotate_left
       ·rintro w' ⟨s0, s1, s2, s3, s4, s5, s6, s7, s8, s9⟩
        go_simp
        with_reducible rfl
       rotate_left
       ·simp only [Act.put, List.setIfInBounds_toArray, List.set_cons_zero, List.set_cons_succ, i64_w, i32_w]
        rfl
       refine take_ (i := 7) (N := some 26) (v := ?_) (a' := ?_) (tf 8 4) rfl rfl (take_ofW HT_.out HW_.out (by kernel_rfl)) (fun _ _ _ h => h) (Or.inl ⟨by rfl, ?_⟩) hHeld ?_ ?_
       rotate_left
       ·rintro w' ⟨s0, s1, s2, s3, s4, s5, s6, s7, s8, s9⟩
        go_simp
        with_reducible rfl
       rotate_left
       ·simp only [Act.put, List.setIfInBounds_toArray, List.set_cons_zero, List.set_cons_succ, i64_w, i32_w]
        rfl
       refine join_ (σ := Nat × Nat) 2 (tf 10 2) (fun s_ => [(6, .pointer (some ⟨s_.1, 0, none⟩)), (7, .pointer (some ⟨s_.2, 0, none⟩))]) (fun s_ w' => (w'.cell? (ad463.add ((x5_1).toNat * 5)) = some (.int .i64 ((rd_T38 l0 x5_1).f0)) ∧ w'.cell? ⟨(ad463.add ((x5_1).toNat * 5)).block, (ad463.add ((x5_1).toNat * 5)).off + 1, none⟩ = some (.int .i64 ((rd_T38 l0 x5_1).f1)) ∧ w'.cell? ⟨(ad463.add ((x5_1).toNat * 5)).block, (ad463.add ((x5_1).toNat * 5)).off + 2, none⟩ = some (.string ((rd_T38 l0 x5_1).f2)) ∧ w'.cell? ⟨(ad463.add ((x5_1).toNat * 5)).block, (ad463.add ((x5_1).toNat * 5)).off + 3, none⟩ = some (.string ((rd_T38 l0 x5_1).f3)) ∧ w'.cell? ⟨(ad463.add ((x5_1).toNat * 5)).block, (ad463.add ((x5_1).toNat * 5)).off + 4, none⟩ = some (.slice A463_4 ((rd_T38 l0 x5_1).f4).length c463_4) ∧ w'.cell? (ad464.add ((x5_1).toNat * 5)) = some (.int .i64 ((rd_T38 l1 x5_1).f0)) ∧ w'.cell? ⟨(ad464.add ((x5_1).toNat * 5)).block, (ad464.add ((x5_1).toNat * 5)).off + 1, none⟩ = some (.int .i64 ((rd_T38 l1 x5_1).f1)) ∧ w'.cell? ⟨(ad464.add ((x5_1).toNat * 5)).block, (ad464.add ((x5_1).toNat * 5)).off + 2, none⟩ = some (.string ((rd_T38 l1 x5_1).f2)) ∧ w'.cell? ⟨(ad464.add ((x5_1).toNat * 5)).block, (ad464.add ((x5_1).toNat * 5)).off + 3, none⟩ = some (.string ((rd_T38 l1 x5_1).f3)) ∧ w'.cell? ⟨(ad464.add ((x5_1).toNat * 5)).block, (ad464.add ((x5_1).toNat * 5)).off + 4, none⟩ = some (.slice A464_4 ((rd_T38 l1 x5_1).f4).length c464_4)) ∧ (w'.heap[s_.1]? = some (.cells #[.int .i64 0, .int .i64 0, .string (⟨#[]⟩ : ByteArray), .string (⟨#[]⟩ : ByteArray), .slice none 0 0] 38 (0, 0))) ∧ (w'.heap[s_.2]? = some (.cells #[.int .i64 0, .int .i64 0, .string (⟨#[]⟩ : ByteArray), .string (⟨#[]⟩ : ByteArray), .slice none 0 0] 38 (0, 0))) ∧ (w.heap.size ≤ s_.1) ∧ (w.heap.size ≤ s_.1) ∧ (s_.2 ≠ s_.1) ∧ (s_.1 ≠ s_.2) ∧ (w.heap.size ≤ s_.2) ∧ (w.heap.size ≤ s_.2) ∧ (Below w.heap.size w w')) ?_ ?_
       rotate_left
       ·intro hCont
        refine two_ (i := 8) (j := 9) (Ni := some 6) (Nj := some 7) (tf 9 3) #[true, true, true, true, true, true, true, true, false, true, false, false] rfl rfl rfl rfl (two_of HT_.out (by kernel_rfl)) (by decide) (by decide) (fun K hK => ?_) (fun K hK => ?_)
        ·skip
         refine box_step ?hg (N := 6) ?hd (cs := #[.int .i64 0, .int .i64 0, .string (⟨#[]⟩ : ByteArray), .string (⟨#[]⟩ : ByteArray), .slice none 0 0]) (t := 38) ?hr ?_; (case hd => rfl); (case hg => rfl); (case hr => first | (go_simp; done) | (go_simp; rfl))
         intro gb465 hg w9 hbox hb
         have n0_ := am (below_step (zb HB) hb)
         have n1_ := am (hbox)
         have n2_ := am ((by rw [hg]; exact (below_size (zb HB)) : w.heap.size ≤ gb465))
         have n3_ := am ((by rw [hg]; exact (below_size (zb HB)) : w.heap.size ≤ gb465))
         clear HB
         have HB := n0_
         have BK465 := n1_
         have GW465 := n2_
         have GE465 := n3_
         clear n0_ n1_ n2_ n3_
         clear hb hbox hg
         refine hK.out _ _ (HS _ (zb HB)) (fun hHeld => ?_)
         clear hK K
         refine norm_ (a' := ?_) ?_ ?_
         rotate_left
         ·show Act.put _ (some 6) _ = _
          simp only [Act.put, List.setIfInBounds_toArray, List.set_cons_zero, List.set_cons_succ, i64_w, i32_w]
          rfl
         refine one_ (i := 9) (N := some 7) (tf 10 2) rfl rfl (one_of HT_.out (by kernel_rfl)) (by decide) (fun K hK => ?_)
         refine box_step ?hg (N := 7) ?hd (cs := #[.int .i64 0, .int .i64 0, .string (⟨#[]⟩ : ByteArray), .string (⟨#[]⟩ : ByteArray), .slice none 0 0]) (t := 38) ?hr ?_; (case hd => rfl); (case hg => rfl); (case hr => first | (go_simp; done) | (go_simp; rfl))
         intro gb466 hg w10 hbox hb
         have n0_ := am (blk_below (g := gb465) (o := .cells #[.int .i64 0, .int .i64 0, .string (⟨#[]⟩ : ByteArray), .string (⟨#[]⟩ : ByteArray), .slice none 0 0] 38 (0, 0)) (by (with_reducible repeat (first | refine blk_drewN ?_ _ | refine blk_drew ?_ | refine blk_alloc ?_ _)); exact BK465.out) hb)
         have n1_ := am (below_step (zb1 HB GE465) hb)
         have n2_ := am (hbox)
         have n3_ := am ((by rw [hg]; exact (below_size (zb1 HB GE465)) : w.heap.size ≤ gb466))
         have n4_ := am ((by rw [hg]; exact (below_size (zb1 HB GE465)) : w.heap.size ≤ gb466))
         have n5_ := am ((by rw [hg]; exact Nat.ne_of_lt (blk_lt (g := gb465) (o := .cells #[.int .i64 0, .int .i64 0, .string (⟨#[]⟩ : ByteArray), .string (⟨#[]⟩ : ByteArray), .slice none 0 0] 38 (0, 0)) (by (with_reducible repeat (first | refine blk_drewN ?_ _ | refine blk_drew ?_ | refine blk_alloc ?_ _)); exact BK465.out)) : gb465 ≠ gb466))
         have n6_ := am ((by rw [hg]; exact Nat.ne_of_gt (blk_lt (g := gb465) (o := .cells #[.int .i64 0, .int .i64 0, .string (⟨#[]⟩ : ByteArray), .string (⟨#[]⟩ : ByteArray), .slice none 0 0] 38 (0, 0)) (by (with_reducible repeat (first | refine blk_drewN ?_ _ | refine blk_drew ?_ | refine blk_alloc ?_ _)); exact BK465.out)) : gb466 ≠ gb465))
         clear BK465
         clear HB
         have BK465 := n0_
         have HB := n1_
         have BK466 := n2_
         have GW466 := n3_
         have GE466 := n4_
         have NB465_466 := n5_
         have NB466_465 := n6_
         clear n0_ n1_ n2_ n3_ n4_ n5_ n6_
         clear hb hbox hg
         refine hK.out _ _ (HS _ (zb HB)) (fun hHeld => ?_)
         clear hK K
         refine norm_ (a' := ?_) ?_ ?_
         rotate_left
         ·show Act.put _ (some 7) _ = _
          simp only [Act.put, List.setIfInBounds_toArray, List.set_cons_zero, List.set_cons_succ, i64_w, i32_w]
          rfl
         exact norm_ (by simp only [putAll, Act.put, List.setIfInBounds_toArray, List.set_cons_zero, List.set_cons_succ]) (hCont (gb465, gb466) _ ⟨hHeld, (by (with_reducible repeat (first | refine blk_drewN ?_ _ | refine blk_drew ?_ | refine blk_alloc ?_ _)); exact BK465.out), (by (with_reducible repeat (first | refine blk_drewN ?_ _ | refine blk_drew ?_ | refine blk_alloc ?_ _)); exact BK466.out), GW465.out, GE465.out, NB466_465.out, NB465_466.out, GW466.out, GE466.out, (zb2 HB GE465 GE466)⟩)
        ·skip
         refine box_step ?hg (N := 7) ?hd (cs := #[.int .i64 0, .int .i64 0, .string (⟨#[]⟩ : ByteArray), .string (⟨#[]⟩ : ByteArray), .slice none 0 0]) (t := 38) ?hr ?_; (case hd => rfl); (case hg => rfl); (case hr => first | (go_simp; done) | (go_simp; rfl))
         intro gb466 hg w9 hbox hb
         have n0_ := am (below_step (zb HB) hb)
         have n1_ := am (hbox)
         have n2_ := am ((by rw [hg]; exact (below_size (zb HB)) : w.heap.size ≤ gb466))
         have n3_ := am ((by rw [hg]; exact (below_size (zb HB)) : w.heap.size ≤ gb466))
         clear HB
         have HB := n0_
         have BK466 := n1_
         have GW466 := n2_
         have GE466 := n3_
         clear n0_ n1_ n2_ n3_
         clear hb hbox hg
         refine hK.out _ _ (HS _ (zb HB)) (fun hHeld => ?_)
         clear hK K
         refine norm_ (a' := ?_) ?_ ?_
         rotate_left
         ·show Act.put _ (some 7) _ = _
          simp only [Act.put, List.setIfInBounds_toArray, List.set_cons_zero, List.set_cons_succ, i64_w, i32_w]
          rfl
         refine one_ (i := 8) (N := some 6) (tf 10 2) rfl rfl (one_of HT_.out (by kernel_rfl)) (by decide) (fun K hK => ?_)
         refine box_step ?hg (N := 6) ?hd (cs := #[.int .i64 0, .int .i64 0, .string (⟨#[]⟩ : ByteArray), .string (⟨#[]⟩ : ByteArray), .slice none 0 0]) (t := 38) ?hr ?_; (case hd => rfl); (case hg => rfl); (case hr => first | (go_simp; done) | (go_simp; rfl))
         intro gb465 hg w10 hbox hb
         have n0_ := am (blk_below (g := gb466) (o := .cells #[.int .i64 0, .int .i64 0, .string (⟨#[]⟩ : ByteArray), .string (⟨#[]⟩ : ByteArray), .slice none 0 0] 38 (0, 0)) (by (with_reducible repeat (first | refine blk_drewN ?_ _ | refine blk_drew ?_ | refine blk_alloc ?_ _)); exact BK466.out) hb)
         have n1_ := am (below_step (zb1 HB GE466) hb)
         have n2_ := am (hbox)
         have n3_ := am ((by rw [hg]; exact (below_size (zb1 HB GE466)) : w.heap.size ≤ gb465))
         have n4_ := am ((by rw [hg]; exact (below_size (zb1 HB GE466)) : w.heap.size ≤ gb465))
         have n5_ := am ((by rw [hg]; exact Nat.ne_of_lt (blk_lt (g := gb466) (o := .cells #[.int .i64 0, .int .i64 0, .string (⟨#[]⟩ : ByteArray), .string (⟨#[]⟩ : ByteArray), .slice none 0 0] 38 (0, 0)) (by (with_reducible repeat (first | refine blk_drewN ?_ _ | refine blk_drew ?_ | refine blk_alloc ?_ _)); exact BK466.out)) : gb466 ≠ gb465))
         have n6_ := am ((by rw [hg]; exact Nat.ne_of_gt (blk_lt (g := gb466) (o := .cells #[.int .i64 0, .int .i64 0, .string (⟨#[]⟩ : ByteArray), .string (⟨#[]⟩ : ByteArray), .slice none 0 0] 38 (0, 0)) (by (with_reducible repeat (first | refine blk_drewN ?_ _ | refine blk_drew ?_ | refine blk_alloc ?_ _)); exact BK466.out)) : gb465 ≠ gb466))
         clear BK466
         clear HB
         have BK466 := n0_
         have HB := n1_
         have BK465 := n2_
         have GW465 := n3_
         have GE465 := n4_
         have NB466_465 := n5_
         have NB465_466 := n6_
         clear n0_ n1_ n2_ n3_ n4_ n5_ n6_
         clear hb hbox hg
         refine hK.out _ _ (HS _ (zb HB)) (fun hHeld => ?_)
         clear hK K
         refine norm_ (a' := ?_) ?_ ?_
         rotate_left
         ·show Act.put _ (some 6) _ = _
          simp only [Act.put, List.setIfInBounds_toArray, List.set_cons_zero, List.set_cons_succ, i64_w, i32_w]
          rfl
         exact norm_ (by simp only [putAll, Act.put, List.setIfInBounds_toArray, List.set_cons_zero, List.set_cons_succ]) (hCont (gb465, gb466) _ ⟨hHeld, (by (with_reducible repeat (first | refine blk_drewN ?_ _ | refine blk_drew ?_ | refine blk_alloc ?_ _)); exact BK465.out), (by (with_reducible repeat (first | refine blk_drewN ?_ _ | refine blk_drew ?_ | refine blk_alloc ?_ _)); exact BK466.out), GW465.out, GE465.out, NB466_465.out, NB465_466.out, GW466.out, GE466.out, (zb2 HB GE466 GE465)⟩)
       rintro ⟨gb465, gb466⟩ w11 ⟨hS_, h0_, h1_, h2_, h3_, h4_, h5_, h6_, h7_, h8_⟩
       have n0_ : Aside0 (w11.heap[gb465]? = some (.cells #[.int .i64 0, .int .i64 0, .string (⟨#[]⟩ : ByteArray), .string (⟨#[]⟩ : ByteArray), .slice none 0 0] 38 (0, 0))) := ⟨h0_⟩
       have n1_ : Aside0 (w11.heap[gb466]? = some (.cells #[.int .i64 0, .int .i64 0, .string (⟨#[]⟩ : ByteArray), .string (⟨#[]⟩ : ByteArray), .slice none 0 0] 38 (0, 0))) := ⟨h1_⟩
       have n2_ : Aside0 (w.heap.size ≤ gb465) := ⟨h2_⟩
       have n3_ : Aside0 (w.heap.size ≤ gb465) := ⟨h3_⟩
       have n4_ : Aside0 (gb466 ≠ gb465) := ⟨h4_⟩
       have n5_ : Aside0 (gb465 ≠ gb466) := ⟨h5_⟩
       have n6_ : Aside0 (w.heap.size ≤ gb466) := ⟨h6_⟩
       have n7_ : Aside0 (w.heap.size ≤ gb466) := ⟨h7_⟩
       have n8_ : Aside0 (Below w.heap.size w w11) := ⟨h8_⟩
       clear HB
       clear h0_ h1_ h2_ h3_ h4_ h5_ h6_ h7_ h8_
       have BK465 := n0_
       have BK466 := n1_
       have GW465 := n2_
       have GE465 := n3_
       have NB466_465 := n4_
       have NB465_466 := n5_
       have GW466 := n6_
       have GE466 := n7_
       have HB := n8_
       clear n0_ n1_ n2_ n3_ n4_ n5_ n6_ n7_ n8_
       have hHeld : w11.cell? (ad463.add ((x5_1).toNat * 5)) = some (.int .i64 ((rd_T38 l0 x5_1).f0)) ∧ w11.cell? ⟨(ad463.add ((x5_1).toNat * 5)).block, (ad463.add ((x5_1).toNat * 5)).off + 1, none⟩ = some (.int .i64 ((rd_T38 l0 x5_1).f1)) ∧ w11.cell? ⟨(ad463.add ((x5_1).toNat * 5)).block, (ad463.add ((x5_1).toNat * 5)).off + 2, none⟩ = some (.string ((rd_T38 l0 x5_1).f2)) ∧ w11.cell? ⟨(ad463.add ((x5_1).toNat * 5)).block, (ad463.add ((x5_1).toNat * 5)).off + 3, none⟩ = some (.string ((rd_T38 l0 x5_1).f3)) ∧ w11.cell? ⟨(ad463.add ((x5_1).toNat * 5)).block, (ad463.add ((x5_1).toNat * 5)).off + 4, none⟩ = some (.slice A463_4 ((rd_T38 l0 x5_1).f4).length c463_4) ∧ w11.cell? (ad464.add ((x5_1).toNat * 5)) = some (.int .i64 ((rd_T38 l1 x5_1).f0)) ∧ w11.cell? ⟨(ad464.add ((x5_1).toNat * 5)).block, (ad464.add ((x5_1).toNat * 5)).off + 1, none⟩ = some (.int .i64 ((rd_T38 l1 x5_1).f1)) ∧ w11.cell? ⟨(ad464.add ((x5_1).toNat * 5)).block, (ad464.add ((x5_1).toNat * 5)).off + 2, none⟩ = some (.string ((rd_T38 l1 x5_1).f2)) ∧ w11.cell? ⟨(ad464.add ((x5_1).toNat * 5)).block, (ad464.add ((x5_1).toNat * 5)).off + 3, none⟩ = some (.string ((rd_T38 l1 x5_1).f3)) ∧ w11.cell? ⟨(ad464.add ((x5_1).toNat * 5)).block, (ad464.add ((x5_1).toNat * 5)).off + 4, none⟩ = some (.slice A464_4 ((rd_T38 l1 x5_1).f4).length c464_4) := hS_
       refine norm_ (a' := ?_) ?_ ?_
       rotate_left
       ·simp only [putAll, Act.put, List.setIfInBounds_toArray, List.set_cons_zero, List.set_cons_succ]
        rfl
       refine one_ (i := 10) (N := none) (tf 11 1) rfl rfl (one_of HT_.out (by kernel_rfl)) (by decide) (fun K hK => ?_)
       have hs12 : w11.cell? ⟨gb465, 0, none⟩ = some (.int .i64 0) := (blk_cell BK465.out 0).trans rfl
       have hfs12 := blk_frozen BK465.out 0
       have hns12_1 := NB466_465.out
       have hms12_1 := NB465_466.out
       have hs13 : w11.cell? ⟨gb465, 1, none⟩ = some (.int .i64 0) := (blk_cell BK465.out 1).trans rfl
       have hfs13 := blk_frozen BK465.out 1
       have hns13_1 := NB466_465.out
       have hms13_1 := NB465_466.out
       have hs14 : w11.cell? ⟨gb465, 2, none⟩ = some (.string (⟨#[]⟩ : ByteArray)) := (blk_cell BK465.out 2).trans rfl
       have hfs14 := blk_frozen BK465.out 2
       have hns14_1 := NB466_465.out
       have hms14_1 := NB465_466.out
       have hs15 : w11.cell? ⟨gb465, 3, none⟩ = some (.string (⟨#[]⟩ : ByteArray)) := (blk_cell BK465.out 3).trans rfl
       have hfs15 := blk_frozen BK465.out 3
       have hns15_1 := NB466_465.out
       have hms15_1 := NB465_466.out
       have hs16 : w11.cell? ⟨gb465, 4, none⟩ = some (.slice none 0 0) := (blk_cell BK465.out 4).trans rfl
       have hfs16 := blk_frozen BK465.out 4
       have hns16_1 := NB466_465.out
       have hms16_1 := NB465_466.out
       refine skip_ (w1 := ?_) (by rfl) rfl ?_ ?_
       rotate_left
       ·go_simp
        rfl
       refine hK.out _ _ (HS _ (zb1 HB GE465)) (fun hHeld => ?_)
       clear hK K
       refine one_ (i := 11) (N := none) (tf 12 0) rfl rfl (one_of HT_.out (by kernel_rfl)) (by decide) (fun K hK => ?_)
       have hs17 : w11.cell? ⟨gb466, 0, none⟩ = some (.int .i64 0) := (blk_cell BK466.out 0).trans rfl
       have hfs17 := blk_frozen BK466.out 0
       have hns17_0 := NB465_466.out
       have hms17_0 := NB466_465.out
       have hs18 : w11.cell? ⟨gb466, 1, none⟩ = some (.int .i64 0) := (blk_cell BK466.out 1).trans rfl
       have hfs18 := blk_frozen BK466.out 1
       have hns18_0 := NB465_466.out
       have hms18_0 := NB466_465.out
       have hs19 : w11.cell? ⟨gb466, 2, none⟩ = some (.string (⟨#[]⟩ : ByteArray)) := (blk_cell BK466.out 2).trans rfl
       have hfs19 := blk_frozen BK466.out 2
       have hns19_0 := NB465_466.out
       have hms19_0 := NB466_465.out
       have hs20 : w11.cell? ⟨gb466, 3, none⟩ = some (.string (⟨#[]⟩ : ByteArray)) := (blk_cell BK466.out 3).trans rfl
       have hfs20 := blk_frozen BK466.out 3
       have hns20_0 := NB465_466.out
       have hms20_0 := NB466_465.out
       have hs21 : w11.cell? ⟨gb466, 4, none⟩ = some (.slice none 0 0) := (blk_cell BK466.out 4).trans rfl
       have hfs21 := blk_frozen BK466.out 4
       have hns21_0 := NB465_466.out
       have hms21_0 := NB466_465.out
       refine skip_ (w1 := ?_) (by rfl) rfl ?_ ?_
       rotate_left
       ·go_simp
        rfl
       refine hK.out _ _ (HS _ (zb2 HB GE465 GE466)) (fun hHeld => ?_)
       clear hK K
       refine done_ (done_of HT_.out (by kernel_rfl)) ?_
       go_upto_region 7 with (fail)
       go_cut [60] (fun v60 wc => ∃ (kq : Nat) (x60_6 : Bool), v60 = .bool x60_6 ∧ Aside0 (boltingref04_Same.j1 kq l0 l1 x5_1 x60_6 = some r) ∧ Aside0 (kq ≤ k1) ∧ Aside0 (wc.heap[gb465]? = some (.cells #[.int .i64 ((rd_T38 l0 x5_1).f0), .int .i64 ((rd_T38 l0 x5_1).f1), .string ((rd_T38 l0 x5_1).f2), .string ((rd_T38 l0 x5_1).f3), (.slice A463_4 ((rd_T38 l0 x5_1).f4).length c463_4)] 38 (0, 0))) ∧ Aside0 (wc.heap[gb466]? = some (.cells #[.int .i64 ((rd_T38 l1 x5_1).f0), .int .i64 ((rd_T38 l1 x5_1).f1), .string ((rd_T38 l1 x5_1).f2), .string ((rd_T38 l1 x5_1).f3), (.slice A464_4 ((rd_T38 l1 x5_1).f4).length c464_4)] 38 (0, 0))) ∧ Aside0 (Below w.heap.size w wc))
       case first =>
        have H := HC7.out
        clear HC7
        by_cases c22 : ((rd_T38 l0 x5_1).f0) = ((rd_T38 l1 x5_1).f0)
        ·rw [if_pos c22] at H
         have c22b0 : (((rd_T38 l0 x5_1).f0) == ((rd_T38 l1 x5_1).f0)) = true := beq_iff_eq.mpr c22
         have c22b1 : (((rd_T38 l0 x5_1).f0) != ((rd_T38 l1 x5_1).f0)) = false := bne_eq_false_iff_eq.mpr c22
         clear c22
         (first | rw [c22b0] | (simp only [i64_w, i32_w]; rw [c22b0]) | skip)
         by_cases c23 : ((rd_T38 l0 x5_1).f1) = ((rd_T38 l1 x5_1).f1)
         ·rw [if_pos c23] at H
          have c23b0 : (((rd_T38 l0 x5_1).f1) == ((rd_T38 l1 x5_1).f1)) = true := beq_iff_eq.mpr c23
          have c23b1 : (((rd_T38 l0 x5_1).f1) != ((rd_T38 l1 x5_1).f1)) = false := bne_eq_false_iff_eq.mpr c23
          clear c23
          by_cases c24 : ((rd_T38 l0 x5_1).f2).toList = ((rd_T38 l1 x5_1).f2).toList
          ·rw [if_pos c24] at H
           have c24b0 : (((rd_T38 l0 x5_1).f2).toList == ((rd_T38 l1 x5_1).f2).toList) = true := beq_iff_eq.mpr c24
           have c24b1 : (((rd_T38 l0 x5_1).f2).toList != ((rd_T38 l1 x5_1).f2).toList) = false := bne_eq_false_iff_eq.mpr c24
           clear c24
           by_cases c25 : ((rd_T38 l0 x5_1).f3).toList = ((rd_T38 l1 x5_1).f3).toList
           ·rw [if_pos c25] at H
            have c25b0 : (((rd_T38 l0 x5_1).f3).toList == ((rd_T38 l1 x5_1).f3).toList) = true := beq_iff_eq.mpr c25
            have c25b1 : (((rd_T38 l0 x5_1).f3).toList != ((rd_T38 l1 x5_1).f3).toList) = false := bne_eq_false_iff_eq.mpr c25
            clear c25
            replace H := Option.bind_eq_some_iff.mp H
            obtain ⟨t467, A260, H⟩ := H
            have A26 := am A260
            clear A260
            have H' := am H
            clear H
            have hnb27 := NB465_466.out
            have hnc27 := NB466_465.out
            obtain ⟨hcz28_0, hcz28_1, hcz28_2, hcz28_3, hcz28_4, hfz28_0, hfz28_1, hfz28_2, hfz28_3, hfz28_4⟩ := cz5 BK465.out
            obtain ⟨hcz29_0, hcz29_1, hcz29_2, hcz29_3, hcz29_4, hfz29_0, hfz29_1, hfz29_2, hfz29_3, hfz29_4⟩ := cz5 BK466.out
            go_wp2_with (first | (go_at_call 23; (with_reducible refine (boltingref04_Attrs.calls k1 _ _ ((rd_T38 l0 x5_1).f4) _ _ ((rd_T38 l1 x5_1).f4) t467 _ ?side1 ?side2 ?side3 ?side4 A26.out).mono ?_); (case side1 => exact Kd.C_below HR463_4.out (zb2 HB GE465 GE466)); (case side2 => exact HC463_4.out); (case side3 => exact Kd.C_below HR464_4.out (zb2 HB GE465 GE466)); (case side4 => exact HC464_4.out); rintro e w' ⟨rfl, ⟨nd, rfl⟩⟩))
            go_meet
            case rel => exact ⟨_, (!t467), zr, H', ⟨by have := HK1.out; first | omega | exact Nat.le_refl _⟩, ⟨by (with_reducible repeat (first | refine blk_drewN ?_ _ | refine blk_drew ?_ | refine blk_alloc ?_ _)); refine blk_far ?_ NB465_466.out _; refine blk_far ?_ NB465_466.out _; refine blk_far ?_ NB465_466.out _; refine blk_far ?_ NB465_466.out _; refine blk_far ?_ NB465_466.out _; refine blk_put (cs := #[.int .i64 ((rd_T38 l0 x5_1).f0), .int .i64 ((rd_T38 l0 x5_1).f1), .string ((rd_T38 l0 x5_1).f2), .string ((rd_T38 l0 x5_1).f3), .slice none 0 0]) ?_ 4 _ rfl; refine blk_put (cs := #[.int .i64 ((rd_T38 l0 x5_1).f0), .int .i64 ((rd_T38 l0 x5_1).f1), .string ((rd_T38 l0 x5_1).f2), .string (⟨#[]⟩ : ByteArray), .slice none 0 0]) ?_ 3 _ rfl; refine blk_put (cs := #[.int .i64 ((rd_T38 l0 x5_1).f0), .int .i64 ((rd_T38 l0 x5_1).f1), .string (⟨#[]⟩ : ByteArray), .string (⟨#[]⟩ : ByteArray), .slice none 0 0]) ?_ 2 _ rfl; refine blk_put (cs := #[.int .i64 ((rd_T38 l0 x5_1).f0), .int .i64 0, .string (⟨#[]⟩ : ByteArray), .string (⟨#[]⟩ : ByteArray), .slice none 0 0]) ?_ 1 _ rfl; refine blk_put (cs := #[.int .i64 0, .int .i64 0, .string (⟨#[]⟩ : ByteArray), .string (⟨#[]⟩ : ByteArray), .slice none 0 0]) ?_ 0 _ rfl; (with_reducible repeat (first | refine blk_drewN ?_ _ | refine blk_drew ?_ | refine blk_alloc ?_ _)); exact BK465.out⟩, ⟨by (with_reducible repeat (first | refine blk_drewN ?_ _ | refine blk_drew ?_ | refine blk_alloc ?_ _)); refine blk_put (cs := #[.int .i64 ((rd_T38 l1 x5_1).f0), .int .i64 ((rd_T38 l1 x5_1).f1), .string ((rd_T38 l1 x5_1).f2), .string ((rd_T38 l1 x5_1).f3), .slice none 0 0]) ?_ 4 _ rfl; refine blk_put (cs := #[.int .i64 ((rd_T38 l1 x5_1).f0), .int .i64 ((rd_T38 l1 x5_1).f1), .string ((rd_T38 l1 x5_1).f2), .string (⟨#[]⟩ : ByteArray), .slice none 0 0]) ?_ 3 _ rfl; refine blk_put (cs := #[.int .i64 ((rd_T38 l1 x5_1).f0), .int .i64 ((rd_T38 l1 x5_1).f1), .string (⟨#[]⟩ : ByteArray), .string (⟨#[]⟩ : ByteArray), .slice none 0 0]) ?_ 2 _ rfl; refine blk_put (cs := #[.int .i64 ((rd_T38 l1 x5_1).f0), .int .i64 0, .string (⟨#[]⟩ : ByteArray), .string (⟨#[]⟩ : ByteArray), .slice none 0 0]) ?_ 1 _ rfl; refine blk_put (cs := #[.int .i64 0, .int .i64 0, .string (⟨#[]⟩ : ByteArray), .string (⟨#[]⟩ : ByteArray), .slice none 0 0]) ?_ 0 _ rfl; refine blk_far ?_ NB466_465.out _; refine blk_far ?_ NB466_465.out _; refine blk_far ?_ NB466_465.out _; refine blk_far ?_ NB466_465.out _; refine blk_far ?_ NB466_465.out _; (with_reducible repeat (first | refine blk_drewN ?_ _ | refine blk_drew ?_ | refine blk_alloc ?_ _)); exact BK466.out⟩, ⟨zb2 HB GE465 GE466⟩⟩
           ·rw [if_neg c25] at H
            have c25b0 : (((rd_T38 l0 x5_1).f3).toList == ((rd_T38 l1 x5_1).f3).toList) = false := beq_eq_false_iff_ne.mpr c25
            have c25b1 : (((rd_T38 l0 x5_1).f3).toList != ((rd_T38 l1 x5_1).f3).toList) = true := bne_iff_ne.mpr c25
            have H' := am H
            clear H
            have hnb30 := NB465_466.out
            have hnc30 := NB466_465.out
            obtain ⟨hcz31_0, hcz31_1, hcz31_2, hcz31_3, hcz31_4, hfz31_0, hfz31_1, hfz31_2, hfz31_3, hfz31_4⟩ := cz5 BK465.out
            obtain ⟨hcz32_0, hcz32_1, hcz32_2, hcz32_3, hcz32_4, hfz32_0, hfz32_1, hfz32_2, hfz32_3, hfz32_4⟩ := cz5 BK466.out
            go_wp2
            go_meet
            case rel => exact ⟨_, (true), zr, H', ⟨by have := HK1.out; first | omega | exact Nat.le_refl _⟩, ⟨by (with_reducible repeat (first | refine blk_drewN ?_ _ | refine blk_drew ?_ | refine blk_alloc ?_ _)); refine blk_far ?_ NB465_466.out _; refine blk_far ?_ NB465_466.out _; refine blk_far ?_ NB465_466.out _; refine blk_far ?_ NB465_466.out _; refine blk_far ?_ NB465_466.out _; refine blk_put (cs := #[.int .i64 ((rd_T38 l0 x5_1).f0), .int .i64 ((rd_T38 l0 x5_1).f1), .string ((rd_T38 l0 x5_1).f2), .string ((rd_T38 l0 x5_1).f3), .slice none 0 0]) ?_ 4 _ rfl; refine blk_put (cs := #[.int .i64 ((rd_T38 l0 x5_1).f0), .int .i64 ((rd_T38 l0 x5_1).f1), .string ((rd_T38 l0 x5_1).f2), .string (⟨#[]⟩ : ByteArray), .slice none 0 0]) ?_ 3 _ rfl; refine blk_put (cs := #[.int .i64 ((rd_T38 l0 x5_1).f0), .int .i64 ((rd_T38 l0 x5_1).f1), .string (⟨#[]⟩ : ByteArray), .string (⟨#[]⟩ : ByteArray), .slice none 0 0]) ?_ 2 _ rfl; refine blk_put (cs := #[.int .i64 ((rd_T38 l0 x5_1).f0), .int .i64 0, .string (⟨#[]⟩ : ByteArray), .string (⟨#[]⟩ : ByteArray), .slice none 0 0]) ?_ 1 _ rfl; refine blk_put (cs := #[.int .i64 0, .int .i64 0, .string (⟨#[]⟩ : ByteArray), .string (⟨#[]⟩ : ByteArray), .slice none 0 0]) ?_ 0 _ rfl; (with_reducible repeat (first | refine blk_drewN ?_ _ | refine blk_drew ?_ | refine blk_alloc ?_ _)); exact BK465.out⟩, ⟨by (with_reducible repeat (first | refine blk_drewN ?_ _ | refine blk_drew ?_ | refine blk_alloc ?_ _)); refine blk_put (cs := #[.int .i64 ((rd_T38 l1 x5_1).f0), .int .i64 ((rd_T38 l1 x5_1).f1), .string ((rd_T38 l1 x5_1).f2), .string ((rd_T38 l1 x5_1).f3), .slice none 0 0]) ?_ 4 _ rfl; refine blk_put (cs := #[.int .i64 ((rd_T38 l1 x5_1).f0), .int .i64 ((rd_T38 l1 x5_1).f1), .string ((rd_T38 l1 x5_1).f2), .string (⟨#[]⟩ : ByteArray), .slice none 0 0]) ?_ 3 _ rfl; refine blk_put (cs := #[.int .i64 ((rd_T38 l1 x5_1).f0), .int .i64 ((rd_T38 l1 x5_1).f1), .string (⟨#[]⟩ : ByteArray), .string (⟨#[]⟩ : ByteArray), .slice none 0 0]) ?_ 2 _ rfl; refine blk_put (cs := #[.int .i64 ((rd_T38 l1 x5_1).f0), .int .i64 0, .string (⟨#[]⟩ : ByteArray), .string (⟨#[]⟩ : ByteArray), .slice none 0 0]) ?_ 1 _ rfl; refine blk_put (cs := #[.int .i64 0, .int .i64 0, .string (⟨#[]⟩ : ByteArray), .string (⟨#[]⟩ : ByteArray), .slice none 0 0]) ?_ 0 _ rfl; refine blk_far ?_ NB466_465.out _; refine blk_far ?_ NB466_465.out _; refine blk_far ?_ NB466_465.out _; refine blk_far ?_ NB466_465.out _; refine blk_far ?_ NB466_465.out _; (with_reducible repeat (first | refine blk_drewN ?_ _ | refine blk_drew ?_ | refine blk_alloc ?_ _)); exact BK466.out⟩, ⟨zb2 HB GE465 GE466⟩⟩
          ·rw [if_neg c24] at H
           have c24b0 : (((rd_T38 l0 x5_1).f2).toList == ((rd_T38 l1 x5_1).f2).toList) = false := beq_eq_false_iff_ne.mpr c24
           have c24b1 : (((rd_T38 l0 x5_1).f2).toList != ((rd_T38 l1 x5_1).f2).toList) = true := bne_iff_ne.mpr c24
           have H' := am H
           clear H
           have hnb33 := NB465_466.out
           have hnc33 := NB466_465.out
           obtain ⟨hcz34_0, hcz34_1, hcz34_2, hcz34_3, hcz34_4, hfz34_0, hfz34_1, hfz34_2, hfz34_3, hfz34_4⟩ := cz5 BK465.out
           obtain ⟨hcz35_0, hcz35_1, hcz35_2, hcz35_3, hcz35_4, hfz35_0, hfz35_1, hfz35_2, hfz35_3, hfz35_4⟩ := cz5 BK466.out
           go_wp2
           go_meet
           case rel => exact ⟨_, (true), zr, H', ⟨by have := HK1.out; first | omega | exact Nat.le_refl _⟩, ⟨by (with_reducible repeat (first | refine blk_drewN ?_ _ | refine blk_drew ?_ | refine blk_alloc ?_ _)); refine blk_far ?_ NB465_466.out _; refine blk_far ?_ NB465_466.out _; refine blk_far ?_ NB465_466.out _; refine blk_far ?_ NB465_466.out _; refine blk_far ?_ NB465_466.out _; refine blk_put (cs := #[.int .i64 ((rd_T38 l0 x5_1).f0), .int .i64 ((rd_T38 l0 x5_1).f1), .string ((rd_T38 l0 x5_1).f2), .string ((rd_T38 l0 x5_1).f3), .slice none 0 0]) ?_ 4 _ rfl; refine blk_put (cs := #[.int .i64 ((rd_T38 l0 x5_1).f0), .int .i64 ((rd_T38 l0 x5_1).f1), .string ((rd_T38 l0 x5_1).f2), .string (⟨#[]⟩ : ByteArray), .slice none 0 0]) ?_ 3 _ rfl; refine blk_put (cs := #[.int .i64 ((rd_T38 l0 x5_1).f0), .int .i64 ((rd_T38 l0 x5_1).f1), .string (⟨#[]⟩ : ByteArray), .string (⟨#[]⟩ : ByteArray), .slice none 0 0]) ?_ 2 _ rfl; refine blk_put (cs := #[.int .i64 ((rd_T38 l0 x5_1).f0), .int .i64 0, .string (⟨#[]⟩ : ByteArray), .string (⟨#[]⟩ : ByteArray), .slice none 0 0]) ?_ 1 _ rfl; refine blk_put (cs := #[.int .i64 0, .int .i64 0, .string (⟨#[]⟩ : ByteArray), .string (⟨#[]⟩ : ByteArray), .slice none 0 0]) ?_ 0 _ rfl; (with_reducible repeat (first | refine blk_drewN ?_ _ | refine blk_drew ?_ | refine blk_alloc ?_ _)); exact BK465.out⟩, ⟨by (with_reducible repeat (first | refine blk_drewN ?_ _ | refine blk_drew ?_ | refine blk_alloc ?_ _)); refine blk_put (cs := #[.int .i64 ((rd_T38 l1 x5_1).f0), .int .i64 ((rd_T38 l1 x5_1).f1), .string ((rd_T38 l1 x5_1).f2), .string ((rd_T38 l1 x5_1).f3), .slice none 0 0]) ?_ 4 _ rfl; refine blk_put (cs := #[.int .i64 ((rd_T38 l1 x5_1).f0), .int .i64 ((rd_T38 l1 x5_1).f1), .string ((rd_T38 l1 x5_1).f2), .string (⟨#[]⟩ : ByteArray), .slice none 0 0]) ?_ 3 _ rfl; refine blk_put (cs := #[.int .i64 ((rd_T38 l1 x5_1).f0), .int .i64 ((rd_T38 l1 x5_1).f1), .string (⟨#[]⟩ : ByteArray), .string (⟨#[]⟩ : ByteArray), .slice none 0 0]) ?_ 2 _ rfl; refine blk_put (cs := #[.int .i64 ((rd_T38 l1 x5_1).f0), .int .i64 0, .string (⟨#[]⟩ : ByteArray), .string (⟨#[]⟩ : ByteArray), .slice none 0 0]) ?_ 1 _ rfl; refine blk_put (cs := #[.int .i64 0, .int .i64 0, .string (⟨#[]⟩ : ByteArray), .string (⟨#[]⟩ : ByteArray), .slice none 0 0]) ?_ 0 _ rfl; refine blk_far ?_ NB466_465.out _; refine blk_far ?_ NB466_465.out _; refine blk_far ?_ NB466_465.out _; refine blk_far ?_ NB466_465.out _; refine blk_far ?_ NB466_465.out _; (with_reducible repeat (first | refine blk_drewN ?_ _ | refine blk_drew ?_ | refine blk_alloc ?_ _)); exact BK466.out⟩, ⟨zb2 HB GE465 GE466⟩⟩
         ·rw [if_neg c23] at H
          have c23b0 : (((rd_T38 l0 x5_1).f1) == ((rd_T38 l1 x5_1).f1)) = false := beq_eq_false_iff_ne.mpr c23
          have c23b1 : (((rd_T38 l0 x5_1).f1) != ((rd_T38 l1 x5_1).f1)) = true := bne_iff_ne.mpr c23
          have H' := am H
          clear H
          have hnb36 := NB465_466.out
          have hnc36 := NB466_465.out
          obtain ⟨hcz37_0, hcz37_1, hcz37_2, hcz37_3, hcz37_4, hfz37_0, hfz37_1, hfz37_2, hfz37_3, hfz37_4⟩ := cz5 BK465.out
          obtain ⟨hcz38_0, hcz38_1, hcz38_2, hcz38_3, hcz38_4, hfz38_0, hfz38_1, hfz38_2, hfz38_3, hfz38_4⟩ := cz5 BK466.out
          go_wp2
          go_meet
          case rel => exact ⟨_, (true), zr, H', ⟨by have := HK1.out; first | omega | exact Nat.le_refl _⟩, ⟨by (with_reducible repeat (first | refine blk_drewN ?_ _ | refine blk_drew ?_ | refine blk_alloc ?_ _)); refine blk_far ?_ NB465_466.out _; refine blk_far ?_ NB465_466.out _; refine blk_far ?_ NB465_466.out _; refine blk_far ?_ NB465_466.out _; refine blk_far ?_ NB465_466.out _; refine blk_put (cs := #[.int .i64 ((rd_T38 l0 x5_1).f0), .int .i64 ((rd_T38 l0 x5_1).f1), .string ((rd_T38 l0 x5_1).f2), .string ((rd_T38 l0 x5_1).f3), .slice none 0 0]) ?_ 4 _ rfl; refine blk_put (cs := #[.int .i64 ((rd_T38 l0 x5_1).f0), .int .i64 ((rd_T38 l0 x5_1).f1), .string ((rd_T38 l0 x5_1).f2), .string (⟨#[]⟩ : ByteArray), .slice none 0 0]) ?_ 3 _ rfl; refine blk_put (cs := #[.int .i64 ((rd_T38 l0 x5_1).f0), .int .i64 ((rd_T38 l0 x5_1).f1), .string (⟨#[]⟩ : ByteArray), .string (⟨#[]⟩ : ByteArray), .slice none 0 0]) ?_ 2 _ rfl; refine blk_put (cs := #[.int .i64 ((rd_T38 l0 x5_1).f0), .int .i64 0, .string (⟨#[]⟩ : ByteArray), .string (⟨#[]⟩ : ByteArray), .slice none 0 0]) ?_ 1 _ rfl; refine blk_put (cs := #[.int .i64 0, .int .i64 0, .string (⟨#[]⟩ : ByteArray), .string (⟨#[]⟩ : ByteArray), .slice none 0 0]) ?_ 0 _ rfl; (with_reducible repeat (first | refine blk_drewN ?_ _ | refine blk_drew ?_ | refine blk_alloc ?_ _)); exact BK465.out⟩, ⟨by (with_reducible repeat (first | refine blk_drewN ?_ _ | refine blk_drew ?_ | refine blk_alloc ?_ _)); refine blk_put (cs := #[.int .i64 ((rd_T38 l1 x5_1).f0), .int .i64 ((rd_T38 l1 x5_1).f1), .string ((rd_T38 l1 x5_1).f2), .string ((rd_T38 l1 x5_1).f3), .slice none 0 0]) ?_ 4 _ rfl; refine blk_put (cs := #[.int .i64 ((rd_T38 l1 x5_1).f0), .int .i64 ((rd_T38 l1 x5_1).f1), .string ((rd_T38 l1 x5_1).f2), .string (⟨#[]⟩ : ByteArray), .slice none 0 0]) ?_ 3 _ rfl; refine blk_put (cs := #[.int .i64 ((rd_T38 l1 x5_1).f0), .int .i64 ((rd_T38 l1 x5_1).f1), .string (⟨#[]⟩ : ByteArray), .string (⟨#[]⟩ : ByteArray), .slice none 0 0]) ?_ 2 _ rfl; refine blk_put (cs := #[.int .i64 ((rd_T38 l1 x5_1).f0), .int .i64 0, .string (⟨#[]⟩ : ByteArray), .string (⟨#[]⟩ : ByteArray), .slice none 0 0]) ?_ 1 _ rfl; refine blk_put (cs := #[.int .i64 0, .int .i64 0, .string (⟨#[]⟩ : ByteArray), .string (⟨#[]⟩ : ByteArray), .slice none 0 0]) ?_ 0 _ rfl; refine blk_far ?_ NB466_465.out _; refine blk_far ?_ NB466_465.out _; refine blk_far ?_ NB466_465.out _; refine blk_far ?_ NB466_465.out _; refine blk_far ?_ NB466_465.out _; (with_reducible repeat (first | refine blk_drewN ?_ _ | refine blk_drew ?_ | refine blk_alloc ?_ _)); exact BK466.out⟩, ⟨zb2 HB GE465 GE466⟩⟩
        ·rw [if_neg c22] at H
         have c22b0 : (((rd_T38 l0 x5_1).f0) == ((rd_T38 l1 x5_1).f0)) = false := beq_eq_false_iff_ne.mpr c22
         have c22b1 : (((rd_T38 l0 x5_1).f0) != ((rd_T38 l1 x5_1).f0)) = true := bne_iff_ne.mpr c22
         (first | rw [c22b0] | (simp only [i64_w, i32_w]; rw [c22b0]) | skip)
         have H' := am H
         clear H
         have hnb39 := NB465_466.out
         have hnc39 := NB466_465.out
         obtain ⟨hcz40_0, hcz40_1, hcz40_2, hcz40_3, hcz40_4, hfz40_0, hfz40_1, hfz40_2, hfz40_3, hfz40_4⟩ := cz5 BK465.out
         obtain ⟨hcz41_0, hcz41_1, hcz41_2, hcz41_3, hcz41_4, hfz41_0, hfz41_1, hfz41_2, hfz41_3, hfz41_4⟩ := cz5 BK466.out
         go_wp2
         go_meet
         case rel => exact ⟨_, (true), zr, H', ⟨by have := HK1.out; first | omega | exact Nat.le_refl _⟩, ⟨by (with_reducible repeat (first | refine blk_drewN ?_ _ | refine blk_drew ?_ | refine blk_alloc ?_ _)); refine blk_far ?_ NB465_466.out _; refine blk_far ?_ NB465_466.out _; refine blk_far ?_ NB465_466.out _; refine blk_far ?_ NB465_466.out _; refine blk_far ?_ NB465_466.out _; refine blk_put (cs := #[.int .i64 ((rd_T38 l0 x5_1).f0), .int .i64 ((rd_T38 l0 x5_1).f1), .string ((rd_T38 l0 x5_1).f2), .string ((rd_T38 l0 x5_1).f3), .slice none 0 0]) ?_ 4 _ rfl; refine blk_put (cs := #[.int .i64 ((rd_T38 l0 x5_1).f0), .int .i64 ((rd_T38 l0 x5_1).f1), .string ((rd_T38 l0 x5_1).f2), .string (⟨#[]⟩ : ByteArray), .slice none 0 0]) ?_ 3 _ rfl; refine blk_put (cs := #[.int .i64 ((rd_T38 l0 x5_1).f0), .int .i64 ((rd_T38 l0 x5_1).f1), .string (⟨#[]⟩ : ByteArray), .string (⟨#[]⟩ : ByteArray), .slice none 0 0]) ?_ 2 _ rfl; refine blk_put (cs := #[.int .i64 ((rd_T38 l0 x5_1).f0), .int .i64 0, .string (⟨#[]⟩ : ByteArray), .string (⟨#[]⟩ : ByteArray), .slice none 0 0]) ?_ 1 _ rfl; refine blk_put (cs := #[.int .i64 0, .int .i64 0, .string (⟨#[]⟩ : ByteArray), .string (⟨#[]⟩ : ByteArray), .slice none 0 0]) ?_ 0 _ rfl; (with_reducible repeat (first | refine blk_drewN ?_ _ | refine blk_drew ?_ | refine blk_alloc ?_ _)); exact BK465.out⟩, ⟨by (with_reducible repeat (first | refine blk_drewN ?_ _ | refine blk_drew ?_ | refine blk_alloc ?_ _)); refine blk_put (cs := #[.int .i64 ((rd_T38 l1 x5_1).f0), .int .i64 ((rd_T38 l1 x5_1).f1), .string ((rd_T38 l1 x5_1).f2), .string ((rd_T38 l1 x5_1).f3), .slice none 0 0]) ?_ 4 _ rfl; refine blk_put (cs := #[.int .i64 ((rd_T38 l1 x5_1).f0), .int .i64 ((rd_T38 l1 x5_1).f1), .string ((rd_T38 l1 x5_1).f2), .string (⟨#[]⟩ : ByteArray), .slice none 0 0]) ?_ 3 _ rfl; refine blk_put (cs := #[.int .i64 ((rd_T38 l1 x5_1).f0), .int .i64 ((rd_T38 l1 x5_1).f1), .string (⟨#[]⟩ : ByteArray), .string (⟨#[]⟩ : ByteArray), .slice none 0 0]) ?_ 2 _ rfl; refine blk_put (cs := #[.int .i64 ((rd_T38 l1 x5_1).f0), .int .i64 0, .string (⟨#[]⟩ : ByteArray), .string (⟨#[]⟩ : ByteArray), .slice none 0 0]) ?_ 1 _ rfl; refine blk_put (cs := #[.int .i64 0, .int .i64 0, .string (⟨#[]⟩ : ByteArray), .string (⟨#[]⟩ : ByteArray), .slice none 0 0]) ?_ 0 _ rfl; refine blk_far ?_ NB466_465.out _; refine blk_far ?_ NB466_465.out _; refine blk_far ?_ NB466_465.out _; refine blk_far ?_ NB466_465.out _; refine blk_far ?_ NB466_465.out _; (with_reducible repeat (first | refine blk_drewN ?_ _ | refine blk_drew ?_ | refine blk_alloc ?_ _)); exact BK466.out⟩, ⟨zb2 HB GE465 GE466⟩⟩
       case rest =>
        clear HC7
        try clear c1
        try clear c2
        try clear p2
        try clear c3
        try clear c3b0
        try clear c3b1
        try clear c3b2
        try clear c4
        try clear c4b0
        try clear p4
        try clear q4
        try clear hx4
        try clear c5
        try clear c5b0
        try clear c6
        try clear c6b0
        try clear c16
        try clear c22
        try clear c22b0
        try clear c22b1
        try clear c23
        try clear c23b0
        try clear c23b1
        try clear c24
        try clear c24b0
        try clear c24b1
        try clear c25
        try clear c25b0
        try clear c25b1
        try clear c27
        try clear c30
        try clear c33
        try clear c36
        try clear c39
        try clear hcz28_0
        try clear hcz28_1
        try clear hcz28_2
        try clear hcz28_3
        try clear hcz28_4
        try clear hcz29_0
        try clear hcz29_1
        try clear hcz29_2
        try clear hcz29_3
        try clear hcz29_4
        try clear hcz31_0
        try clear hcz31_1
        try clear hcz31_2
        try clear hcz31_3
        try clear hcz31_4
        try clear hcz32_0
        try clear hcz32_1
        try clear hcz32_2
        try clear hcz32_3
        try clear hcz32_4
        try clear hcz34_0
        try clear hcz34_1
        try clear hcz34_2
        try clear hcz34_3
        try clear hcz34_4
        try clear hcz35_0
        try clear hcz35_1
        try clear hcz35_2
        try clear hcz35_3
        try clear hcz35_4
        try clear hcz37_0
        try clear hcz37_1
        try clear hcz37_2
        try clear hcz37_3
        try clear hcz37_4
        try clear hcz38_0
        try clear hcz38_1
        try clear hcz38_2
        try clear hcz38_3
        try clear hcz38_4
        try clear hcz40_0
        try clear hcz40_1
        try clear hcz40_2
        try clear hcz40_3
        try clear hcz40_4
        try clear hcz41_0
        try clear hcz41_1
        try clear hcz41_2
        try clear hcz41_3
        try clear hcz41_4
        try clear hfz28_0
        try clear hfz28_1
        try clear hfz28_2
        try clear hfz28_3
        try clear hfz28_4
        try clear hfz29_0
        try clear hfz29_1
        try clear hfz29_2
        try clear hfz29_3
        try clear hfz29_4
        try clear hfz31_0
        try clear hfz31_1
        try clear hfz31_2
        try clear hfz31_3
        try clear hfz31_4
        try clear hfz32_0
        try clear hfz32_1
        try clear hfz32_2
        try clear hfz32_3
        try clear hfz32_4
        try clear hfz34_0
        try clear hfz34_1
        try clear hfz34_2
        try clear hfz34_3
        try clear hfz34_4
        try clear hfz35_0
        try clear hfz35_1
        try clear hfz35_2
        try clear hfz35_3
        try clear hfz35_4
        try clear hfz37_0
        try clear hfz37_1
        try clear hfz37_2
        try clear hfz37_3
        try clear hfz37_4
        try clear hfz38_0
        try clear hfz38_1
        try clear hfz38_2
        try clear hfz38_3
        try clear hfz38_4
        try clear hfz40_0
        try clear hfz40_1
        try clear hfz40_2
        try clear hfz40_3
        try clear hfz40_4
        try clear hfz41_0
        try clear hfz41_1
        try clear hfz41_2
        try clear hfz41_3
        try clear hfz41_4
        try clear hx463_0
        try clear hx463_1
        try clear hx463_2
        try clear hx463_3
        try clear hx463_4
        try clear hx464_0
        try clear hx464_1
        try clear hx464_2
        try clear hx464_3
        try clear hx464_4
        try clear p2
        try clear p463
        try clear p464
        try clear q463
        try clear q464
        obtain ⟨kq, x60_6, rfl, HA, HJ6, BK465, BK466, HB⟩ := hcut
        cases kq with
        | zero => exact absurd HA.out (by simp [boltingref04_Same.j1])
        | succ kj6 =>
         have H := HA.out
         clear HA
         simp only [boltingref04_Same.j1] at H
         by_cases c42 : x60_6 = true
         ·subst c42
          replace H : (some false) = some r := by rw [if_pos rfl] at H; exact H
          obtain rfl := Option.some.inj H
          go_wp2
          go_ret
          exact ⟨ze, zb2 HB GE465 GE466⟩
         ·replace c42 := Bool.eq_false_iff.mpr c42
          subst c42
          replace H : (boltingref04_Same.l0 kj6 l0 l1 (wrap64 (x5_1 + 1))) = some r := by rw [if_neg (show ¬ (false = true) by decide)] at H; exact H
          have H' := am H
          clear H
          go_wp2
          go_roundg kj6
          case measure => have := HK1.out; have := HJ6.out; omega
          case rel => exact ⟨(wrap64 (x5_1 + 1)), zr, H', ⟨by have := HK1.out; have := HJ6.out; omega⟩, ⟨zb2 HB GE465 GE466⟩⟩
      ·rw [if_neg c6] at H
       exact absurd H (by simp)
     ·rw [if_neg c5] at H
      exact absurd H (by simp)
    ·rw [if_neg c4] at H
     have c4b0 : decide (x5_1 < (l0.length : Int)) = false := decide_eq_false c4
     clear c4
     obtain rfl := Option.some.inj H
     go_wp2
     go_ret
     exact ⟨ze, zb HB⟩
 ·rw [if_neg c3] at H
  have c3b0 : ((l0.length : Int) == (l1.length : Int)) = false := beq_eq_false_iff_ne.mpr c3
  have c3b1 : ((l0.length : Int) != (l1.length : Int)) = true := bne_iff_ne.mpr c3
  have c3b2 : (l0.length == l1.length) = false := by first | simpa using c3 | (simp at c3 ⊢; omega)
  obtain rfl := Option.some.inj H
  go_enter Tryz.func16, Tryz.ntmps16
  go_wp2
  go_ret
  exact ⟨ze, zb HB⟩


def boltinglaw13_treeP.f  : Option ((List (S38))) := some (([(⟨0, 0, (⟨#[98]⟩ : ByteArray), (⟨#[]⟩ : ByteArray), (([(⟨(⟨#[111, 110, 99, 108, 105, 99, 107]⟩ : ByteArray), (⟨#[120]⟩ : ByteArray)⟩ : S45), (⟨(⟨#[105, 100]⟩ : ByteArray), (⟨#[]⟩ : ByteArray)⟩ : S45)] : List (S45)))⟩ : S38), (⟨1, 1, (⟨#[]⟩ : ByteArray), (⟨#[97]⟩ : ByteArray), ([] : List (S45))⟩ : S38), (⟨1, 0, (⟨#[115, 99, 114, 105, 112, 116]⟩ : ByteArray), (⟨#[]⟩ : ByteArray), ([] : List (S45))⟩ : S38), (⟨2, 1, (⟨#[]⟩ : ByteArray), (⟨#[121]⟩ : ByteArray), ([] : List (S45))⟩ : S38)] : List (S38)))
set_option maxHeartbeats 8000000 in
set_option maxRecDepth 100000 in
theorem boltinglaw13_treeP.calls  (r : List (S38)) (w : World) (h : boltinglaw13_treeP.f  = some r) :
  Calls Tryz.prog 31 #[] w fun e w' => ∃ v0_ : Value, e = .returned (v0_) ∧ Kd.N k38 38 w' w.heap.size (fun k_ => (w.heap.size ≤ k_)) v0_ r ∧ Below w.heap.size w w' := by
 have hu45 := Tryz.underlying45
 have hu38 := Tryz.underlying38
 have HB := am (Below.refl w.heap.size w)
 have H : (some (([(⟨0, 0, (⟨#[98]⟩ : ByteArray), (⟨#[]⟩ : ByteArray), (([(⟨(⟨#[111, 110, 99, 108, 105, 99, 107]⟩ : ByteArray), (⟨#[120]⟩ : ByteArray)⟩ : S45), (⟨(⟨#[105, 100]⟩ : ByteArray), (⟨#[]⟩ : ByteArray)⟩ : S45)] : List (S45)))⟩ : S38), (⟨1, 1, (⟨#[]⟩ : ByteArray), (⟨#[97]⟩ : ByteArray), ([] : List (S45))⟩ : S38), (⟨1, 0, (⟨#[115, 99, 114, 105, 112, 116]⟩ : ByteArray), (⟨#[]⟩ : ByteArray), ([] : List (S45))⟩ : S38), (⟨2, 1, (⟨#[]⟩ : ByteArray), (⟨#[121]⟩ : ByteArray), ([] : List (S45))⟩ : S38)] : List (S38)))) = some r := h
 clear h
 obtain ⟨y396, hy396⟩ : ∃ y_ : List (S45), y_ = (([(⟨(⟨#[111, 110, 99, 108, 105, 99, 107]⟩ : ByteArray), (⟨#[120]⟩ : ByteArray)⟩ : S45), (⟨(⟨#[105, 100]⟩ : ByteArray), (⟨#[]⟩ : ByteArray)⟩ : S45)] : List (S45))) := ⟨_, rfl⟩
 replace H : (some (([(⟨0, 0, (⟨#[98]⟩ : ByteArray), (⟨#[]⟩ : ByteArray), y396⟩ : S38), (⟨1, 1, (⟨#[]⟩ : ByteArray), (⟨#[97]⟩ : ByteArray), ([] : List (S45))⟩ : S38), (⟨1, 0, (⟨#[115, 99, 114, 105, 112, 116]⟩ : ByteArray), (⟨#[]⟩ : ByteArray), ([] : List (S45))⟩ : S38), (⟨2, 1, (⟨#[]⟩ : ByteArray), (⟨#[121]⟩ : ByteArray), ([] : List (S45))⟩ : S38)] : List (S38)))) = some r := by first | (rw [hy396]; with_reducible exact H) | (have H2_ := (Option.bind_some _ _).symm.trans H; rw [hy396]; with_reducible exact H2_) | (have H2_ := (Option.bind_some _ _).symm.trans H; with_reducible exact H2_) | with_reducible exact H | (rw [hy396]; exact H) | exact H
 have Ny396 := am hy396
 clear hy396
 obtain ⟨y399, hy399⟩ : ∃ y_ : List (S38), y_ = (([(⟨0, 0, (⟨#[98]⟩ : ByteArray), (⟨#[]⟩ : ByteArray), y396⟩ : S38), (⟨1, 1, (⟨#[]⟩ : ByteArray), (⟨#[97]⟩ : ByteArray), ([] : List (S45))⟩ : S38), (⟨1, 0, (⟨#[115, 99, 114, 105, 112, 116]⟩ : ByteArray), (⟨#[]⟩ : ByteArray), ([] : List (S45))⟩ : S38), (⟨2, 1, (⟨#[]⟩ : ByteArray), (⟨#[121]⟩ : ByteArray), ([] : List (S45))⟩ : S38)] : List (S38))) := ⟨_, rfl⟩
 replace H : (some y399) = some r := by first | (rw [hy399]; with_reducible exact H) | (have H2_ := (Option.bind_some _ _).symm.trans H; rw [hy399]; with_reducible exact H2_) | (have H2_ := (Option.bind_some _ _).symm.trans H; with_reducible exact H2_) | with_reducible exact H | (rw [hy399]; exact H) | exact H
 have Ny399 := am hy399
 clear hy399
 obtain rfl := Option.some.inj H
 go_enter Tryz.func31, Tryz.ntmps31
 go_wp2_with (first | ((with_reducible refine gate_dst (N := 3) rfl ?_); refine Kd.R_lit k45 _ 45 ?hg (N := 3) ?hd (xs := ([(⟨(⟨#[111, 110, 99, 108, 105, 99, 107]⟩ : ByteArray), (⟨#[120]⟩ : ByteArray)⟩ : S45), (⟨(⟨#[105, 100]⟩ : ByteArray), (⟨#[]⟩ : ByteArray)⟩ : S45)] : List (S45))) (inner := [.string (⟨#[111, 110, 99, 108, 105, 99, 107]⟩ : ByteArray), .string (⟨#[120]⟩ : ByteArray), .string (⟨#[105, 100]⟩ : ByteArray), .string (⟨#[]⟩ : ByteArray)]) (ok := fun _ => True) (okp := fun _ => True) ?hr ?hp (fun _ hk => hk) trivial (Below.refl _ _) (Nat.le_refl _) (by simp) ?_; (case hd => rfl); (case hg => rfl); (case hr => first | (go_simp; done) | (go_simp; rfl)); (case hp => exact (Reps.c2 (show Kd.M k45 _ _ _ (⟨(⟨#[111, 110, 99, 108, 105, 99, 107]⟩ : ByteArray), (⟨#[120]⟩ : ByteArray)⟩ : S45) [.string (⟨#[111, 110, 99, 108, 105, 99, 107]⟩ : ByteArray), .string (⟨#[120]⟩ : ByteArray)] from (k45_mkM _ _ _ (⟨(⟨#[111, 110, 99, 108, 105, 99, 107]⟩ : ByteArray), (⟨#[120]⟩ : ByteArray)⟩ : S45) )) (Reps.c2 (show Kd.M k45 _ _ _ (⟨(⟨#[105, 100]⟩ : ByteArray), (⟨#[]⟩ : ByteArray)⟩ : S45) [.string (⟨#[105, 100]⟩ : ByteArray), .string (⟨#[]⟩ : ByteArray)] from (k45_mkM _ _ _ (⟨(⟨#[105, 100]⟩ : ByteArray), (⟨#[]⟩ : ByteArray)⟩ : S45) )) (Reps.none _ _)))); intro v397 w1 ho2 hb hg_ hnew_; clear hg_ hnew_; (first | rw [← Ny396.out] at ho2 | (simp only [Int.reduceToNat] at ho2; rw [← Ny396.out] at ho2)); have n0_ := am (Kd.R_lower (Kd.R_newM (M := fun k_ => (w.heap.size ≤ k_)) ho2 (below_size (zb HB)) (fun k_ h_ => h_)) (below_size (zb HB))); have n1_ := am (below_step (zb HB) hb); clear HB; have HO398 := n0_; have HB := n1_; clear n0_ n1_; clear hb ho2; obtain ⟨Ao3, co3, eo3⟩ := Kd.R_slice HO398.out; subst eo3) | ((with_reducible refine gate_dst (N := 8) rfl ?_); refine Kd.N_lit k38 _ 38 ?hg (N' := 8) ?hd (xs := ([(⟨0, 0, (⟨#[98]⟩ : ByteArray), (⟨#[]⟩ : ByteArray), y396⟩ : S38), (⟨1, 1, (⟨#[]⟩ : ByteArray), (⟨#[97]⟩ : ByteArray), ([] : List (S45))⟩ : S38), (⟨1, 0, (⟨#[115, 99, 114, 105, 112, 116]⟩ : ByteArray), (⟨#[]⟩ : ByteArray), ([] : List (S45))⟩ : S38), (⟨2, 1, (⟨#[]⟩ : ByteArray), (⟨#[121]⟩ : ByteArray), ([] : List (S45))⟩ : S38)] : List (S38))) (inner := [.int .i64 0, .int .i64 0, .string (⟨#[98]⟩ : ByteArray), .string (⟨#[]⟩ : ByteArray), .slice Ao3 y396.length co3, .int .i64 1, .int .i64 1, .string (⟨#[]⟩ : ByteArray), .string (⟨#[97]⟩ : ByteArray), .slice none 0 0, .int .i64 1, .int .i64 0, .string (⟨#[115, 99, 114, 105, 112, 116]⟩ : ByteArray), .string (⟨#[]⟩ : ByteArray), .slice none 0 0, .int .i64 2, .int .i64 1, .string (⟨#[]⟩ : ByteArray), .string (⟨#[121]⟩ : ByteArray), .slice none 0 0]) (ok := (fun k_ => (w.heap.size ≤ k_))) (okp := (fun k_ => (w.heap.size ≤ k_))) ?hr ?hp (fun _ hk => hk) ((show ∀ k_, w1.heap.size ≤ k_ → (fun k_ => (w.heap.size ≤ k_)) k_ from fun k_ hk => (Nat.le_trans (below_size (zb HB)) hk)) _ (Nat.le_refl _)) (Below.refl _ _) (Nat.le_refl _) (by simp) ?_; (case hd => rfl); (case hg => rfl); (case hr => first | (go_simp; done) | (go_simp; rfl)); (case hp => exact (Reps.c5 (show Kd.FK k38 _ _ (⟨0, 0, (⟨#[98]⟩ : ByteArray), (⟨#[]⟩ : ByteArray), y396⟩ : S38) [.int .i64 0, .int .i64 0, .string (⟨#[98]⟩ : ByteArray), .string (⟨#[]⟩ : ByteArray), .slice Ao3 y396.length co3] from (k38_mkF _ _ (⟨0, 0, (⟨#[98]⟩ : ByteArray), (⟨#[]⟩ : ByteArray), y396⟩ : S38) (Kd.R_reads' (Kd.R_mono (ok' := (fun k_ => (w.heap.size ≤ k_))) (HO398.out) (fun k_ hk => hk.1))).2.1 (Kd.R_F (Kd.R_mono (ok' := (fun k_ => (w.heap.size ≤ k_))) (HO398.out) (fun k_ hk => hk.1))))) (Reps.c5 (show Kd.FK k38 _ _ (⟨1, 1, (⟨#[]⟩ : ByteArray), (⟨#[97]⟩ : ByteArray), ([] : List (S45))⟩ : S38) [.int .i64 1, .int .i64 1, .string (⟨#[]⟩ : ByteArray), .string (⟨#[97]⟩ : ByteArray), .slice none 0 0] from (k38_mkF _ _ (⟨1, 1, (⟨#[]⟩ : ByteArray), (⟨#[97]⟩ : ByteArray), ([] : List (S45))⟩ : S38) (Nat.le_refl _) (Kd.F_nil _ _ _))) (Reps.c5 (show Kd.FK k38 _ _ (⟨1, 0, (⟨#[115, 99, 114, 105, 112, 116]⟩ : ByteArray), (⟨#[]⟩ : ByteArray), ([] : List (S45))⟩ : S38) [.int .i64 1, .int .i64 0, .string (⟨#[115, 99, 114, 105, 112, 116]⟩ : ByteArray), .string (⟨#[]⟩ : ByteArray), .slice none 0 0] from (k38_mkF _ _ (⟨1, 0, (⟨#[115, 99, 114, 105, 112, 116]⟩ : ByteArray), (⟨#[]⟩ : ByteArray), ([] : List (S45))⟩ : S38) (Nat.le_refl _) (Kd.F_nil _ _ _))) (Reps.c5 (show Kd.FK k38 _ _ (⟨2, 1, (⟨#[]⟩ : ByteArray), (⟨#[121]⟩ : ByteArray), ([] : List (S45))⟩ : S38) [.int .i64 2, .int .i64 1, .string (⟨#[]⟩ : ByteArray), .string (⟨#[121]⟩ : ByteArray), .slice none 0 0] from (k38_mkF _ _ (⟨2, 1, (⟨#[]⟩ : ByteArray), (⟨#[121]⟩ : ByteArray), ([] : List (S45))⟩ : S38) (Nat.le_refl _) (Kd.F_nil _ _ _))) (Reps.none _ _)))))); intro v400 w4 ho5 hb hg_ hnew_; clear hg_ hnew_; (first | rw [← Ny399.out] at ho5 | (simp only [Int.reduceToNat] at ho5; rw [← Ny399.out] at ho5)); have n0_ := am (Kd.N_lower ho5 (below_size (zb HB))); have n1_ := am (below_step (zb HB) hb); clear HB; clear HO398; have HO401 := n0_; have HB := n1_; clear n0_ n1_; clear hb ho5))
 go_ret
 exact ⟨_, ze, by exact HO401.out, zb HB⟩

def boltinglaw13_fixedP.f (k : Nat)  : Option (Bool) := (boltinglaw13_treeP.f).bind fun t402 => ((config_All.f).bind fun bt405 => ((clean_Rows.f k t402 bt405.1 bt405.2.1 bt405.2.2.1 bt405.2.2.2.1 bt405.2.2.2.2.1 bt405.2.2.2.2.2.1 bt405.2.2.2.2.2.2.1 bt405.2.2.2.2.2.2.2 true).bind fun bt421 => ((boltinglaw13_treeP.f).bind fun t425 => ((clean_Rows.f k t425 false false ([] : List ByteArray) (([(⟨#[98]⟩ : ByteArray)] : List ByteArray)) ([] : List ByteArray) ([] : List (S60)) false false true).bind fun bt431 => ((boltinglaw13_treeP.f).bind fun t435 => ((config_All.f).bind fun bt438 => ((clean_Rows.f k t435 bt438.1 bt438.2.1 bt438.2.2.1 bt438.2.2.2.1 bt438.2.2.2.2.1 bt438.2.2.2.2.2.1 bt438.2.2.2.2.2.2.1 bt438.2.2.2.2.2.2.2 false).bind fun bt454 => ((boltinglaw13_treeP.f).bind fun t458 => ((clean_Rows.f k t458 false false ([] : List ByteArray) ([] : List ByteArray) ([] : List ByteArray) ([] : List (S60)) false true true).bind fun bt461 => ((boltinglaw13_treeP.f).bind fun t465 => (if 1 ≤ (t465.length : Int) then ((config_All.f).bind fun bt473 => ((clean_Rows.f k (t465.drop 1) bt473.1 bt473.2.1 bt473.2.2.1 bt473.2.2.2.1 bt473.2.2.2.2.1 bt473.2.2.2.2.2.1 bt473.2.2.2.2.2.2.1 bt473.2.2.2.2.2.2.2 true).bind fun bt489 => ((boltingref04_Same.f k bt421.1 (([(⟨0, 0, (⟨#[98]⟩ : ByteArray), (⟨#[]⟩ : ByteArray), (([(⟨(⟨#[105, 100]⟩ : ByteArray), (⟨#[]⟩ : ByteArray)⟩ : S45)] : List (S45)))⟩ : S38), (⟨1, 1, (⟨#[]⟩ : ByteArray), (⟨#[97]⟩ : ByteArray), ([] : List (S45))⟩ : S38)] : List (S38)))).bind fun t499 => (if t499 = true then (if bt421.2 = 0 then ((boltingref04_Same.f k bt431.1 (([(⟨0, 1, (⟨#[]⟩ : ByteArray), (⟨#[97]⟩ : ByteArray), ([] : List (S45))⟩ : S38)] : List (S38)))).bind fun t503 => (if t503 = true then (if bt431.2 = 0 then ((boltinglaw13_treeP.f).bind fun t504 => ((boltingref04_Same.f k bt454.1 t504).bind fun t507 => (if t507 = true then (if bt454.2 = 0 then (if bt461.2 = 120 then (some (bt489.2 == 40)) else (some false)) else (some false)) else (some false)))) else (some false)) else (some false))) else (some false)) else (some false))))) else (none))))))))))))
theorem boltinglaw13_fixedP.mono : ∀ k, LeO (boltinglaw13_fixedP.f k ) (boltinglaw13_fixedP.f (k + 1) ) := by
 intro  k
 unfold boltinglaw13_fixedP.f
 repeat' first
   | (with_reducible exact boltingref04_Same.mono _ _ _)
   | (with_reducible exact clean_Rows.mono _ _ _ _ _ _ _ _ _ _ _)
   | (with_reducible exact LeO.refl _)
   | (with_reducible exact LeO.none _)
   | (with_reducible refine LeO.ite ?_ ?_)
   | (with_reducible refine LeO.bind ?_ (fun _ => ?_))
   | exact boltingref04_Same.mono _ _ _
   | exact clean_Rows.mono _ _ _ _ _ _ _ _ _ _ _
   | exact LeO.none _
   | refine LeO.ite ?_ ?_
   | refine LeO.bind ?_ (fun _ => ?_)
def boltinglaw13_fixedP.T5 : Bool × List (List Nat × List Nat) := (true, [([], []), ([0], [0]), ([0], []), ([1, 2, 2], [1, 2]), ([3], [3]), ([4], [4]), ([4], [4]), ([5, 3, 0, 1, 2, 3, 4, 5], [5]), ([6, 7, 0, 1, 2, 3, 4, 5, 6, 7], [6])])
def boltinglaw13_fixedP.B5 : List Nat := [0, 1, 1, 7, 15, 31, 31, 63, 255]
theorem boltinglaw13_fixedP.tab5 : rtab .any (opsOf Tryz.f12 5) = boltinglaw13_fixedP.T5 := by kernel_rfl
theorem boltinglaw13_fixedP.bits5 : waitsOk boltinglaw13_fixedP.T5.2 boltinglaw13_fixedP.B5 = true := by kernel_rfl
set_option maxHeartbeats 8000000 in
set_option maxRecDepth 100000 in
theorem boltinglaw13_fixedP.calls_true (k : Nat)  (r : Bool) (w : World) (h : boltinglaw13_fixedP.f k  = some r) (hT : Aside0 (r = true)) :
  Calls Tryz.prog 12 #[] w fun e w' => e = .returned (.bool r) ∧ Below w.heap.size w w' := by
 have hu32 := Tryz.underlying32
 have hu45 := Tryz.underlying45
 have hu38 := Tryz.underlying38
 have HB := am (Below.refl w.heap.size w)
 have H : ((boltinglaw13_treeP.f).bind fun t402 => ((config_All.f).bind fun bt405 => ((clean_Rows.f k t402 bt405.1 bt405.2.1 bt405.2.2.1 bt405.2.2.2.1 bt405.2.2.2.2.1 bt405.2.2.2.2.2.1 bt405.2.2.2.2.2.2.1 bt405.2.2.2.2.2.2.2 true).bind fun bt421 => ((boltinglaw13_treeP.f).bind fun t425 => ((clean_Rows.f k t425 false false ([] : List ByteArray) (([(⟨#[98]⟩ : ByteArray)] : List ByteArray)) ([] : List ByteArray) ([] : List (S60)) false false true).bind fun bt431 => ((boltinglaw13_treeP.f).bind fun t435 => ((config_All.f).bind fun bt438 => ((clean_Rows.f k t435 bt438.1 bt438.2.1 bt438.2.2.1 bt438.2.2.2.1 bt438.2.2.2.2.1 bt438.2.2.2.2.2.1 bt438.2.2.2.2.2.2.1 bt438.2.2.2.2.2.2.2 false).bind fun bt454 => ((boltinglaw13_treeP.f).bind fun t458 => ((clean_Rows.f k t458 false false ([] : List ByteArray) ([] : List ByteArray) ([] : List ByteArray) ([] : List (S60)) false true true).bind fun bt461 => ((boltinglaw13_treeP.f).bind fun t465 => (if 1 ≤ (t465.length : Int) then ((config_All.f).bind fun bt473 => ((clean_Rows.f k (t465.drop 1) bt473.1 bt473.2.1 bt473.2.2.1 bt473.2.2.2.1 bt473.2.2.2.2.1 bt473.2.2.2.2.2.1 bt473.2.2.2.2.2.2.1 bt473.2.2.2.2.2.2.2 true).bind fun bt489 => ((boltingref04_Same.f k bt421.1 (([(⟨0, 0, (⟨#[98]⟩ : ByteArray), (⟨#[]⟩ : ByteArray), (([(⟨(⟨#[105, 100]⟩ : ByteArray), (⟨#[]⟩ : ByteArray)⟩ : S45)] : List (S45)))⟩ : S38), (⟨1, 1, (⟨#[]⟩ : ByteArray), (⟨#[97]⟩ : ByteArray), ([] : List (S45))⟩ : S38)] : List (S38)))).bind fun t499 => (if t499 = true then (if bt421.2 = 0 then ((boltingref04_Same.f k bt431.1 (([(⟨0, 1, (⟨#[]⟩ : ByteArray), (⟨#[97]⟩ : ByteArray), ([] : List (S45))⟩ : S38)] : List (S38)))).bind fun t503 => (if t503 = true then (if bt431.2 = 0 then ((boltinglaw13_treeP.f).bind fun t504 => ((boltingref04_Same.f k bt454.1 t504).bind fun t507 => (if t507 = true then (if bt454.2 = 0 then (if bt461.2 = 120 then (some (bt489.2 == 40)) else (some false)) else (some false)) else (some false)))) else (some false)) else (some false))) else (some false)) else (some false))))) else (none))))))))))))) = some r := h
 clear h
 replace H := Option.bind_eq_some_iff.mp H
 obtain ⟨t402, A10, H⟩ := H
 have A1 := am A10
 clear A10
 replace H := Option.bind_eq_some_iff.mp H
 obtain ⟨⟨t405, t406, t407, t410, t413, t416, t419, t420⟩, A20, H⟩ := H
 try dsimp only at H
 have A2 := am A20
 clear A20
 replace H := Option.bind_eq_some_iff.mp H
 obtain ⟨⟨t421, t424⟩, A30, H⟩ := H
 try dsimp only at H
 have A3 := am A30
 clear A30
 replace H := Option.bind_eq_some_iff.mp H
 obtain ⟨t425, A40, H⟩ := H
 have A4 := am A40
 clear A40
 obtain ⟨y428, hy428⟩ : ∃ y_ : List ByteArray, y_ = (([(⟨#[98]⟩ : ByteArray)] : List ByteArray)) := ⟨_, rfl⟩
 replace H : ((clean_Rows.f k t425 false false ([] : List ByteArray) y428 ([] : List ByteArray) ([] : List (S60)) false false true).bind fun bt431 => ((boltinglaw13_treeP.f).bind fun t435 => ((config_All.f).bind fun bt438 => ((clean_Rows.f k t435 bt438.1 bt438.2.1 bt438.2.2.1 bt438.2.2.2.1 bt438.2.2.2.2.1 bt438.2.2.2.2.2.1 bt438.2.2.2.2.2.2.1 bt438.2.2.2.2.2.2.2 false).bind fun bt454 => ((boltinglaw13_treeP.f).bind fun t458 => ((clean_Rows.f k t458 false false ([] : List ByteArray) ([] : List ByteArray) ([] : List ByteArray) ([] : List (S60)) false true true).bind fun bt461 => ((boltinglaw13_treeP.f).bind fun t465 => (if 1 ≤ (t465.length : Int) then ((config_All.f).bind fun bt473 => ((clean_Rows.f k (t465.drop 1) bt473.1 bt473.2.1 bt473.2.2.1 bt473.2.2.2.1 bt473.2.2.2.2.1 bt473.2.2.2.2.2.1 bt473.2.2.2.2.2.2.1 bt473.2.2.2.2.2.2.2 true).bind fun bt489 => ((boltingref04_Same.f k t421 (([(⟨0, 0, (⟨#[98]⟩ : ByteArray), (⟨#[]⟩ : ByteArray), (([(⟨(⟨#[105, 100]⟩ : ByteArray), (⟨#[]⟩ : ByteArray)⟩ : S45)] : List (S45)))⟩ : S38), (⟨1, 1, (⟨#[]⟩ : ByteArray), (⟨#[97]⟩ : ByteArray), ([] : List (S45))⟩ : S38)] : List (S38)))).bind fun t499 => (if t499 = true then (if t424 = 0 then ((boltingref04_Same.f k bt431.1 (([(⟨0, 1, (⟨#[]⟩ : ByteArray), (⟨#[97]⟩ : ByteArray), ([] : List (S45))⟩ : S38)] : List (S38)))).bind fun t503 => (if t503 = true then (if bt431.2 = 0 then ((boltinglaw13_treeP.f).bind fun t504 => ((boltingref04_Same.f k bt454.1 t504).bind fun t507 => (if t507 = true then (if bt454.2 = 0 then (if bt461.2 = 120 then (some (bt489.2 == 40)) else (some false)) else (some false)) else (some false)))) else (some false)) else (some false))) else (some false)) else (some false))))) else (none))))))))) = some r := by first | (rw [hy428]; with_reducible exact H) | (have H2_ := (Option.bind_some _ _).symm.trans H; rw [hy428]; with_reducible exact H2_) | (have H2_ := (Option.bind_some _ _).symm.trans H; with_reducible exact H2_) | with_reducible exact H | (rw [hy428]; exact H) | exact H
 have Ny428 := am hy428
 clear hy428
 replace H := Option.bind_eq_some_iff.mp H
 obtain ⟨⟨t431, t434⟩, A50, H⟩ := H
 try dsimp only at H
 have A5 := am A50
 clear A50
 replace H := Option.bind_eq_some_iff.mp H
 obtain ⟨t435, A60, H⟩ := H
 have A6 := am A60
 clear A60
 replace H := Option.bind_eq_some_iff.mp H
 obtain ⟨⟨t438, t439, t440, t443, t446, t449, t452, t453⟩, A70, H⟩ := H
 try dsimp only at H
 have A7 := am A70
 clear A70
 replace H := Option.bind_eq_some_iff.mp H
 obtain ⟨⟨t454, t457⟩, A80, H⟩ := H
 try dsimp only at H
 have A8 := am A80
 clear A80
 replace H := Option.bind_eq_some_iff.mp H
 obtain ⟨t458, A90, H⟩ := H
 have A9 := am A90
 clear A90
 replace H := Option.bind_eq_some_iff.mp H
 obtain ⟨⟨t461, t464⟩, A100, H⟩ := H
 try dsimp only at H
 have A10 := am A100
 clear A100
 replace H := Option.bind_eq_some_iff.mp H
 obtain ⟨t465, A110, H⟩ := H
 have A11 := am A110
 clear A110
 by_cases c12 : 1 ≤ (t465.length : Int)
 ·rw [if_pos c12] at H
  have c12b0 := eq_true c12
  have c12b1 : decide (1 ≤ (t465.length : Int)) = true := decide_eq_true c12
  clear c12
  obtain ⟨y468, hy468⟩ : ∃ y_ : List (S38), y_ = (t465.drop 1) := ⟨_, rfl⟩
  replace H : ((config_All.f).bind fun bt473 => ((clean_Rows.f k y468 bt473.1 bt473.2.1 bt473.2.2.1 bt473.2.2.2.1 bt473.2.2.2.2.1 bt473.2.2.2.2.2.1 bt473.2.2.2.2.2.2.1 bt473.2.2.2.2.2.2.2 true).bind fun bt489 => ((boltingref04_Same.f k t421 (([(⟨0, 0, (⟨#[98]⟩ : ByteArray), (⟨#[]⟩ : ByteArray), (([(⟨(⟨#[105, 100]⟩ : ByteArray), (⟨#[]⟩ : ByteArray)⟩ : S45)] : List (S45)))⟩ : S38), (⟨1, 1, (⟨#[]⟩ : ByteArray), (⟨#[97]⟩ : ByteArray), ([] : List (S45))⟩ : S38)] : List (S38)))).bind fun t499 => (if t499 = true then (if t424 = 0 then ((boltingref04_Same.f k t431 (([(⟨0, 1, (⟨#[]⟩ : ByteArray), (⟨#[97]⟩ : ByteArray), ([] : List (S45))⟩ : S38)] : List (S38)))).bind fun t503 => (if t503 = true then (if t434 = 0 then ((boltinglaw13_treeP.f).bind fun t504 => ((boltingref04_Same.f k t454 t504).bind fun t507 => (if t507 = true then (if t457 = 0 then (if t464 = 120 then (some (bt489.2 == 40)) else (some false)) else (some false)) else (some false)))) else (some false)) else (some false))) else (some false)) else (some false))))) = some r := by first | (rw [hy468]; with_reducible exact H) | (have H2_ := (Option.bind_some _ _).symm.trans H; rw [hy468]; with_reducible exact H2_) | (have H2_ := (Option.bind_some _ _).symm.trans H; with_reducible exact H2_) | with_reducible exact H | (rw [hy468]; exact H) | exact H
  have Ny468 := am hy468
  clear hy468
  replace H := Option.bind_eq_some_iff.mp H
  obtain ⟨⟨t473, t474, t475, t478, t481, t484, t487, t488⟩, A130, H⟩ := H
  try dsimp only at H
  have A13 := am A130
  clear A130
  replace H := Option.bind_eq_some_iff.mp H
  obtain ⟨⟨t489, t492⟩, A140, H⟩ := H
  try dsimp only at H
  have A14 := am A140
  clear A140
  obtain ⟨y493, hy493⟩ : ∃ y_ : List (S45), y_ = (([(⟨(⟨#[105, 100]⟩ : ByteArray), (⟨#[]⟩ : ByteArray)⟩ : S45)] : List (S45))) := ⟨_, rfl⟩
  replace H : ((boltingref04_Same.f k t421 (([(⟨0, 0, (⟨#[98]⟩ : ByteArray), (⟨#[]⟩ : ByteArray), y493⟩ : S38), (⟨1, 1, (⟨#[]⟩ : ByteArray), (⟨#[97]⟩ : ByteArray), ([] : List (S45))⟩ : S38)] : List (S38)))).bind fun t499 => (if t499 = true then (if t424 = 0 then ((boltingref04_Same.f k t431 (([(⟨0, 1, (⟨#[]⟩ : ByteArray), (⟨#[97]⟩ : ByteArray), ([] : List (S45))⟩ : S38)] : List (S38)))).bind fun t503 => (if t503 = true then (if t434 = 0 then ((boltinglaw13_treeP.f).bind fun t504 => ((boltingref04_Same.f k t454 t504).bind fun t507 => (if t507 = true then (if t457 = 0 then (if t464 = 120 then (some (t492 == 40)) else (some false)) else (some false)) else (some false)))) else (some false)) else (some false))) else (some false)) else (some false))) = some r := by first | (rw [hy493]; with_reducible exact H) | (have H2_ := (Option.bind_some _ _).symm.trans H; rw [hy493]; with_reducible exact H2_) | (have H2_ := (Option.bind_some _ _).symm.trans H; with_reducible exact H2_) | with_reducible exact H | (rw [hy493]; exact H) | exact H
  have Ny493 := am hy493
  clear hy493
  obtain ⟨y496, hy496⟩ : ∃ y_ : List (S38), y_ = (([(⟨0, 0, (⟨#[98]⟩ : ByteArray), (⟨#[]⟩ : ByteArray), y493⟩ : S38), (⟨1, 1, (⟨#[]⟩ : ByteArray), (⟨#[97]⟩ : ByteArray), ([] : List (S45))⟩ : S38)] : List (S38))) := ⟨_, rfl⟩
  replace H : ((boltingref04_Same.f k t421 y496).bind fun t499 => (if t499 = true then (if t424 = 0 then ((boltingref04_Same.f k t431 (([(⟨0, 1, (⟨#[]⟩ : ByteArray), (⟨#[97]⟩ : ByteArray), ([] : List (S45))⟩ : S38)] : List (S38)))).bind fun t503 => (if t503 = true then (if t434 = 0 then ((boltinglaw13_treeP.f).bind fun t504 => ((boltingref04_Same.f k t454 t504).bind fun t507 => (if t507 = true then (if t457 = 0 then (if t464 = 120 then (some (t492 == 40)) else (some false)) else (some false)) else (some false)))) else (some false)) else (some false))) else (some false)) else (some false))) = some r := by first | (rw [hy496]; with_reducible exact H) | (have H2_ := (Option.bind_some _ _).symm.trans H; rw [hy496]; with_reducible exact H2_) | (have H2_ := (Option.bind_some _ _).symm.trans H; with_reducible exact H2_) | with_reducible exact H | (rw [hy496]; exact H) | exact H
  have Ny496 := am hy496
  clear hy496
  replace H := Option.bind_eq_some_iff.mp H
  obtain ⟨t499, A150, H⟩ := H
  have A15 := am A150
  clear A150
  by_cases c16 : t499 = true
  ·subst c16
   replace H : (if t424 = 0 then ((boltingref04_Same.f k t431 (([(⟨0, 1, (⟨#[]⟩ : ByteArray), (⟨#[97]⟩ : ByteArray), ([] : List (S45))⟩ : S38)] : List (S38)))).bind fun t503 => (if t503 = true then (if t434 = 0 then ((boltinglaw13_treeP.f).bind fun t504 => ((boltingref04_Same.f k t454 t504).bind fun t507 => (if t507 = true then (if t457 = 0 then (if t464 = 120 then (some (t492 == 40)) else (some false)) else (some false)) else (some false)))) else (some false)) else (some false))) else (some false)) = some r := by rw [if_pos rfl] at H; exact H
   by_cases c17 : t424 = 0
   ·rw [if_pos c17] at H
    have c17b0 : (t424 == 0) = true := beq_iff_eq.mpr c17
    have c17b1 : (t424 != 0) = false := bne_eq_false_iff_eq.mpr c17
    clear c17
    obtain ⟨y500, hy500⟩ : ∃ y_ : List (S38), y_ = (([(⟨0, 1, (⟨#[]⟩ : ByteArray), (⟨#[97]⟩ : ByteArray), ([] : List (S45))⟩ : S38)] : List (S38))) := ⟨_, rfl⟩
    replace H : ((boltingref04_Same.f k t431 y500).bind fun t503 => (if t503 = true then (if t434 = 0 then ((boltinglaw13_treeP.f).bind fun t504 => ((boltingref04_Same.f k t454 t504).bind fun t507 => (if t507 = true then (if t457 = 0 then (if t464 = 120 then (some (t492 == 40)) else (some false)) else (some false)) else (some false)))) else (some false)) else (some false))) = some r := by first | (rw [hy500]; with_reducible exact H) | (have H2_ := (Option.bind_some _ _).symm.trans H; rw [hy500]; with_reducible exact H2_) | (have H2_ := (Option.bind_some _ _).symm.trans H; with_reducible exact H2_) | with_reducible exact H | (rw [hy500]; exact H) | exact H
    have Ny500 := am hy500
    clear hy500
    replace H := Option.bind_eq_some_iff.mp H
    obtain ⟨t503, A180, H⟩ := H
    have A18 := am A180
    clear A180
    by_cases c19 : t503 = true
    ·subst c19
     replace H : (if t434 = 0 then ((boltinglaw13_treeP.f).bind fun t504 => ((boltingref04_Same.f k t454 t504).bind fun t507 => (if t507 = true then (if t457 = 0 then (if t464 = 120 then (some (t492 == 40)) else (some false)) else (some false)) else (some false)))) else (some false)) = some r := by rw [if_pos rfl] at H; exact H
     by_cases c20 : t434 = 0
     ·rw [if_pos c20] at H
      have c20b0 : (t434 == 0) = true := beq_iff_eq.mpr c20
      have c20b1 : (t434 != 0) = false := bne_eq_false_iff_eq.mpr c20
      clear c20
      replace H := Option.bind_eq_some_iff.mp H
      obtain ⟨t504, A210, H⟩ := H
      have A21 := am A210
      clear A210
      replace H := Option.bind_eq_some_iff.mp H
      obtain ⟨t507, A220, H⟩ := H
      have A22 := am A220
      clear A220
      by_cases c23 : t507 = true
      ·subst c23
       replace H : (if t457 = 0 then (if t464 = 120 then (some (t492 == 40)) else (some false)) else (some false)) = some r := by rw [if_pos rfl] at H; exact H
       by_cases c24 : t457 = 0
       ·rw [if_pos c24] at H
        have c24b0 : (t457 == 0) = true := beq_iff_eq.mpr c24
        have c24b1 : (t457 != 0) = false := bne_eq_false_iff_eq.mpr c24
        clear c24
        by_cases c25 : t464 = 120
        ·rw [if_pos c25] at H
         have c25b0 : (t464 == 120) = true := beq_iff_eq.mpr c25
         have c25b1 : (t464 != 120) = false := bne_eq_false_iff_eq.mpr c25
         clear c25
         obtain rfl := Option.some.inj H
         go_enter Tryz.func12, Tryz.ntmps12
         try go_wp2_with (first | ((with_reducible refine gate_callee (f := 31) rfl ?_); refine goesL_ (some 12) rfl rfl Tryz.func31 (by kernel_rfl) rfl #[] rfl zm ?_; (with_reducible refine (boltinglaw13_treeP.calls  t402 _ A1.out).mono ?_); rintro e w26 ⟨v403, rfl, ho0, hb⟩; refine ⟨_, rfl, ?_⟩; have n0_ := am (Kd.N_lower (Kd.N_mono (ok' := fun _ => True) ho0 (fun _ _ => trivial)) (below_size (zb HB))); have n1_ := am (below_step (zb HB) hb); clear HB; have HO404 := n0_; have HB := n1_; clear n0_ n1_; (try clear hb); (try clear ho0)) | ((with_reducible refine gate_callee (f := 15) rfl ?_); refine goesL_ (some 13) rfl rfl Tryz.func15 (by kernel_rfl) rfl #[] rfl zm ?_; (with_reducible refine (config_All.calls  t405 t406 t407 t410 t413 t416 t419 t420 _ A2.out).mono ?_); rintro e w27 ⟨v408, v411, v414, v417, rfl, ho0, ho1, ho2, ho3, hb⟩; refine ⟨_, rfl, ?_⟩; have n0_ := am (Kd.N_mono (Kd.N_told (Kd.N_told (Kd.N_told (Kd.N_told (Kd.N_old (by exact HO404.out) hb) (Kd.R_base ho0)) (Kd.R_base ho1)) (Kd.R_base ho2)) (zn ho3)) (fun _ h_ => h_.1)); have n1_ := am (Kd.R_lower ho0 (below_size (zb HB))); have n2_ := am (Kd.R_lower ho1 (below_size (zb HB))); have n3_ := am (Kd.R_lower ho2 (below_size (zb HB))); have n4_ := am (Kd.N_lower (Kd.N_mono (ok' := fun _ => True) (Kd.S_N (Kd.S_bound ho3)) (fun _ _ => trivial)) (below_size (zb HB))); have n5_ := am (below_step (zb HB) hb); clear HO404; clear HB; have HO404 := n0_; have HO409 := n1_; have HO412 := n2_; have HO415 := n3_; have HO418 := n4_; have HB := n5_; clear n0_ n1_ n2_ n3_ n4_ n5_; (try clear hb); (try clear ho0); (try clear ho1); (try clear ho2); (try clear ho3); obtain ⟨Ao28, co28, eo28⟩ := Kd.N_slice HO404.out; subst eo28; obtain ⟨Ao29, co29, eo29⟩ := Kd.R_slice HO409.out; subst eo29; obtain ⟨Ao30, co30, eo30⟩ := Kd.R_slice HO412.out; subst eo30; obtain ⟨Ao31, co31, eo31⟩ := Kd.R_slice HO415.out; subst eo31; obtain ⟨Ao32, co32, eo32⟩ := Kd.N_slice HO418.out; subst eo32) | ((with_reducible refine gate_callee (f := 14) rfl ?_); refine goesL_ (some 14) rfl rfl Tryz.func14 (by kernel_rfl) rfl #[.slice Ao28 t402.length co28, .agg #[.bool t405, .bool t406, .slice Ao29 t407.length co29, .slice Ao30 t410.length co30, .slice Ao31 t413.length co31, .slice Ao32 t416.length co32, .bool t419, .bool t420], .bool true] rfl zm ?_; (with_reducible refine (clean_Rows.calls k _ _ t402 t405 t406 _ _ t407 _ _ t410 _ _ t413 _ _ t416 t419 t420 true t421 t424 _ ?side1 ?side2 ?side3 ?side4 ?side5 ?side6 ?side7 ?side8 ?side9 ?side10 A3.out).mono ?_); (case side1 => exact zc (Kd.N_reads' HO404.out).2.2); (case side2 => exact (Kd.N_reads' HO404.out).2.1); (case side3 => exact zc (Kd.R_reads' HO409.out).2.2); (case side4 => exact (Kd.R_reads' HO409.out).2.1); (case side5 => exact zc (Kd.R_reads' HO412.out).2.2); (case side6 => exact (Kd.R_reads' HO412.out).2.1); (case side7 => exact zc (Kd.R_reads' HO415.out).2.2); (case side8 => exact (Kd.R_reads' HO415.out).2.1); (case side9 => exact zc (Kd.N_reads' HO418.out).2.2); (case side10 => exact (Kd.N_reads' HO418.out).2.1); rintro e w33 ⟨v422, rfl, ho0, hb⟩; refine ⟨_, rfl, ?_⟩; have n0_ := am (Kd.N_elder' (by exact HO404.out) (zn ho0) hb); have n1_ := am (Kd.R_below (by exact HO409.out) hb); have n2_ := am (Kd.R_below (by exact HO412.out) hb); have n3_ := am (Kd.R_below (by exact HO415.out) hb); have n4_ := am (Kd.N_elder' (by exact HO418.out) (zn ho0) hb); have n5_ := am (Kd.N_lower (Kd.N_mono (ok' := fun _ => True) ho0 (fun _ _ => trivial)) (below_size (zb HB))); have n6_ := am (below_step (zb HB) hb); clear HO404; clear HO409; clear HO412; clear HO415; clear HO418; clear HB; have HO404 := n0_; have HO409 := n1_; have HO412 := n2_; have HO415 := n3_; have HO418 := n4_; have HO423 := n5_; have HB := n6_; clear n0_ n1_ n2_ n3_ n4_ n5_ n6_; (try clear hb); (try clear ho0)) | ((with_reducible refine gate_callee (f := 31) rfl ?_); refine goesL_ (some 18) rfl rfl Tryz.func31 (by kernel_rfl) rfl #[] rfl zm ?_; (with_reducible refine (boltinglaw13_treeP.calls  t425 _ A4.out).mono ?_); rintro e w34 ⟨v426, rfl, ho0, hb⟩; refine ⟨_, rfl, ?_⟩; have n0_ := am (Kd.N_elder' (by exact HO404.out) (zn ho0) hb); have n1_ := am (Kd.R_below (by exact HO409.out) hb); have n2_ := am (Kd.R_below (by exact HO412.out) hb); have n3_ := am (Kd.R_below (by exact HO415.out) hb); have n4_ := am (Kd.N_elder' (by exact HO418.out) (zn ho0) hb); have n5_ := am (Kd.N_elder' (by exact HO423.out) (zn ho0) hb); have n6_ := am (Kd.N_lower (Kd.N_mono (ok' := fun _ => True) ho0 (fun _ _ => trivial)) (below_size (zb HB))); have n7_ := am (below_step (zb HB) hb); clear HO404; clear HO409; clear HO412; clear HO415; clear HO418; clear HO423; clear HB; have HO404 := n0_; have HO409 := n1_; have HO412 := n2_; have HO415 := n3_; have HO418 := n4_; have HO423 := n5_; have HO427 := n6_; have HB := n7_; clear n0_ n1_ n2_ n3_ n4_ n5_ n6_ n7_; (try clear hb); (try clear ho0)) | ((with_reducible refine gate_dst (N := 19) rfl ?_); (try (refine gate_guard (by rfl) ?_; dsimp only)); refine Kd.R_lit Kd.string _ 9 ?hg (N := 19) ?hd (xs := ([(⟨#[98]⟩ : ByteArray)] : List ByteArray)) (inner := [.string (⟨#[98]⟩ : ByteArray)]) (ok := fun _ => True) (okp := fun _ => True) ?hr ?hp (fun _ hk => hk) trivial (Below.refl _ _) (Nat.le_refl _) (by simp) ?_; (case hd => rfl); (case hg => rfl); (case hr => first | (go_simp; done) | (go_simp; rfl)); (case hp => exact (Reps.one (show Kd.M Kd.string _ _ _ (⟨#[98]⟩ : ByteArray) [.string (⟨#[98]⟩ : ByteArray)] from rfl) (Reps.none _ _))); intro v429 w35 ho36 hb hg_ hnew_; clear hg_ hnew_; (first | rw [← Ny428.out] at ho36 | (simp only [Int.reduceToNat] at ho36; rw [← Ny428.out] at ho36)); have n0_ := am (Kd.N_elder' (by exact HO404.out) (Kd.R_base ho36) hb); have n1_ := am (Kd.R_elder' (by exact HO409.out) (Kd.R_base ho36) hb); have n2_ := am (Kd.R_elder' (by exact HO412.out) (Kd.R_base ho36) hb); have n3_ := am (Kd.R_elder' (by exact HO415.out) (Kd.R_base ho36) hb); have n4_ := am (Kd.N_elder' (by exact HO418.out) (Kd.R_base ho36) hb); have n5_ := am (Kd.N_elder' (by exact HO423.out) (Kd.R_base ho36) hb); have n6_ := am (Kd.N_elder' (by exact HO427.out) (Kd.R_base ho36) hb); have n7_ := am (Kd.R_lower (Kd.R_new' (Kd.R_new' (Kd.R_new' ho36 (Kd.R_lt (by exact HO409.out))) (Kd.R_lt (by exact HO412.out))) (Kd.R_lt (by exact HO415.out))) (below_size (zb HB))); have n8_ := am (below_step (zb HB) hb); clear HO404; clear HO409; clear HO412; clear HO415; clear HO418; clear HO423; clear HO427; clear HB; have HO404 := n0_; have HO409 := n1_; have HO412 := n2_; have HO415 := n3_; have HO418 := n4_; have HO423 := n5_; have HO427 := n6_; have HO430 := n7_; have HB := n8_; clear n0_ n1_ n2_ n3_ n4_ n5_ n6_ n7_ n8_; clear hb ho36; obtain ⟨Ao37, co37, eo37⟩ := Kd.R_slice HO430.out; subst eo37; obtain ⟨Ao38, co38, eo38⟩ := Kd.N_slice HO427.out; subst eo38) | ((with_reducible refine gate_callee (f := 14) rfl ?_); refine goesL_ (some 21) rfl rfl Tryz.func14 (by kernel_rfl) rfl #[.slice Ao38 t425.length co38, .agg #[.bool false, .bool false, .slice none 0 0, .slice Ao37 y428.length co37, .slice none 0 0, .slice none 0 0, .bool false, .bool false], .bool true] rfl zm ?_; (refine (clean_Rows.calls k _ _ t425 false false _ _ ([] : List ByteArray) _ _ y428 _ _ ([] : List ByteArray) _ _ ([] : List (S60)) false false true t431 t434 _ ?side1 ?side2 ?side3 ?side4 ?side5 ?side6 ?side7 ?side8 ?side9 ?side10 A5.out).mono ?_); (case side1 => exact zc (Kd.N_reads' HO427.out).2.2); (case side2 => exact (Kd.N_reads' HO427.out).2.1); (case side3 => exact Kd.C_nil _ _); (case side4 => exact Nat.le_refl _); (case side5 => exact zc (Kd.R_reads' HO430.out).2.2); (case side6 => exact (Kd.R_reads' HO430.out).2.1); (case side7 => exact Kd.C_nil _ _); (case side8 => exact Nat.le_refl _); (case side9 => exact Kd.C_nil _ _); (case side10 => exact Nat.le_refl _); rintro e w39 ⟨v432, rfl, ho0, hb⟩; refine ⟨_, rfl, ?_⟩; have n0_ := am (Kd.N_elder' (by exact HO404.out) (zn ho0) hb); have n1_ := am (Kd.R_below (by exact HO409.out) hb); have n2_ := am (Kd.R_below (by exact HO412.out) hb); have n3_ := am (Kd.R_below (by exact HO415.out) hb); have n4_ := am (Kd.N_elder' (by exact HO418.out) (zn ho0) hb); have n5_ := am (Kd.N_elder' (by exact HO423.out) (zn ho0) hb); have n6_ := am (Kd.N_elder' (by exact HO427.out) (zn ho0) hb); have n7_ := am (Kd.R_below (by exact HO430.out) hb); have n8_ := am (Kd.N_lower (Kd.N_mono (ok' := fun _ => True) ho0 (fun _ _ => trivial)) (below_size (zb HB))); have n9_ := am (below_step (zb HB) hb); clear HO404; clear HO409; clear HO412; clear HO415; clear HO418; clear HO423; clear HO427; clear HO430; clear HB; have HO404 := n0_; have HO409 := n1_; have HO412 := n2_; have HO415 := n3_; have HO418 := n4_; have HO423 := n5_; have HO427 := n6_; have HO430 := n7_; have HO433 := n8_; have HB := n9_; clear n0_ n1_ n2_ n3_ n4_ n5_ n6_ n7_ n8_ n9_; (try clear hb); (try clear ho0)) | ((with_reducible refine gate_callee (f := 31) rfl ?_); refine goesL_ (some 25) rfl rfl Tryz.func31 (by kernel_rfl) rfl #[] rfl zm ?_; (with_reducible refine (boltinglaw13_treeP.calls  t435 _ A6.out).mono ?_); rintro e w40 ⟨v436, rfl, ho0, hb⟩; refine ⟨_, rfl, ?_⟩; have n0_ := am (Kd.N_elder' (by exact HO404.out) (zn ho0) hb); have n1_ := am (Kd.R_below (by exact HO409.out) hb); have n2_ := am (Kd.R_below (by exact HO412.out) hb); have n3_ := am (Kd.R_below (by exact HO415.out) hb); have n4_ := am (Kd.N_elder' (by exact HO418.out) (zn ho0) hb); have n5_ := am (Kd.N_elder' (by exact HO423.out) (zn ho0) hb); have n6_ := am (Kd.N_elder' (by exact HO427.out) (zn ho0) hb); have n7_ := am (Kd.R_below (by exact HO430.out) hb); have n8_ := am (Kd.N_elder' (by exact HO433.out) (zn ho0) hb); have n9_ := am (Kd.N_lower (Kd.N_mono (ok' := fun _ => True) ho0 (fun _ _ => trivial)) (below_size (zb HB))); have n10_ := am (below_step (zb HB) hb); clear HO404; clear HO409; clear HO412; clear HO415; clear HO418; clear HO423; clear HO427; clear HO430; clear HO433; clear HB; have HO404 := n0_; have HO409 := n1_; have HO412 := n2_; have HO415 := n3_; have HO418 := n4_; have HO423 := n5_; have HO427 := n6_; have HO430 := n7_; have HO433 := n8_; have HO437 := n9_; have HB := n10_; clear n0_ n1_ n2_ n3_ n4_ n5_ n6_ n7_ n8_ n9_ n10_; (try clear hb); (try clear ho0)) | ((with_reducible refine gate_callee (f := 15) rfl ?_); refine goesL_ (some 26) rfl rfl Tryz.func15 (by kernel_rfl) rfl #[] rfl zm ?_; (with_reducible refine (config_All.calls  t438 t439 t440 t443 t446 t449 t452 t453 _ A7.out).mono ?_); rintro e w41 ⟨v441, v444, v447, v450, rfl, ho0, ho1, ho2, ho3, hb⟩; refine ⟨_, rfl, ?_⟩; have n0_ := am (Kd.N_mono (Kd.N_told (Kd.N_told (Kd.N_told (Kd.N_told (Kd.N_old (by exact HO404.out) hb) (Kd.R_base ho0)) (Kd.R_base ho1)) (Kd.R_base ho2)) (zn ho3)) (fun _ h_ => h_.1)); have n1_ := am (Kd.R_mono (Kd.R_told (Kd.R_told (Kd.R_told (Kd.R_old (by exact HO409.out) hb) (Kd.R_base ho0)) (Kd.R_base ho1)) (Kd.R_base ho2)) (fun _ h_ => h_.1)); have n2_ := am (Kd.R_mono (Kd.R_told (Kd.R_told (Kd.R_told (Kd.R_old (by exact HO412.out) hb) (Kd.R_base ho0)) (Kd.R_base ho1)) (Kd.R_base ho2)) (fun _ h_ => h_.1)); have n3_ := am (Kd.R_mono (Kd.R_told (Kd.R_told (Kd.R_told (Kd.R_old (by exact HO415.out) hb) (Kd.R_base ho0)) (Kd.R_base ho1)) (Kd.R_base ho2)) (fun _ h_ => h_.1)); have n4_ := am (Kd.N_mono (Kd.N_told (Kd.N_told (Kd.N_told (Kd.N_told (Kd.N_old (by exact HO418.out) hb) (Kd.R_base ho0)) (Kd.R_base ho1)) (Kd.R_base ho2)) (zn ho3)) (fun _ h_ => h_.1)); have n5_ := am (Kd.N_mono (Kd.N_told (Kd.N_told (Kd.N_told (Kd.N_told (Kd.N_old (by exact HO423.out) hb) (Kd.R_base ho0)) (Kd.R_base ho1)) (Kd.R_base ho2)) (zn ho3)) (fun _ h_ => h_.1)); have n6_ := am (Kd.N_mono (Kd.N_told (Kd.N_told (Kd.N_told (Kd.N_told (Kd.N_old (by exact HO427.out) hb) (Kd.R_base ho0)) (Kd.R_base ho1)) (Kd.R_base ho2)) (zn ho3)) (fun _ h_ => h_.1)); have n7_ := am (Kd.R_mono (Kd.R_told (Kd.R_told (Kd.R_told (Kd.R_old (by exact HO430.out) hb) (Kd.R_base ho0)) (Kd.R_base ho1)) (Kd.R_base ho2)) (fun _ h_ => h_.1)); have n8_ := am (Kd.N_mono (Kd.N_told (Kd.N_told (Kd.N_told (Kd.N_told (Kd.N_old (by exact HO433.out) hb) (Kd.R_base ho0)) (Kd.R_base ho1)) (Kd.R_base ho2)) (zn ho3)) (fun _ h_ => h_.1)); have n9_ := am (Kd.N_mono (Kd.N_told (Kd.N_told (Kd.N_told (Kd.N_told (Kd.N_old (by exact HO437.out) hb) (Kd.R_base ho0)) (Kd.R_base ho1)) (Kd.R_base ho2)) (zn ho3)) (fun _ h_ => h_.1)); have n10_ := am (Kd.R_lower (Kd.R_new' (Kd.R_new' (Kd.R_new' (Kd.R_new' ho0 (Kd.R_lt (by exact HO409.out))) (Kd.R_lt (by exact HO412.out))) (Kd.R_lt (by exact HO415.out))) (Kd.R_lt (by exact HO430.out))) (below_size (zb HB))); have n11_ := am (Kd.R_lower (Kd.R_new' (Kd.R_new' (Kd.R_new' (Kd.R_new' ho1 (Kd.R_lt (by exact HO409.out))) (Kd.R_lt (by exact HO412.out))) (Kd.R_lt (by exact HO415.out))) (Kd.R_lt (by exact HO430.out))) (below_size (zb HB))); have n12_ := am (Kd.R_lower (Kd.R_new' (Kd.R_new' (Kd.R_new' (Kd.R_new' ho2 (Kd.R_lt (by exact HO409.out))) (Kd.R_lt (by exact HO412.out))) (Kd.R_lt (by exact HO415.out))) (Kd.R_lt (by exact HO430.out))) (below_size (zb HB))); have n13_ := am (Kd.N_lower (Kd.N_mono (ok' := fun _ => True) (Kd.S_N (Kd.S_bound ho3)) (fun _ _ => trivial)) (below_size (zb HB))); have n14_ := am (below_step (zb HB) hb); clear HO404; clear HO409; clear HO412; clear HO415; clear HO418; clear HO423; clear HO427; clear HO430; clear HO433; clear HO437; clear HB; have HO404 := n0_; have HO409 := n1_; have HO412 := n2_; have HO415 := n3_; have HO418 := n4_; have HO423 := n5_; have HO427 := n6_; have HO430 := n7_; have HO433 := n8_; have HO437 := n9_; have HO442 := n10_; have HO445 := n11_; have HO448 := n12_; have HO451 := n13_; have HB := n14_; clear n0_ n1_ n2_ n3_ n4_ n5_ n6_ n7_ n8_ n9_ n10_ n11_ n12_ n13_ n14_; (try clear hb); (try clear ho0); (try clear ho1); (try clear ho2); (try clear ho3); obtain ⟨Ao42, co42, eo42⟩ := Kd.N_slice HO437.out; subst eo42; obtain ⟨Ao43, co43, eo43⟩ := Kd.R_slice HO442.out; subst eo43; obtain ⟨Ao44, co44, eo44⟩ := Kd.R_slice HO445.out; subst eo44; obtain ⟨Ao45, co45, eo45⟩ := Kd.R_slice HO448.out; subst eo45; obtain ⟨Ao46, co46, eo46⟩ := Kd.N_slice HO451.out; subst eo46) | ((with_reducible refine gate_callee (f := 14) rfl ?_); refine goesL_ (some 27) rfl rfl Tryz.func14 (by kernel_rfl) rfl #[.slice Ao42 t435.length co42, .agg #[.bool t438, .bool t439, .slice Ao43 t440.length co43, .slice Ao44 t443.length co44, .slice Ao45 t446.length co45, .slice Ao46 t449.length co46, .bool t452, .bool t453], .bool false] rfl zm ?_; (with_reducible refine (clean_Rows.calls k _ _ t435 t438 t439 _ _ t440 _ _ t443 _ _ t446 _ _ t449 t452 t453 false t454 t457 _ ?side1 ?side2 ?side3 ?side4 ?side5 ?side6 ?side7 ?side8 ?side9 ?side10 A8.out).mono ?_); (case side1 => exact zc (Kd.N_reads' HO437.out).2.2); (case side2 => exact (Kd.N_reads' HO437.out).2.1); (case side3 => exact zc (Kd.R_reads' HO442.out).2.2); (case side4 => exact (Kd.R_reads' HO442.out).2.1); (case side5 => exact zc (Kd.R_reads' HO445.out).2.2); (case side6 => exact (Kd.R_reads' HO445.out).2.1); (case side7 => exact zc (Kd.R_reads' HO448.out).2.2); (case side8 => exact (Kd.R_reads' HO448.out).2.1); (case side9 => exact zc (Kd.N_reads' HO451.out).2.2); (case side10 => exact (Kd.N_reads' HO451.out).2.1); rintro e w47 ⟨v455, rfl, ho0, hb⟩; refine ⟨_, rfl, ?_⟩; have n0_ := am (Kd.N_elder' (by exact HO404.out) (zn ho0) hb); have n1_ := am (Kd.R_below (by exact HO409.out) hb); have n2_ := am (Kd.R_below (by exact HO412.out) hb); have n3_ := am (Kd.R_below (by exact HO415.out) hb); have n4_ := am (Kd.N_elder' (by exact HO418.out) (zn ho0) hb); have n5_ := am (Kd.N_elder' (by exact HO423.out) (zn ho0) hb); have n6_ := am (Kd.N_elder' (by exact HO427.out) (zn ho0) hb); have n7_ := am (Kd.R_below (by exact HO430.out) hb); have n8_ := am (Kd.N_elder' (by exact HO433.out) (zn ho0) hb); have n9_ := am (Kd.N_elder' (by exact HO437.out) (zn ho0) hb); have n10_ := am (Kd.R_below (by exact HO442.out) hb); have n11_ := am (Kd.R_below (by exact HO445.out) hb); have n12_ := am (Kd.R_below (by exact HO448.out) hb); have n13_ := am (Kd.N_elder' (by exact HO451.out) (zn ho0) hb); have n14_ := am (Kd.N_lower (Kd.N_mono (ok' := fun _ => True) ho0 (fun _ _ => trivial)) (below_size (zb HB))); have n15_ := am (below_step (zb HB) hb); clear HO404; clear HO409; clear HO412; clear HO415; clear HO418; clear HO423; clear HO427; clear HO430; clear HO433; clear HO437; clear HO442; clear HO445; clear HO448; clear HO451; clear HB; have HO404 := n0_; have HO409 := n1_; have HO412 := n2_; have HO415 := n3_; have HO418 := n4_; have HO423 := n5_; have HO427 := n6_; have HO430 := n7_; have HO433 := n8_; have HO437 := n9_; have HO442 := n10_; have HO445 := n11_; have HO448 := n12_; have HO451 := n13_; have HO456 := n14_; have HB := n15_; clear n0_ n1_ n2_ n3_ n4_ n5_ n6_ n7_ n8_ n9_ n10_ n11_ n12_ n13_ n14_ n15_; (try clear hb); (try clear ho0)) | ((with_reducible refine gate_callee (f := 31) rfl ?_); refine goesL_ (some 31) rfl rfl Tryz.func31 (by kernel_rfl) rfl #[] rfl zm ?_; (with_reducible refine (boltinglaw13_treeP.calls  t458 _ A9.out).mono ?_); rintro e w48 ⟨v459, rfl, ho0, hb⟩; refine ⟨_, rfl, ?_⟩; have n0_ := am (Kd.N_elder' (by exact HO404.out) (zn ho0) hb); have n1_ := am (Kd.R_below (by exact HO409.out) hb); have n2_ := am (Kd.R_below (by exact HO412.out) hb); have n3_ := am (Kd.R_below (by exact HO415.out) hb); have n4_ := am (Kd.N_elder' (by exact HO418.out) (zn ho0) hb); have n5_ := am (Kd.N_elder' (by exact HO423.out) (zn ho0) hb); have n6_ := am (Kd.N_elder' (by exact HO427.out) (zn ho0) hb); have n7_ := am (Kd.R_below (by exact HO430.out) hb); have n8_ := am (Kd.N_elder' (by exact HO433.out) (zn ho0) hb); have n9_ := am (Kd.N_elder' (by exact HO437.out) (zn ho0) hb); have n10_ := am (Kd.R_below (by exact HO442.out) hb); have n11_ := am (Kd.R_below (by exact HO445.out) hb); have n12_ := am (Kd.R_below (by exact HO448.out) hb); have n13_ := am (Kd.N_elder' (by exact HO451.out) (zn ho0) hb); have n14_ := am (Kd.N_elder' (by exact HO456.out) (zn ho0) hb); have n15_ := am (Kd.N_lower (Kd.N_mono (ok' := fun _ => True) ho0 (fun _ _ => trivial)) (below_size (zb HB))); have n16_ := am (below_step (zb HB) hb); clear HO404; clear HO409; clear HO412; clear HO415; clear HO418; clear HO423; clear HO427; clear HO430; clear HO433; clear HO437; clear HO442; clear HO445; clear HO448; clear HO451; clear HO456; clear HB; have HO404 := n0_; have HO409 := n1_; have HO412 := n2_; have HO415 := n3_; have HO418 := n4_; have HO423 := n5_; have HO427 := n6_; have HO430 := n7_; have HO433 := n8_; have HO437 := n9_; have HO442 := n10_; have HO445 := n11_; have HO448 := n12_; have HO451 := n13_; have HO456 := n14_; have HO460 := n15_; have HB := n16_; clear n0_ n1_ n2_ n3_ n4_ n5_ n6_ n7_ n8_ n9_ n10_ n11_ n12_ n13_ n14_ n15_ n16_; (try clear hb); (try clear ho0); obtain ⟨Ao49, co49, eo49⟩ := Kd.N_slice HO460.out; subst eo49) | ((with_reducible refine gate_callee (f := 14) rfl ?_); refine goesL_ (some 33) rfl rfl Tryz.func14 (by kernel_rfl) rfl #[.slice Ao49 t458.length co49, .agg #[.bool false, .bool false, .slice none 0 0, .slice none 0 0, .slice none 0 0, .slice none 0 0, .bool false, .bool true], .bool true] rfl zm ?_; (refine (clean_Rows.calls k _ _ t458 false false _ _ ([] : List ByteArray) _ _ ([] : List ByteArray) _ _ ([] : List ByteArray) _ _ ([] : List (S60)) false true true t461 t464 _ ?side1 ?side2 ?side3 ?side4 ?side5 ?side6 ?side7 ?side8 ?side9 ?side10 A10.out).mono ?_); (case side1 => exact zc (Kd.N_reads' HO460.out).2.2); (case side2 => exact (Kd.N_reads' HO460.out).2.1); (case side3 => exact Kd.C_nil _ _); (case side4 => exact Nat.le_refl _); (case side5 => exact Kd.C_nil _ _); (case side6 => exact Nat.le_refl _); (case side7 => exact Kd.C_nil _ _); (case side8 => exact Nat.le_refl _); (case side9 => exact Kd.C_nil _ _); (case side10 => exact Nat.le_refl _); rintro e w50 ⟨v462, rfl, ho0, hb⟩; refine ⟨_, rfl, ?_⟩; have n0_ := am (Kd.N_elder' (by exact HO404.out) (zn ho0) hb); have n1_ := am (Kd.R_below (by exact HO409.out) hb); have n2_ := am (Kd.R_below (by exact HO412.out) hb); have n3_ := am (Kd.R_below (by exact HO415.out) hb); have n4_ := am (Kd.N_elder' (by exact HO418.out) (zn ho0) hb); have n5_ := am (Kd.N_elder' (by exact HO423.out) (zn ho0) hb); have n6_ := am (Kd.N_elder' (by exact HO427.out) (zn ho0) hb); have n7_ := am (Kd.R_below (by exact HO430.out) hb); have n8_ := am (Kd.N_elder' (by exact HO433.out) (zn ho0) hb); have n9_ := am (Kd.N_elder' (by exact HO437.out) (zn ho0) hb); have n10_ := am (Kd.R_below (by exact HO442.out) hb); have n11_ := am (Kd.R_below (by exact HO445.out) hb); have n12_ := am (Kd.R_below (by exact HO448.out) hb); have n13_ := am (Kd.N_elder' (by exact HO451.out) (zn ho0) hb); have n14_ := am (Kd.N_elder' (by exact HO456.out) (zn ho0) hb); have n15_ := am (Kd.N_elder' (by exact HO460.out) (zn ho0) hb); have n16_ := am (Kd.N_lower (Kd.N_mono (ok' := fun _ => True) ho0 (fun _ _ => trivial)) (below_size (zb HB))); have n17_ := am (below_step (zb HB) hb); clear HO404; clear HO409; clear HO412; clear HO415; clear HO418; clear HO423; clear HO427; clear HO430; clear HO433; clear HO437; clear HO442; clear HO445; clear HO448; clear HO451; clear HO456; clear HO460; clear HB; have HO404 := n0_; have HO409 := n1_; have HO412 := n2_; have HO415 := n3_; have HO418 := n4_; have HO423 := n5_; have HO427 := n6_; have HO430 := n7_; have HO433 := n8_; have HO437 := n9_; have HO442 := n10_; have HO445 := n11_; have HO448 := n12_; have HO451 := n13_; have HO456 := n14_; have HO460 := n15_; have HO463 := n16_; have HB := n17_; clear n0_ n1_ n2_ n3_ n4_ n5_ n6_ n7_ n8_ n9_ n10_ n11_ n12_ n13_ n14_ n15_ n16_ n17_; (try clear hb); (try clear ho0)))
         have n0_ := am (Kd.N_drew HO404.out)
         have n1_ := am (Kd.R_drew HO409.out)
         have n2_ := am (Kd.R_drew HO412.out)
         have n3_ := am (Kd.R_drew HO415.out)
         have n4_ := am (Kd.N_drew HO418.out)
         have n5_ := am (Kd.N_drew HO423.out)
         have n6_ := am (Kd.N_drew HO427.out)
         have n7_ := am (Kd.R_drew HO430.out)
         have n8_ := am (Kd.N_drew HO433.out)
         have n9_ := am (Kd.N_drew HO437.out)
         have n10_ := am (Kd.R_drew HO442.out)
         have n11_ := am (Kd.R_drew HO445.out)
         have n12_ := am (Kd.R_drew HO448.out)
         have n13_ := am (Kd.N_drew HO451.out)
         have n14_ := am (Kd.N_drew HO456.out)
         have n15_ := am (Kd.N_drew HO460.out)
         have n16_ := am (Kd.N_drew HO463.out)
         have n17_ := am (below_drew1 HB.out)
         clear HO404
         clear HO409
         clear HO412
         clear HO415
         clear HO418
         clear HO423
         clear HO427
         clear HO430
         clear HO433
         clear HO437
         clear HO442
         clear HO445
         clear HO448
         clear HO451
         clear HO456
         clear HO460
         clear HO463
         clear HB
         have HO404 := n0_
         have HO409 := n1_
         have HO412 := n2_
         have HO415 := n3_
         have HO418 := n4_
         have HO423 := n5_
         have HO427 := n6_
         have HO430 := n7_
         have HO433 := n8_
         have HO437 := n9_
         have HO442 := n10_
         have HO445 := n11_
         have HO448 := n12_
         have HO451 := n13_
         have HO456 := n14_
         have HO460 := n15_
         have HO463 := n16_
         have HB := n17_
         clear n0_ n1_ n2_ n3_ n4_ n5_ n6_ n7_ n8_ n9_ n10_ n11_ n12_ n13_ n14_ n15_ n16_ n17_
         refine start_ (n := 9) (S := fun w' => True) (ds := []) (tf 0 9) (by kernel_rfl) rfl rfl trivial (fun hHeld => ?_); refine with_tabW boltinglaw13_fixedP.tab5 boltinglaw13_fixedP.bits5 (fun HT_ HW_ => ?_)
         generalize w50.drew = w51 at HO404 HO409 HO412 HO415 HO418 HO423 HO427 HO430 HO433 HO437 HO442 HO445 HO448 HO451 HO456 HO460 HO463 HB hHeld ⊢
         refine one_ (i := 0) (N := some 37) (tf 1 8) rfl rfl (one_of HT_.out (by kernel_rfl)) (by decide) (fun K hK => ?_)
         refine goes_ Tryz.func31 (by kernel_rfl) rfl #[] (by rfl) rfl rfl zm ?_
         with_reducible refine (boltinglaw13_treeP.calls  t465 _ A11.out).mono ?_
         rintro e w52 ⟨v466, rfl, ho0, hb⟩
         refine ⟨_, rfl, ?_⟩
         have n0_ := am (Kd.N_elder' (by exact HO404.out) (zn ho0) hb)
         have n1_ := am (Kd.R_below (by exact HO409.out) hb)
         have n2_ := am (Kd.R_below (by exact HO412.out) hb)
         have n3_ := am (Kd.R_below (by exact HO415.out) hb)
         have n4_ := am (Kd.N_elder' (by exact HO418.out) (zn ho0) hb)
         have n5_ := am (Kd.N_elder' (by exact HO423.out) (zn ho0) hb)
         have n6_ := am (Kd.N_elder' (by exact HO427.out) (zn ho0) hb)
         have n7_ := am (Kd.R_below (by exact HO430.out) hb)
         have n8_ := am (Kd.N_elder' (by exact HO433.out) (zn ho0) hb)
         have n9_ := am (Kd.N_elder' (by exact HO437.out) (zn ho0) hb)
         have n10_ := am (Kd.R_below (by exact HO442.out) hb)
         have n11_ := am (Kd.R_below (by exact HO445.out) hb)
         have n12_ := am (Kd.R_below (by exact HO448.out) hb)
         have n13_ := am (Kd.N_elder' (by exact HO451.out) (zn ho0) hb)
         have n14_ := am (Kd.N_elder' (by exact HO456.out) (zn ho0) hb)
         have n15_ := am (Kd.N_elder' (by exact HO460.out) (zn ho0) hb)
         have n16_ := am (Kd.N_elder' (by exact HO463.out) (zn ho0) hb)
         have n17_ := am (Kd.N_lower (Kd.N_mono (ok' := fun _ => True) ho0 (fun _ _ => trivial)) (below_size (zb HB)))
         have n18_ := am (below_step (zb HB) hb)
         clear HO404
         clear HO409
         clear HO412
         clear HO415
         clear HO418
         clear HO423
         clear HO427
         clear HO430
         clear HO433
         clear HO437
         clear HO442
         clear HO445
         clear HO448
         clear HO451
         clear HO456
         clear HO460
         clear HO463
         clear HB
         have HO404 := n0_
         have HO409 := n1_
         have HO412 := n2_
         have HO415 := n3_
         have HO418 := n4_
         have HO423 := n5_
         have HO427 := n6_
         have HO430 := n7_
         have HO433 := n8_
         have HO437 := n9_
         have HO442 := n10_
         have HO445 := n11_
         have HO448 := n12_
         have HO451 := n13_
         have HO456 := n14_
         have HO460 := n15_
         have HO463 := n16_
         have HO467 := n17_
         have HB := n18_
         clear n0_ n1_ n2_ n3_ n4_ n5_ n6_ n7_ n8_ n9_ n10_ n11_ n12_ n13_ n14_ n15_ n16_ n17_ n18_
         (try clear hb)
         (try clear ho0)
         obtain ⟨Ao54, co54, eo54⟩ := Kd.N_slice HO467.out
         (first | subst eo54 | (injection eo54 with f1_ f2_ f3_; have f4_ := f1_.symm; have f5_ := f3_.symm; clear f1_ f2_ f3_; subst f4_; subst f5_))
         have q53 : (1 : Int) ≤ ((t465.length : Int) : Int) := of_decide_eq_true za
         obtain ⟨i053, hi053, _, hsz53, _⟩ := info_parts info38
         have hroom53 : t465.length ≤ co54 := (Kd.N_reads' HO467.out).2.1
         have hC53 : Kd.F k38 _ _ Ao54 t465.length t465 := (Kd.V_at (base := w.heap.size) (Kd.N_V HO467.out)).2.2
         have hcut53 := cut_from (P := Tryz.prog) 22 38 .i64 Tryz.underlying22 hi053 5 hsz53 Ao54 t465.length co54 1 (by omega) q53
         have hr53 := Kd.F_cut (m := (1 : Int).toNat) (c := co54) hC53 (by omega) hroom53
         obtain ⟨A53, hA53⟩ : ∃ A1, A1 = (if co54 = (1 : Int).toNat then Ao54 else (Ao54 : Option Addr).map (·.add ((1 : Int).toNat * 5))) := ⟨_, rfl⟩
         obtain ⟨c53, hc53⟩ : ∃ c1, c1 = co54 - (1 : Int).toNat := ⟨_, rfl⟩
         have hy53 : y468.length = t465.length - (1 : Int).toNat := (by rw [Ny468.out, List.length_drop] <;> omega)
         rw [show (t465).drop (1 : Int).toNat = y468 from Ny468.out.symm] at hr53
         replace hr53 : Kd.F k38 _ _ A53 y468.length y468 := (by rw [hA53]; exact hr53)
         rw [← hy53, ← hA53, ← hc53] at hcut53
         have HO472 := am (show Kd.V k38 38 _ w.heap.size _ (.slice A53 y468.length c53) y468 from Kd.V_mk (by rw [hy53, hc53]; exact Nat.sub_le_sub_right hroom53 _) hr53)
         have HC472 := am (show y468.length ≤ c53 from by rw [hy53, hc53]; exact Nat.sub_le_sub_right hroom53 _)
         clear hr53 hC53 hroom53 hi053 hsz53 hc53
         have KY53 := am hy53
         have KA53 := am hA53
         clear hy53 hA53
         replace q53 := eq_true q53
         refine hK.out _ _ trivial (fun hHeld => ?_)
         clear hK K
         refine norm_ (a' := ?_) ?_ ?_
         rotate_left
         ·show Act.put _ (some 37) _ = _
          simp only [Act.put, List.setIfInBounds_toArray, List.set_cons_zero, List.set_cons_succ, i64_w, i32_w]
          rfl
         refine pure_ (i := 1) (N := some 38) (v := ?_) (a' := ?_) (tf 2 7) rfl rfl (any_of HT_.out (by kernel_rfl)) (fun _ _ _ h => h) (Or.inl ⟨by rfl, ?_⟩) ?_ ?_
         rotate_left
         ·intro w'
          go_simp
          with_reducible rfl
         rotate_left
         ·simp only [Act.put, List.setIfInBounds_toArray, List.set_cons_zero, List.set_cons_succ, i64_w, i32_w]
          rfl
         refine one_ (i := 2) (N := some 39) (tf 3 6) rfl rfl (one_of HT_.out (by kernel_rfl)) (by decide) (fun K hK => ?_)
         refine goes_ Tryz.func15 (by kernel_rfl) rfl #[] (by rfl) rfl rfl zm ?_
         with_reducible refine (config_All.calls  t473 t474 t475 t478 t481 t484 t487 t488 _ A13.out).mono ?_
         rintro e w55 ⟨v476, v479, v482, v485, rfl, ho0, ho1, ho2, ho3, hb⟩
         refine ⟨_, rfl, ?_⟩
         have n0_ := am (Kd.N_mono (Kd.N_told (Kd.N_told (Kd.N_told (Kd.N_told (Kd.N_old (by exact HO404.out) hb) (Kd.R_base ho0)) (Kd.R_base ho1)) (Kd.R_base ho2)) (zn ho3)) (fun _ h_ => h_.1))
         have n1_ := am (Kd.R_mono (Kd.R_told (Kd.R_told (Kd.R_told (Kd.R_old (by exact HO409.out) hb) (Kd.R_base ho0)) (Kd.R_base ho1)) (Kd.R_base ho2)) (fun _ h_ => h_.1))
         have n2_ := am (Kd.R_mono (Kd.R_told (Kd.R_told (Kd.R_told (Kd.R_old (by exact HO412.out) hb) (Kd.R_base ho0)) (Kd.R_base ho1)) (Kd.R_base ho2)) (fun _ h_ => h_.1))
         have n3_ := am (Kd.R_mono (Kd.R_told (Kd.R_told (Kd.R_told (Kd.R_old (by exact HO415.out) hb) (Kd.R_base ho0)) (Kd.R_base ho1)) (Kd.R_base ho2)) (fun _ h_ => h_.1))
         have n4_ := am (Kd.N_mono (Kd.N_told (Kd.N_told (Kd.N_told (Kd.N_told (Kd.N_old (by exact HO418.out) hb) (Kd.R_base ho0)) (Kd.R_base ho1)) (Kd.R_base ho2)) (zn ho3)) (fun _ h_ => h_.1))
         have n5_ := am (Kd.N_mono (Kd.N_told (Kd.N_told (Kd.N_told (Kd.N_told (Kd.N_old (by exact HO423.out) hb) (Kd.R_base ho0)) (Kd.R_base ho1)) (Kd.R_base ho2)) (zn ho3)) (fun _ h_ => h_.1))
         have n6_ := am (Kd.N_mono (Kd.N_told (Kd.N_told (Kd.N_told (Kd.N_told (Kd.N_old (by exact HO427.out) hb) (Kd.R_base ho0)) (Kd.R_base ho1)) (Kd.R_base ho2)) (zn ho3)) (fun _ h_ => h_.1))
         have n7_ := am (Kd.R_mono (Kd.R_told (Kd.R_told (Kd.R_told (Kd.R_old (by exact HO430.out) hb) (Kd.R_base ho0)) (Kd.R_base ho1)) (Kd.R_base ho2)) (fun _ h_ => h_.1))
         have n8_ := am (Kd.N_mono (Kd.N_told (Kd.N_told (Kd.N_told (Kd.N_told (Kd.N_old (by exact HO433.out) hb) (Kd.R_base ho0)) (Kd.R_base ho1)) (Kd.R_base ho2)) (zn ho3)) (fun _ h_ => h_.1))
         have n9_ := am (Kd.N_mono (Kd.N_told (Kd.N_told (Kd.N_told (Kd.N_told (Kd.N_old (by exact HO437.out) hb) (Kd.R_base ho0)) (Kd.R_base ho1)) (Kd.R_base ho2)) (zn ho3)) (fun _ h_ => h_.1))
         have n10_ := am (Kd.R_mono (Kd.R_told (Kd.R_told (Kd.R_told (Kd.R_old (by exact HO442.out) hb) (Kd.R_base ho0)) (Kd.R_base ho1)) (Kd.R_base ho2)) (fun _ h_ => h_.1))
         have n11_ := am (Kd.R_mono (Kd.R_told (Kd.R_told (Kd.R_told (Kd.R_old (by exact HO445.out) hb) (Kd.R_base ho0)) (Kd.R_base ho1)) (Kd.R_base ho2)) (fun _ h_ => h_.1))
         have n12_ := am (Kd.R_mono (Kd.R_told (Kd.R_told (Kd.R_told (Kd.R_old (by exact HO448.out) hb) (Kd.R_base ho0)) (Kd.R_base ho1)) (Kd.R_base ho2)) (fun _ h_ => h_.1))
         have n13_ := am (Kd.N_mono (Kd.N_told (Kd.N_told (Kd.N_told (Kd.N_told (Kd.N_old (by exact HO451.out) hb) (Kd.R_base ho0)) (Kd.R_base ho1)) (Kd.R_base ho2)) (zn ho3)) (fun _ h_ => h_.1))
         have n14_ := am (Kd.N_mono (Kd.N_told (Kd.N_told (Kd.N_told (Kd.N_told (Kd.N_old (by exact HO456.out) hb) (Kd.R_base ho0)) (Kd.R_base ho1)) (Kd.R_base ho2)) (zn ho3)) (fun _ h_ => h_.1))
         have n15_ := am (Kd.N_mono (Kd.N_told (Kd.N_told (Kd.N_told (Kd.N_told (Kd.N_old (by exact HO460.out) hb) (Kd.R_base ho0)) (Kd.R_base ho1)) (Kd.R_base ho2)) (zn ho3)) (fun _ h_ => h_.1))
         have n16_ := am (Kd.N_mono (Kd.N_told (Kd.N_told (Kd.N_told (Kd.N_told (Kd.N_old (by exact HO463.out) hb) (Kd.R_base ho0)) (Kd.R_base ho1)) (Kd.R_base ho2)) (zn ho3)) (fun _ h_ => h_.1))
         have n17_ := am (Kd.N_mono (Kd.N_told (Kd.N_told (Kd.N_told (Kd.N_told (Kd.N_old (by exact HO467.out) hb) (Kd.R_base ho0)) (Kd.R_base ho1)) (Kd.R_base ho2)) (zn ho3)) (fun _ h_ => h_.1))
         have n18_ := am (Kd.V_mono (Kd.V_told (Kd.V_told (Kd.V_told (Kd.V_told (Kd.V_old (by exact HO472.out) hb) (Kd.R_base ho0)) (Kd.R_base ho1)) (Kd.R_base ho2)) (zn ho3)) (fun _ h_ => h_.1))
         have n19_ := am (Kd.R_lower (Kd.R_new' (Kd.R_new' (Kd.R_new' (Kd.R_new' (Kd.R_new' (Kd.R_new' (Kd.R_new' ho0 (Kd.R_lt (by exact HO409.out))) (Kd.R_lt (by exact HO412.out))) (Kd.R_lt (by exact HO415.out))) (Kd.R_lt (by exact HO430.out))) (Kd.R_lt (by exact HO442.out))) (Kd.R_lt (by exact HO445.out))) (Kd.R_lt (by exact HO448.out))) (below_size (zb HB)))
         have n20_ := am (Kd.R_lower (Kd.R_new' (Kd.R_new' (Kd.R_new' (Kd.R_new' (Kd.R_new' (Kd.R_new' (Kd.R_new' ho1 (Kd.R_lt (by exact HO409.out))) (Kd.R_lt (by exact HO412.out))) (Kd.R_lt (by exact HO415.out))) (Kd.R_lt (by exact HO430.out))) (Kd.R_lt (by exact HO442.out))) (Kd.R_lt (by exact HO445.out))) (Kd.R_lt (by exact HO448.out))) (below_size (zb HB)))
         have n21_ := am (Kd.R_lower (Kd.R_new' (Kd.R_new' (Kd.R_new' (Kd.R_new' (Kd.R_new' (Kd.R_new' (Kd.R_new' ho2 (Kd.R_lt (by exact HO409.out))) (Kd.R_lt (by exact HO412.out))) (Kd.R_lt (by exact HO415.out))) (Kd.R_lt (by exact HO430.out))) (Kd.R_lt (by exact HO442.out))) (Kd.R_lt (by exact HO445.out))) (Kd.R_lt (by exact HO448.out))) (below_size (zb HB)))
         have n22_ := am (Kd.N_lower (Kd.N_mono (ok' := fun _ => True) (Kd.S_N (Kd.S_bound ho3)) (fun _ _ => trivial)) (below_size (zb HB)))
         have n23_ := am (below_step (zb HB) hb)
         clear HO404
         clear HO409
         clear HO412
         clear HO415
         clear HO418
         clear HO423
         clear HO427
         clear HO430
         clear HO433
         clear HO437
         clear HO442
         clear HO445
         clear HO448
         clear HO451
         clear HO456
         clear HO460
         clear HO463
         clear HO467
         clear HO472
         clear HB
         have HO404 := n0_
         have HO409 := n1_
         have HO412 := n2_
         have HO415 := n3_
         have HO418 := n4_
         have HO423 := n5_
         have HO427 := n6_
         have HO430 := n7_
         have HO433 := n8_
         have HO437 := n9_
         have HO442 := n10_
         have HO445 := n11_
         have HO448 := n12_
         have HO451 := n13_
         have HO456 := n14_
         have HO460 := n15_
         have HO463 := n16_
         have HO467 := n17_
         have HO472 := n18_
         have HO477 := n19_
         have HO480 := n20_
         have HO483 := n21_
         have HO486 := n22_
         have HB := n23_
         clear n0_ n1_ n2_ n3_ n4_ n5_ n6_ n7_ n8_ n9_ n10_ n11_ n12_ n13_ n14_ n15_ n16_ n17_ n18_ n19_ n20_ n21_ n22_ n23_
         (try clear hb)
         (try clear ho0)
         (try clear ho1)
         (try clear ho2)
         (try clear ho3)
         obtain ⟨Ao56, co56, eo56⟩ := Kd.R_slice HO477.out
         (first | subst eo56 | (injection eo56 with f1_ f2_ f3_; have f4_ := f1_.symm; have f5_ := f3_.symm; clear f1_ f2_ f3_; subst f4_; subst f5_))
         obtain ⟨Ao57, co57, eo57⟩ := Kd.R_slice HO480.out
         (first | subst eo57 | (injection eo57 with f1_ f2_ f3_; have f4_ := f1_.symm; have f5_ := f3_.symm; clear f1_ f2_ f3_; subst f4_; subst f5_))
         obtain ⟨Ao58, co58, eo58⟩ := Kd.R_slice HO483.out
         (first | subst eo58 | (injection eo58 with f1_ f2_ f3_; have f4_ := f1_.symm; have f5_ := f3_.symm; clear f1_ f2_ f3_; subst f4_; subst f5_))
         obtain ⟨Ao59, co59, eo59⟩ := Kd.N_slice HO486.out
         (first | subst eo59 | (injection eo59 with f1_ f2_ f3_; have f4_ := f1_.symm; have f5_ := f3_.symm; clear f1_ f2_ f3_; subst f4_; subst f5_))
         refine hK.out _ _ trivial (fun hHeld => ?_)
         clear hK K
         refine norm_ (a' := ?_) ?_ ?_
         rotate_left
         ·show Act.put _ (some 39) _ = _
          simp only [Act.put, List.setIfInBounds_toArray, List.set_cons_zero, List.set_cons_succ, i64_w, i32_w]
          rfl
         refine one_ (i := 3) (N := some 40) (tf 4 5) rfl rfl (one_of HT_.out (by kernel_rfl)) (by decide) (fun K hK => ?_)
         refine goes_ Tryz.func14 (by kernel_rfl) rfl #[.slice A53 y468.length c53, .agg #[.bool t473, .bool t474, .slice Ao56 t475.length co56, .slice Ao57 t478.length co57, .slice Ao58 t481.length co58, .slice Ao59 t484.length co59, .bool t487, .bool t488], .bool true] (by rfl) rfl rfl zm ?_
         with_reducible refine (clean_Rows.calls k _ _ y468 t473 t474 _ _ t475 _ _ t478 _ _ t481 _ _ t484 t487 t488 true t489 t492 _ ?side1 ?side2 ?side3 ?side4 ?side5 ?side6 ?side7 ?side8 ?side9 ?side10 A14.out).mono ?_
         (case side1 => exact zc (Kd.V_reads' HO472.out).2.2)
         (case side2 => exact (Kd.V_reads' HO472.out).2.1)
         (case side3 => exact zc (Kd.R_reads' HO477.out).2.2)
         (case side4 => exact (Kd.R_reads' HO477.out).2.1)
         (case side5 => exact zc (Kd.R_reads' HO480.out).2.2)
         (case side6 => exact (Kd.R_reads' HO480.out).2.1)
         (case side7 => exact zc (Kd.R_reads' HO483.out).2.2)
         (case side8 => exact (Kd.R_reads' HO483.out).2.1)
         (case side9 => exact zc (Kd.N_reads' HO486.out).2.2)
         (case side10 => exact (Kd.N_reads' HO486.out).2.1)
         rintro e w60 ⟨v490, rfl, ho0, hb⟩
         refine ⟨_, rfl, ?_⟩
         have n0_ := am (Kd.N_elder' (by exact HO404.out) (zn ho0) hb)
         have n1_ := am (Kd.R_below (by exact HO409.out) hb)
         have n2_ := am (Kd.R_below (by exact HO412.out) hb)
         have n3_ := am (Kd.R_below (by exact HO415.out) hb)
         have n4_ := am (Kd.N_elder' (by exact HO418.out) (zn ho0) hb)
         have n5_ := am (Kd.N_elder' (by exact HO423.out) (zn ho0) hb)
         have n6_ := am (Kd.N_elder' (by exact HO427.out) (zn ho0) hb)
         have n7_ := am (Kd.R_below (by exact HO430.out) hb)
         have n8_ := am (Kd.N_elder' (by exact HO433.out) (zn ho0) hb)
         have n9_ := am (Kd.N_elder' (by exact HO437.out) (zn ho0) hb)
         have n10_ := am (Kd.R_below (by exact HO442.out) hb)
         have n11_ := am (Kd.R_below (by exact HO445.out) hb)
         have n12_ := am (Kd.R_below (by exact HO448.out) hb)
         have n13_ := am (Kd.N_elder' (by exact HO451.out) (zn ho0) hb)
         have n14_ := am (Kd.N_elder' (by exact HO456.out) (zn ho0) hb)
         have n15_ := am (Kd.N_elder' (by exact HO460.out) (zn ho0) hb)
         have n16_ := am (Kd.N_elder' (by exact HO463.out) (zn ho0) hb)
         have n17_ := am (Kd.N_elder' (by exact HO467.out) (zn ho0) hb)
         have n19_ := am (Kd.R_below (by exact HO477.out) hb)
         have n20_ := am (Kd.R_below (by exact HO480.out) hb)
         have n21_ := am (Kd.R_below (by exact HO483.out) hb)
         have n22_ := am (Kd.N_elder' (by exact HO486.out) (zn ho0) hb)
         have n23_ := am (Kd.N_lower (Kd.N_mono (ok' := fun _ => True) ho0 (fun _ _ => trivial)) (below_size (zb HB)))
         have n24_ := am (below_step (zb HB) hb)
         clear HO404
         clear HO409
         clear HO412
         clear HO415
         clear HO418
         clear HO423
         clear HO427
         clear HO430
         clear HO433
         clear HO437
         clear HO442
         clear HO445
         clear HO448
         clear HO451
         clear HO456
         clear HO460
         clear HO463
         clear HO467
         clear HO472
         clear HO477
         clear HO480
         clear HO483
         clear HO486
         clear HB
         have HO404 := n0_
         have HO409 := n1_
         have HO412 := n2_
         have HO415 := n3_
         have HO418 := n4_
         have HO423 := n5_
         have HO427 := n6_
         have HO430 := n7_
         have HO433 := n8_
         have HO437 := n9_
         have HO442 := n10_
         have HO445 := n11_
         have HO448 := n12_
         have HO451 := n13_
         have HO456 := n14_
         have HO460 := n15_
         have HO463 := n16_
         have HO467 := n17_
         have HO477 := n19_
         have HO480 := n20_
         have HO483 := n21_
         have HO486 := n22_
         have HO491 := n23_
         have HB := n24_
         clear n0_ n1_ n2_ n3_ n4_ n5_ n6_ n7_ n8_ n9_ n10_ n11_ n12_ n13_ n14_ n15_ n16_ n17_ n19_ n20_ n21_ n22_ n23_ n24_
         (try clear hb)
         (try clear ho0)
         refine hK.out _ _ trivial (fun hHeld => ?_)
         clear hK K
         refine norm_ (a' := ?_) ?_ ?_
         rotate_left
         ·show Act.put _ (some 40) _ = _
          simp only [Act.put, List.setIfInBounds_toArray, List.set_cons_zero, List.set_cons_succ, i64_w, i32_w]
          rfl
         refine pure_ (i := 4) (N := some 36) (v := ?_) (a' := ?_) (tf 5 4) rfl rfl (any_of HT_.out (by kernel_rfl)) (fun _ _ _ h => h) (Or.inl ⟨by rfl, ?_⟩) ?_ ?_
         rotate_left
         ·intro w'
          go_simp
          with_reducible rfl
         rotate_left
         ·simp only [Act.put, List.setIfInBounds_toArray, List.set_cons_zero, List.set_cons_succ, i64_w, i32_w]
          rfl
         refine pure_ (i := 5) (N := some 41) (v := ?_) (a' := ?_) (tf 6 3) rfl rfl (any_of HT_.out (by kernel_rfl)) (fun _ _ _ h => h) (Or.inl ⟨by rfl, ?_⟩) ?_ ?_
         rotate_left
         ·intro w'
          go_simp
          with_reducible rfl
         rotate_left
         ·simp only [Act.put, List.setIfInBounds_toArray, List.set_cons_zero, List.set_cons_succ, i64_w, i32_w]
          rfl
         refine pure_ (i := 6) (N := some 42) (v := ?_) (a' := ?_) (tf 7 2) rfl rfl (any_of HT_.out (by kernel_rfl)) (fun _ _ _ h => h) (Or.inl ⟨by rfl, ?_⟩) ?_ ?_
         rotate_left
         ·intro w'
          go_simp
          with_reducible rfl
         rotate_left
         ·simp only [Act.put, List.setIfInBounds_toArray, List.set_cons_zero, List.set_cons_succ, i64_w, i32_w]
          rfl
         refine pure_ (i := 7) (N := some 9) (v := ?_) (a' := ?_) (tf 8 1) rfl rfl (any_of HT_.out (by kernel_rfl)) (fun _ _ _ h => h) (Or.inl ⟨by rfl, ?_⟩) ?_ ?_
         rotate_left
         ·intro w'
          go_simp
          with_reducible rfl
         rotate_left
         ·simp only [Act.put, List.setIfInBounds_toArray, List.set_cons_zero, List.set_cons_succ, i64_w, i32_w]
          rfl
         refine pure_ (i := 8) (N := some 10) (v := ?_) (a' := ?_) (tf 9 0) rfl rfl (any_of HT_.out (by kernel_rfl)) (fun _ _ _ h => h) (Or.inl ⟨by rfl, ?_⟩) ?_ ?_
         rotate_left
         ·intro w'
          go_simp
          with_reducible rfl
         rotate_left
         ·simp only [Act.put, List.setIfInBounds_toArray, List.set_cons_zero, List.set_cons_succ, i64_w, i32_w]
          rfl
         refine done_ (done_of HT_.out (by kernel_rfl)) ?_
         try go_wp2_with (first | ((with_reducible refine gate_dst (N := 45) rfl ?_); (try (refine gate_guard (by rfl) ?_; dsimp only)); refine Kd.R_lit k45 _ 45 ?hg (N := 45) ?hd (xs := ([(⟨(⟨#[105, 100]⟩ : ByteArray), (⟨#[]⟩ : ByteArray)⟩ : S45)] : List (S45))) (inner := [.string (⟨#[105, 100]⟩ : ByteArray), .string (⟨#[]⟩ : ByteArray)]) (ok := fun _ => True) (okp := fun _ => True) ?hr ?hp (fun _ hk => hk) trivial (Below.refl _ _) (Nat.le_refl _) (by simp) ?_; (case hd => rfl); (case hg => rfl); (case hr => first | (go_simp; done) | (go_simp; rfl)); (case hp => exact (Reps.c2 (show Kd.M k45 _ _ _ (⟨(⟨#[105, 100]⟩ : ByteArray), (⟨#[]⟩ : ByteArray)⟩ : S45) [.string (⟨#[105, 100]⟩ : ByteArray), .string (⟨#[]⟩ : ByteArray)] from (k45_mkM _ _ _ (⟨(⟨#[105, 100]⟩ : ByteArray), (⟨#[]⟩ : ByteArray)⟩ : S45) )) (Reps.none _ _))); intro v494 w61 ho62 hb hg_ hnew_; clear hg_ hnew_; (first | rw [← Ny493.out] at ho62 | (simp only [Int.reduceToNat] at ho62; rw [← Ny493.out] at ho62)); have n0_ := am (Kd.N_elder' (by exact HO404.out) (Kd.R_base ho62) hb); have n1_ := am (Kd.R_below (by exact HO409.out) hb); have n2_ := am (Kd.R_below (by exact HO412.out) hb); have n3_ := am (Kd.R_below (by exact HO415.out) hb); have n4_ := am (Kd.N_elder' (by exact HO418.out) (Kd.R_base ho62) hb); have n5_ := am (Kd.N_elder' (by exact HO423.out) (Kd.R_base ho62) hb); have n6_ := am (Kd.N_elder' (by exact HO427.out) (Kd.R_base ho62) hb); have n7_ := am (Kd.R_below (by exact HO430.out) hb); have n8_ := am (Kd.N_elder' (by exact HO433.out) (Kd.R_base ho62) hb); have n9_ := am (Kd.N_elder' (by exact HO437.out) (Kd.R_base ho62) hb); have n10_ := am (Kd.R_below (by exact HO442.out) hb); have n11_ := am (Kd.R_below (by exact HO445.out) hb); have n12_ := am (Kd.R_below (by exact HO448.out) hb); have n13_ := am (Kd.N_elder' (by exact HO451.out) (Kd.R_base ho62) hb); have n14_ := am (Kd.N_elder' (by exact HO456.out) (Kd.R_base ho62) hb); have n15_ := am (Kd.N_elder' (by exact HO460.out) (Kd.R_base ho62) hb); have n16_ := am (Kd.N_elder' (by exact HO463.out) (Kd.R_base ho62) hb); have n17_ := am (Kd.N_elder' (by exact HO467.out) (Kd.R_base ho62) hb); have n19_ := am (Kd.R_below (by exact HO477.out) hb); have n20_ := am (Kd.R_below (by exact HO480.out) hb); have n21_ := am (Kd.R_below (by exact HO483.out) hb); have n22_ := am (Kd.N_elder' (by exact HO486.out) (Kd.R_base ho62) hb); have n23_ := am (Kd.N_elder' (by exact HO491.out) (Kd.R_base ho62) hb); have n24_ := am (Kd.R_lower ho62 (below_size (zb HB))); have n25_ := am (below_step (zb HB) hb); clear HO404; clear HO409; clear HO412; clear HO415; clear HO418; clear HO423; clear HO427; clear HO430; clear HO433; clear HO437; clear HO442; clear HO445; clear HO448; clear HO451; clear HO456; clear HO460; clear HO463; clear HO467; clear HO477; clear HO480; clear HO483; clear HO486; clear HO491; clear HB; have HO404 := n0_; have HO409 := n1_; have HO412 := n2_; have HO415 := n3_; have HO418 := n4_; have HO423 := n5_; have HO427 := n6_; have HO430 := n7_; have HO433 := n8_; have HO437 := n9_; have HO442 := n10_; have HO445 := n11_; have HO448 := n12_; have HO451 := n13_; have HO456 := n14_; have HO460 := n15_; have HO463 := n16_; have HO467 := n17_; have HO477 := n19_; have HO480 := n20_; have HO483 := n21_; have HO486 := n22_; have HO491 := n23_; have HO495 := n24_; have HB := n25_; clear n0_ n1_ n2_ n3_ n4_ n5_ n6_ n7_ n8_ n9_ n10_ n11_ n12_ n13_ n14_ n15_ n16_ n17_ n19_ n20_ n21_ n22_ n23_ n24_ n25_; clear hb ho62; obtain ⟨Ao63, co63, eo63⟩ := Kd.R_slice HO495.out; subst eo63) | ((with_reducible refine gate_dst (N := 48) rfl ?_); (try (refine gate_guard (by rfl) ?_; dsimp only)); refine Kd.N_lit k38 _ 38 ?hg (N' := 48) ?hd (xs := ([(⟨0, 0, (⟨#[98]⟩ : ByteArray), (⟨#[]⟩ : ByteArray), y493⟩ : S38), (⟨1, 1, (⟨#[]⟩ : ByteArray), (⟨#[97]⟩ : ByteArray), ([] : List (S45))⟩ : S38)] : List (S38))) (inner := [.int .i64 0, .int .i64 0, .string (⟨#[98]⟩ : ByteArray), .string (⟨#[]⟩ : ByteArray), .slice Ao63 y493.length co63, .int .i64 1, .int .i64 1, .string (⟨#[]⟩ : ByteArray), .string (⟨#[97]⟩ : ByteArray), .slice none 0 0]) (ok := (fun k_ => some k_ ≠ (.slice Ao28 t402.length co28 : Value).ownBlock ∧ some k_ ≠ (.slice Ao29 t407.length co29 : Value).ownBlock ∧ some k_ ≠ (.slice Ao30 t410.length co30 : Value).ownBlock ∧ some k_ ≠ (.slice Ao31 t413.length co31 : Value).ownBlock ∧ some k_ ≠ (.slice Ao32 t416.length co32 : Value).ownBlock ∧ some k_ ≠ (v422 : Value).ownBlock ∧ some k_ ≠ (.slice Ao38 t425.length co38 : Value).ownBlock ∧ some k_ ≠ (.slice Ao37 y428.length co37 : Value).ownBlock ∧ some k_ ≠ (v432 : Value).ownBlock ∧ some k_ ≠ (.slice Ao42 t435.length co42 : Value).ownBlock ∧ some k_ ≠ (.slice Ao43 t440.length co43 : Value).ownBlock ∧ some k_ ≠ (.slice Ao44 t443.length co44 : Value).ownBlock ∧ some k_ ≠ (.slice Ao45 t446.length co45 : Value).ownBlock ∧ some k_ ≠ (.slice Ao46 t449.length co46 : Value).ownBlock ∧ some k_ ≠ (v455 : Value).ownBlock ∧ some k_ ≠ (.slice Ao49 t458.length co49 : Value).ownBlock ∧ some k_ ≠ (v462 : Value).ownBlock ∧ some k_ ≠ (.slice Ao54 t465.length co54 : Value).ownBlock ∧ some k_ ≠ (.slice Ao56 t475.length co56 : Value).ownBlock ∧ some k_ ≠ (.slice Ao57 t478.length co57 : Value).ownBlock ∧ some k_ ≠ (.slice Ao58 t481.length co58 : Value).ownBlock ∧ some k_ ≠ (.slice Ao59 t484.length co59 : Value).ownBlock ∧ some k_ ≠ (v490 : Value).ownBlock)) (okp := (fun k_ => some k_ ≠ (.slice Ao28 t402.length co28 : Value).ownBlock ∧ some k_ ≠ (.slice Ao29 t407.length co29 : Value).ownBlock ∧ some k_ ≠ (.slice Ao30 t410.length co30 : Value).ownBlock ∧ some k_ ≠ (.slice Ao31 t413.length co31 : Value).ownBlock ∧ some k_ ≠ (.slice Ao32 t416.length co32 : Value).ownBlock ∧ some k_ ≠ (v422 : Value).ownBlock ∧ some k_ ≠ (.slice Ao38 t425.length co38 : Value).ownBlock ∧ some k_ ≠ (.slice Ao37 y428.length co37 : Value).ownBlock ∧ some k_ ≠ (v432 : Value).ownBlock ∧ some k_ ≠ (.slice Ao42 t435.length co42 : Value).ownBlock ∧ some k_ ≠ (.slice Ao43 t440.length co43 : Value).ownBlock ∧ some k_ ≠ (.slice Ao44 t443.length co44 : Value).ownBlock ∧ some k_ ≠ (.slice Ao45 t446.length co45 : Value).ownBlock ∧ some k_ ≠ (.slice Ao46 t449.length co46 : Value).ownBlock ∧ some k_ ≠ (v455 : Value).ownBlock ∧ some k_ ≠ (.slice Ao49 t458.length co49 : Value).ownBlock ∧ some k_ ≠ (v462 : Value).ownBlock ∧ some k_ ≠ (.slice Ao54 t465.length co54 : Value).ownBlock ∧ some k_ ≠ (.slice Ao56 t475.length co56 : Value).ownBlock ∧ some k_ ≠ (.slice Ao57 t478.length co57 : Value).ownBlock ∧ some k_ ≠ (.slice Ao58 t481.length co58 : Value).ownBlock ∧ some k_ ≠ (.slice Ao59 t484.length co59 : Value).ownBlock ∧ some k_ ≠ (v490 : Value).ownBlock)) ?hr ?hp (fun _ hk => hk) ((show ∀ k_, w61.heap.size ≤ k_ → (fun k_ => some k_ ≠ (.slice Ao28 t402.length co28 : Value).ownBlock ∧ some k_ ≠ (.slice Ao29 t407.length co29 : Value).ownBlock ∧ some k_ ≠ (.slice Ao30 t410.length co30 : Value).ownBlock ∧ some k_ ≠ (.slice Ao31 t413.length co31 : Value).ownBlock ∧ some k_ ≠ (.slice Ao32 t416.length co32 : Value).ownBlock ∧ some k_ ≠ (v422 : Value).ownBlock ∧ some k_ ≠ (.slice Ao38 t425.length co38 : Value).ownBlock ∧ some k_ ≠ (.slice Ao37 y428.length co37 : Value).ownBlock ∧ some k_ ≠ (v432 : Value).ownBlock ∧ some k_ ≠ (.slice Ao42 t435.length co42 : Value).ownBlock ∧ some k_ ≠ (.slice Ao43 t440.length co43 : Value).ownBlock ∧ some k_ ≠ (.slice Ao44 t443.length co44 : Value).ownBlock ∧ some k_ ≠ (.slice Ao45 t446.length co45 : Value).ownBlock ∧ some k_ ≠ (.slice Ao46 t449.length co46 : Value).ownBlock ∧ some k_ ≠ (v455 : Value).ownBlock ∧ some k_ ≠ (.slice Ao49 t458.length co49 : Value).ownBlock ∧ some k_ ≠ (v462 : Value).ownBlock ∧ some k_ ≠ (.slice Ao54 t465.length co54 : Value).ownBlock ∧ some k_ ≠ (.slice Ao56 t475.length co56 : Value).ownBlock ∧ some k_ ≠ (.slice Ao57 t478.length co57 : Value).ownBlock ∧ some k_ ≠ (.slice Ao58 t481.length co58 : Value).ownBlock ∧ some k_ ≠ (.slice Ao59 t484.length co59 : Value).ownBlock ∧ some k_ ≠ (v490 : Value).ownBlock) k_ from fun k_ hk => ⟨Kd.fresh' (Kd.N_lt (by exact HO404.out)) k_ hk, Kd.fresh' (Kd.R_lt (by exact HO409.out)) k_ hk, Kd.fresh' (Kd.R_lt (by exact HO412.out)) k_ hk, Kd.fresh' (Kd.R_lt (by exact HO415.out)) k_ hk, Kd.fresh' (Kd.N_lt (by exact HO418.out)) k_ hk, Kd.fresh' (Kd.N_lt (by exact HO423.out)) k_ hk, Kd.fresh' (Kd.N_lt (by exact HO427.out)) k_ hk, Kd.fresh' (Kd.R_lt (by exact HO430.out)) k_ hk, Kd.fresh' (Kd.N_lt (by exact HO433.out)) k_ hk, Kd.fresh' (Kd.N_lt (by exact HO437.out)) k_ hk, Kd.fresh' (Kd.R_lt (by exact HO442.out)) k_ hk, Kd.fresh' (Kd.R_lt (by exact HO445.out)) k_ hk, Kd.fresh' (Kd.R_lt (by exact HO448.out)) k_ hk, Kd.fresh' (Kd.N_lt (by exact HO451.out)) k_ hk, Kd.fresh' (Kd.N_lt (by exact HO456.out)) k_ hk, Kd.fresh' (Kd.N_lt (by exact HO460.out)) k_ hk, Kd.fresh' (Kd.N_lt (by exact HO463.out)) k_ hk, Kd.fresh' (Kd.N_lt (by exact HO467.out)) k_ hk, Kd.fresh' (Kd.R_lt (by exact HO477.out)) k_ hk, Kd.fresh' (Kd.R_lt (by exact HO480.out)) k_ hk, Kd.fresh' (Kd.R_lt (by exact HO483.out)) k_ hk, Kd.fresh' (Kd.N_lt (by exact HO486.out)) k_ hk, Kd.fresh' (Kd.N_lt (by exact HO491.out)) k_ hk⟩) _ (Nat.le_refl _)) (Below.refl _ _) (Nat.le_refl _) (by simp) ?_; (case hd => rfl); (case hg => rfl); (case hr => first | (go_simp; done) | (go_simp; rfl)); (case hp => exact (Reps.c5 (show Kd.FK k38 _ _ (⟨0, 0, (⟨#[98]⟩ : ByteArray), (⟨#[]⟩ : ByteArray), y493⟩ : S38) [.int .i64 0, .int .i64 0, .string (⟨#[98]⟩ : ByteArray), .string (⟨#[]⟩ : ByteArray), .slice Ao63 y493.length co63] from (k38_mkF _ _ (⟨0, 0, (⟨#[98]⟩ : ByteArray), (⟨#[]⟩ : ByteArray), y493⟩ : S38) (Kd.R_reads' (Kd.R_mono (ok' := (fun k_ => some k_ ≠ (.slice Ao28 t402.length co28 : Value).ownBlock ∧ some k_ ≠ (.slice Ao29 t407.length co29 : Value).ownBlock ∧ some k_ ≠ (.slice Ao30 t410.length co30 : Value).ownBlock ∧ some k_ ≠ (.slice Ao31 t413.length co31 : Value).ownBlock ∧ some k_ ≠ (.slice Ao32 t416.length co32 : Value).ownBlock ∧ some k_ ≠ (v422 : Value).ownBlock ∧ some k_ ≠ (.slice Ao38 t425.length co38 : Value).ownBlock ∧ some k_ ≠ (.slice Ao37 y428.length co37 : Value).ownBlock ∧ some k_ ≠ (v432 : Value).ownBlock ∧ some k_ ≠ (.slice Ao42 t435.length co42 : Value).ownBlock ∧ some k_ ≠ (.slice Ao43 t440.length co43 : Value).ownBlock ∧ some k_ ≠ (.slice Ao44 t443.length co44 : Value).ownBlock ∧ some k_ ≠ (.slice Ao45 t446.length co45 : Value).ownBlock ∧ some k_ ≠ (.slice Ao46 t449.length co46 : Value).ownBlock ∧ some k_ ≠ (v455 : Value).ownBlock ∧ some k_ ≠ (.slice Ao49 t458.length co49 : Value).ownBlock ∧ some k_ ≠ (v462 : Value).ownBlock ∧ some k_ ≠ (.slice Ao54 t465.length co54 : Value).ownBlock ∧ some k_ ≠ (.slice Ao56 t475.length co56 : Value).ownBlock ∧ some k_ ≠ (.slice Ao57 t478.length co57 : Value).ownBlock ∧ some k_ ≠ (.slice Ao58 t481.length co58 : Value).ownBlock ∧ some k_ ≠ (.slice Ao59 t484.length co59 : Value).ownBlock ∧ some k_ ≠ (v490 : Value).ownBlock)) (Kd.R_apart' (Kd.R_apart' (Kd.R_apart' (Kd.R_apart' (Kd.R_apart' (Kd.R_apart' (Kd.R_apart' (Kd.R_apart' (Kd.R_apart' (Kd.R_apart' (Kd.R_apart' (Kd.R_apart' (Kd.R_apart' (Kd.R_apart' (Kd.R_apart' (Kd.R_apart' (Kd.R_apart' (Kd.R_apart' (Kd.R_apart' (Kd.R_apart' (Kd.R_apart' (Kd.R_apart' (Kd.R_apart' (HO495.out) (Kd.N_typed HO404.out) (by decide)) (Kd.R_typed HO409.out) (by decide)) (Kd.R_typed HO412.out) (by decide)) (Kd.R_typed HO415.out) (by decide)) (Kd.N_typed HO418.out) (by decide)) (Kd.N_typed HO423.out) (by decide)) (Kd.N_typed HO427.out) (by decide)) (Kd.R_typed HO430.out) (by decide)) (Kd.N_typed HO433.out) (by decide)) (Kd.N_typed HO437.out) (by decide)) (Kd.R_typed HO442.out) (by decide)) (Kd.R_typed HO445.out) (by decide)) (Kd.R_typed HO448.out) (by decide)) (Kd.N_typed HO451.out) (by decide)) (Kd.N_typed HO456.out) (by decide)) (Kd.N_typed HO460.out) (by decide)) (Kd.N_typed HO463.out) (by decide)) (Kd.N_typed HO467.out) (by decide)) (Kd.R_typed HO477.out) (by decide)) (Kd.R_typed HO480.out) (by decide)) (Kd.R_typed HO483.out) (by decide)) (Kd.N_typed HO486.out) (by decide)) (Kd.N_typed HO491.out) (by decide)) (fun k_ hk => ⟨hk.1.1.1.1.1.1.1.1.1.1.1.1.1.1.1.1.1.1.1.1.1.1.2, ⟨hk.1.1.1.1.1.1.1.1.1.1.1.1.1.1.1.1.1.1.1.1.1.2, ⟨hk.1.1.1.1.1.1.1.1.1.1.1.1.1.1.1.1.1.1.1.1.2, ⟨hk.1.1.1.1.1.1.1.1.1.1.1.1.1.1.1.1.1.1.1.2, ⟨hk.1.1.1.1.1.1.1.1.1.1.1.1.1.1.1.1.1.1.2, ⟨hk.1.1.1.1.1.1.1.1.1.1.1.1.1.1.1.1.1.2, ⟨hk.1.1.1.1.1.1.1.1.1.1.1.1.1.1.1.1.2, ⟨hk.1.1.1.1.1.1.1.1.1.1.1.1.1.1.1.2, ⟨hk.1.1.1.1.1.1.1.1.1.1.1.1.1.1.2, ⟨hk.1.1.1.1.1.1.1.1.1.1.1.1.1.2, ⟨hk.1.1.1.1.1.1.1.1.1.1.1.1.2, ⟨hk.1.1.1.1.1.1.1.1.1.1.1.2, ⟨hk.1.1.1.1.1.1.1.1.1.1.2, ⟨hk.1.1.1.1.1.1.1.1.1.2, ⟨hk.1.1.1.1.1.1.1.1.2, ⟨hk.1.1.1.1.1.1.1.2, ⟨hk.1.1.1.1.1.1.2, ⟨hk.1.1.1.1.1.2, ⟨hk.1.1.1.1.2, ⟨hk.1.1.1.2, ⟨hk.1.1.2, ⟨hk.1.2, hk.2⟩⟩⟩⟩⟩⟩⟩⟩⟩⟩⟩⟩⟩⟩⟩⟩⟩⟩⟩⟩⟩⟩))).2.1 (Kd.R_F (Kd.R_mono (ok' := (fun k_ => some k_ ≠ (.slice Ao28 t402.length co28 : Value).ownBlock ∧ some k_ ≠ (.slice Ao29 t407.length co29 : Value).ownBlock ∧ some k_ ≠ (.slice Ao30 t410.length co30 : Value).ownBlock ∧ some k_ ≠ (.slice Ao31 t413.length co31 : Value).ownBlock ∧ some k_ ≠ (.slice Ao32 t416.length co32 : Value).ownBlock ∧ some k_ ≠ (v422 : Value).ownBlock ∧ some k_ ≠ (.slice Ao38 t425.length co38 : Value).ownBlock ∧ some k_ ≠ (.slice Ao37 y428.length co37 : Value).ownBlock ∧ some k_ ≠ (v432 : Value).ownBlock ∧ some k_ ≠ (.slice Ao42 t435.length co42 : Value).ownBlock ∧ some k_ ≠ (.slice Ao43 t440.length co43 : Value).ownBlock ∧ some k_ ≠ (.slice Ao44 t443.length co44 : Value).ownBlock ∧ some k_ ≠ (.slice Ao45 t446.length co45 : Value).ownBlock ∧ some k_ ≠ (.slice Ao46 t449.length co46 : Value).ownBlock ∧ some k_ ≠ (v455 : Value).ownBlock ∧ some k_ ≠ (.slice Ao49 t458.length co49 : Value).ownBlock ∧ some k_ ≠ (v462 : Value).ownBlock ∧ some k_ ≠ (.slice Ao54 t465.length co54 : Value).ownBlock ∧ some k_ ≠ (.slice Ao56 t475.length co56 : Value).ownBlock ∧ some k_ ≠ (.slice Ao57 t478.length co57 : Value).ownBlock ∧ some k_ ≠ (.slice Ao58 t481.length co58 : Value).ownBlock ∧ some k_ ≠ (.slice Ao59 t484.length co59 : Value).ownBlock ∧ some k_ ≠ (v490 : Value).ownBlock)) (Kd.R_apart' (Kd.R_apart' (Kd.R_apart' (Kd.R_apart' (Kd.R_apart' (Kd.R_apart' (Kd.R_apart' (Kd.R_apart' (Kd.R_apart' (Kd.R_apart' (Kd.R_apart' (Kd.R_apart' (Kd.R_apart' (Kd.R_apart' (Kd.R_apart' (Kd.R_apart' (Kd.R_apart' (Kd.R_apart' (Kd.R_apart' (Kd.R_apart' (Kd.R_apart' (Kd.R_apart' (Kd.R_apart' (HO495.out) (Kd.N_typed HO404.out) (by decide)) (Kd.R_typed HO409.out) (by decide)) (Kd.R_typed HO412.out) (by decide)) (Kd.R_typed HO415.out) (by decide)) (Kd.N_typed HO418.out) (by decide)) (Kd.N_typed HO423.out) (by decide)) (Kd.N_typed HO427.out) (by decide)) (Kd.R_typed HO430.out) (by decide)) (Kd.N_typed HO433.out) (by decide)) (Kd.N_typed HO437.out) (by decide)) (Kd.R_typed HO442.out) (by decide)) (Kd.R_typed HO445.out) (by decide)) (Kd.R_typed HO448.out) (by decide)) (Kd.N_typed HO451.out) (by decide)) (Kd.N_typed HO456.out) (by decide)) (Kd.N_typed HO460.out) (by decide)) (Kd.N_typed HO463.out) (by decide)) (Kd.N_typed HO467.out) (by decide)) (Kd.R_typed HO477.out) (by decide)) (Kd.R_typed HO480.out) (by decide)) (Kd.R_typed HO483.out) (by decide)) (Kd.N_typed HO486.out) (by decide)) (Kd.N_typed HO491.out) (by decide)) (fun k_ hk => ⟨hk.1.1.1.1.1.1.1.1.1.1.1.1.1.1.1.1.1.1.1.1.1.1.2, ⟨hk.1.1.1.1.1.1.1.1.1.1.1.1.1.1.1.1.1.1.1.1.1.2, ⟨hk.1.1.1.1.1.1.1.1.1.1.1.1.1.1.1.1.1.1.1.1.2, ⟨hk.1.1.1.1.1.1.1.1.1.1.1.1.1.1.1.1.1.1.1.2, ⟨hk.1.1.1.1.1.1.1.1.1.1.1.1.1.1.1.1.1.1.2, ⟨hk.1.1.1.1.1.1.1.1.1.1.1.1.1.1.1.1.1.2, ⟨hk.1.1.1.1.1.1.1.1.1.1.1.1.1.1.1.1.2, ⟨hk.1.1.1.1.1.1.1.1.1.1.1.1.1.1.1.2, ⟨hk.1.1.1.1.1.1.1.1.1.1.1.1.1.1.2, ⟨hk.1.1.1.1.1.1.1.1.1.1.1.1.1.2, ⟨hk.1.1.1.1.1.1.1.1.1.1.1.1.2, ⟨hk.1.1.1.1.1.1.1.1.1.1.1.2, ⟨hk.1.1.1.1.1.1.1.1.1.1.2, ⟨hk.1.1.1.1.1.1.1.1.1.2, ⟨hk.1.1.1.1.1.1.1.1.2, ⟨hk.1.1.1.1.1.1.1.2, ⟨hk.1.1.1.1.1.1.2, ⟨hk.1.1.1.1.1.2, ⟨hk.1.1.1.1.2, ⟨hk.1.1.1.2, ⟨hk.1.1.2, ⟨hk.1.2, hk.2⟩⟩⟩⟩⟩⟩⟩⟩⟩⟩⟩⟩⟩⟩⟩⟩⟩⟩⟩⟩⟩⟩))))) (Reps.c5 (show Kd.FK k38 _ _ (⟨1, 1, (⟨#[]⟩ : ByteArray), (⟨#[97]⟩ : ByteArray), ([] : List (S45))⟩ : S38) [.int .i64 1, .int .i64 1, .string (⟨#[]⟩ : ByteArray), .string (⟨#[97]⟩ : ByteArray), .slice none 0 0] from (k38_mkF _ _ (⟨1, 1, (⟨#[]⟩ : ByteArray), (⟨#[97]⟩ : ByteArray), ([] : List (S45))⟩ : S38) (Nat.le_refl _) (Kd.F_nil _ _ _))) (Reps.none _ _)))); intro v497 w64 ho65 hb hg_ hnew_; clear hg_ hnew_; (first | rw [← Ny496.out] at ho65 | (simp only [Int.reduceToNat] at ho65; rw [← Ny496.out] at ho65)); have n0_ := am (Kd.N_elder' (by exact HO404.out) (by first | exact Kd.N_base ho65 | exact Kd.N_base (Kd.S_N ho65) | exact Kd.N_base (Kd.S_N (Kd.S_bound ho65))) hb); have n1_ := am (Kd.R_below (by exact HO409.out) hb); have n2_ := am (Kd.R_below (by exact HO412.out) hb); have n3_ := am (Kd.R_below (by exact HO415.out) hb); have n4_ := am (Kd.N_elder' (by exact HO418.out) (by first | exact Kd.N_base ho65 | exact Kd.N_base (Kd.S_N ho65) | exact Kd.N_base (Kd.S_N (Kd.S_bound ho65))) hb); have n5_ := am (Kd.N_elder' (by exact HO423.out) (by first | exact Kd.N_base ho65 | exact Kd.N_base (Kd.S_N ho65) | exact Kd.N_base (Kd.S_N (Kd.S_bound ho65))) hb); have n6_ := am (Kd.N_elder' (by exact HO427.out) (by first | exact Kd.N_base ho65 | exact Kd.N_base (Kd.S_N ho65) | exact Kd.N_base (Kd.S_N (Kd.S_bound ho65))) hb); have n7_ := am (Kd.R_below (by exact HO430.out) hb); have n8_ := am (Kd.N_elder' (by exact HO433.out) (by first | exact Kd.N_base ho65 | exact Kd.N_base (Kd.S_N ho65) | exact Kd.N_base (Kd.S_N (Kd.S_bound ho65))) hb); have n9_ := am (Kd.N_elder' (by exact HO437.out) (by first | exact Kd.N_base ho65 | exact Kd.N_base (Kd.S_N ho65) | exact Kd.N_base (Kd.S_N (Kd.S_bound ho65))) hb); have n10_ := am (Kd.R_below (by exact HO442.out) hb); have n11_ := am (Kd.R_below (by exact HO445.out) hb); have n12_ := am (Kd.R_below (by exact HO448.out) hb); have n13_ := am (Kd.N_elder' (by exact HO451.out) (by first | exact Kd.N_base ho65 | exact Kd.N_base (Kd.S_N ho65) | exact Kd.N_base (Kd.S_N (Kd.S_bound ho65))) hb); have n14_ := am (Kd.N_elder' (by exact HO456.out) (by first | exact Kd.N_base ho65 | exact Kd.N_base (Kd.S_N ho65) | exact Kd.N_base (Kd.S_N (Kd.S_bound ho65))) hb); have n15_ := am (Kd.N_elder' (by exact HO460.out) (by first | exact Kd.N_base ho65 | exact Kd.N_base (Kd.S_N ho65) | exact Kd.N_base (Kd.S_N (Kd.S_bound ho65))) hb); have n16_ := am (Kd.N_elder' (by exact HO463.out) (by first | exact Kd.N_base ho65 | exact Kd.N_base (Kd.S_N ho65) | exact Kd.N_base (Kd.S_N (Kd.S_bound ho65))) hb); have n17_ := am (Kd.N_elder' (by exact HO467.out) (by first | exact Kd.N_base ho65 | exact Kd.N_base (Kd.S_N ho65) | exact Kd.N_base (Kd.S_N (Kd.S_bound ho65))) hb); have n19_ := am (Kd.R_below (by exact HO477.out) hb); have n20_ := am (Kd.R_below (by exact HO480.out) hb); have n21_ := am (Kd.R_below (by exact HO483.out) hb); have n22_ := am (Kd.N_elder' (by exact HO486.out) (by first | exact Kd.N_base ho65 | exact Kd.N_base (Kd.S_N ho65) | exact Kd.N_base (Kd.S_N (Kd.S_bound ho65))) hb); have n23_ := am (Kd.N_elder' (by exact HO491.out) (by first | exact Kd.N_base ho65 | exact Kd.N_base (Kd.S_N ho65) | exact Kd.N_base (Kd.S_N (Kd.S_bound ho65))) hb); have n24_ := am (Kd.N_lower ho65 (below_size (zb HB))); have n25_ := am (below_step (zb HB) hb); clear HO404; clear HO409; clear HO412; clear HO415; clear HO418; clear HO423; clear HO427; clear HO430; clear HO433; clear HO437; clear HO442; clear HO445; clear HO448; clear HO451; clear HO456; clear HO460; clear HO463; clear HO467; clear HO477; clear HO480; clear HO483; clear HO486; clear HO491; clear HB; clear HO495; have HO404 := n0_; have HO409 := n1_; have HO412 := n2_; have HO415 := n3_; have HO418 := n4_; have HO423 := n5_; have HO427 := n6_; have HO430 := n7_; have HO433 := n8_; have HO437 := n9_; have HO442 := n10_; have HO445 := n11_; have HO448 := n12_; have HO451 := n13_; have HO456 := n14_; have HO460 := n15_; have HO463 := n16_; have HO467 := n17_; have HO477 := n19_; have HO480 := n20_; have HO483 := n21_; have HO486 := n22_; have HO491 := n23_; have HO498 := n24_; have HB := n25_; clear n0_ n1_ n2_ n3_ n4_ n5_ n6_ n7_ n8_ n9_ n10_ n11_ n12_ n13_ n14_ n15_ n16_ n17_ n19_ n20_ n21_ n22_ n23_ n24_ n25_; clear hb ho65; obtain ⟨Ao66, co66, eo66⟩ := Kd.N_slice HO423.out; subst eo66; obtain ⟨Ao67, co67, eo67⟩ := Kd.N_slice HO498.out; subst eo67) | ((with_reducible refine gate_callee (f := 16) rfl ?_); refine goesL_ (some 49) rfl rfl Tryz.func16 (by kernel_rfl) rfl #[.slice Ao66 t421.length co66, .slice Ao67 y496.length co67] rfl zm ?_; (with_reducible refine (boltingref04_Same.calls k _ _ t421 _ _ y496 true _ ?side1 ?side2 ?side3 ?side4 A15.out).mono ?_); (case side1 => exact zc (Kd.N_reads' HO423.out).2.2); (case side2 => exact (Kd.N_reads' HO423.out).2.1); (case side3 => exact zc (Kd.N_reads' HO498.out).2.2); (case side4 => exact (Kd.N_reads' HO498.out).2.1); rintro e w68 ⟨rfl, hb⟩; refine ⟨_, rfl, ?_⟩; have n0_ := am (Kd.N_below (by exact HO404.out) hb); have n1_ := am (Kd.R_below (by exact HO409.out) hb); have n2_ := am (Kd.R_below (by exact HO412.out) hb); have n3_ := am (Kd.R_below (by exact HO415.out) hb); have n4_ := am (Kd.N_below (by exact HO418.out) hb); have n5_ := am (Kd.N_below (by exact HO423.out) hb); have n6_ := am (Kd.N_below (by exact HO427.out) hb); have n7_ := am (Kd.R_below (by exact HO430.out) hb); have n8_ := am (Kd.N_below (by exact HO433.out) hb); have n9_ := am (Kd.N_below (by exact HO437.out) hb); have n10_ := am (Kd.R_below (by exact HO442.out) hb); have n11_ := am (Kd.R_below (by exact HO445.out) hb); have n12_ := am (Kd.R_below (by exact HO448.out) hb); have n13_ := am (Kd.N_below (by exact HO451.out) hb); have n14_ := am (Kd.N_below (by exact HO456.out) hb); have n15_ := am (Kd.N_below (by exact HO460.out) hb); have n16_ := am (Kd.N_below (by exact HO463.out) hb); have n17_ := am (Kd.N_below (by exact HO467.out) hb); have n19_ := am (Kd.R_below (by exact HO477.out) hb); have n20_ := am (Kd.R_below (by exact HO480.out) hb); have n21_ := am (Kd.R_below (by exact HO483.out) hb); have n22_ := am (Kd.N_below (by exact HO486.out) hb); have n23_ := am (Kd.N_below (by exact HO491.out) hb); have n24_ := am (Kd.N_below (by exact HO498.out) hb); have n25_ := am (below_step (zb HB) hb); clear HO404; clear HO409; clear HO412; clear HO415; clear HO418; clear HO423; clear HO427; clear HO430; clear HO433; clear HO437; clear HO442; clear HO445; clear HO448; clear HO451; clear HO456; clear HO460; clear HO463; clear HO467; clear HO477; clear HO480; clear HO483; clear HO486; clear HO491; clear HO498; clear HB; have HO404 := n0_; have HO409 := n1_; have HO412 := n2_; have HO415 := n3_; have HO418 := n4_; have HO423 := n5_; have HO427 := n6_; have HO430 := n7_; have HO433 := n8_; have HO437 := n9_; have HO442 := n10_; have HO445 := n11_; have HO448 := n12_; have HO451 := n13_; have HO456 := n14_; have HO460 := n15_; have HO463 := n16_; have HO467 := n17_; have HO477 := n19_; have HO480 := n20_; have HO483 := n21_; have HO486 := n22_; have HO491 := n23_; have HO498 := n24_; have HB := n25_; clear n0_ n1_ n2_ n3_ n4_ n5_ n6_ n7_ n8_ n9_ n10_ n11_ n12_ n13_ n14_ n15_ n16_ n17_ n19_ n20_ n21_ n22_ n23_ n24_ n25_; (try clear hb)) | ((with_reducible refine gate_dst (N := 57) rfl ?_); (try (refine gate_guard (by rfl) ?_; dsimp only)); refine Kd.N_lit k38 _ 38 ?hg (N' := 57) ?hd (xs := ([(⟨0, 1, (⟨#[]⟩ : ByteArray), (⟨#[97]⟩ : ByteArray), ([] : List (S45))⟩ : S38)] : List (S38))) (inner := [.int .i64 0, .int .i64 1, .string (⟨#[]⟩ : ByteArray), .string (⟨#[97]⟩ : ByteArray), .slice none 0 0]) (ok := (fun k_ => some k_ ≠ (.slice Ao28 t402.length co28 : Value).ownBlock ∧ some k_ ≠ (.slice Ao29 t407.length co29 : Value).ownBlock ∧ some k_ ≠ (.slice Ao30 t410.length co30 : Value).ownBlock ∧ some k_ ≠ (.slice Ao31 t413.length co31 : Value).ownBlock ∧ some k_ ≠ (.slice Ao32 t416.length co32 : Value).ownBlock ∧ some k_ ≠ (.slice Ao66 t421.length co66 : Value).ownBlock ∧ some k_ ≠ (.slice Ao38 t425.length co38 : Value).ownBlock ∧ some k_ ≠ (.slice Ao37 y428.length co37 : Value).ownBlock ∧ some k_ ≠ (v432 : Value).ownBlock ∧ some k_ ≠ (.slice Ao42 t435.length co42 : Value).ownBlock ∧ some k_ ≠ (.slice Ao43 t440.length co43 : Value).ownBlock ∧ some k_ ≠ (.slice Ao44 t443.length co44 : Value).ownBlock ∧ some k_ ≠ (.slice Ao45 t446.length co45 : Value).ownBlock ∧ some k_ ≠ (.slice Ao46 t449.length co46 : Value).ownBlock ∧ some k_ ≠ (v455 : Value).ownBlock ∧ some k_ ≠ (.slice Ao49 t458.length co49 : Value).ownBlock ∧ some k_ ≠ (v462 : Value).ownBlock ∧ some k_ ≠ (.slice Ao54 t465.length co54 : Value).ownBlock ∧ some k_ ≠ (.slice Ao56 t475.length co56 : Value).ownBlock ∧ some k_ ≠ (.slice Ao57 t478.length co57 : Value).ownBlock ∧ some k_ ≠ (.slice Ao58 t481.length co58 : Value).ownBlock ∧ some k_ ≠ (.slice Ao59 t484.length co59 : Value).ownBlock ∧ some k_ ≠ (v490 : Value).ownBlock ∧ some k_ ≠ (.slice Ao67 y496.length co67 : Value).ownBlock)) (okp := (fun k_ => some k_ ≠ (.slice Ao28 t402.length co28 : Value).ownBlock ∧ some k_ ≠ (.slice Ao29 t407.length co29 : Value).ownBlock ∧ some k_ ≠ (.slice Ao30 t410.length co30 : Value).ownBlock ∧ some k_ ≠ (.slice Ao31 t413.length co31 : Value).ownBlock ∧ some k_ ≠ (.slice Ao32 t416.length co32 : Value).ownBlock ∧ some k_ ≠ (.slice Ao66 t421.length co66 : Value).ownBlock ∧ some k_ ≠ (.slice Ao38 t425.length co38 : Value).ownBlock ∧ some k_ ≠ (.slice Ao37 y428.length co37 : Value).ownBlock ∧ some k_ ≠ (v432 : Value).ownBlock ∧ some k_ ≠ (.slice Ao42 t435.length co42 : Value).ownBlock ∧ some k_ ≠ (.slice Ao43 t440.length co43 : Value).ownBlock ∧ some k_ ≠ (.slice Ao44 t443.length co44 : Value).ownBlock ∧ some k_ ≠ (.slice Ao45 t446.length co45 : Value).ownBlock ∧ some k_ ≠ (.slice Ao46 t449.length co46 : Value).ownBlock ∧ some k_ ≠ (v455 : Value).ownBlock ∧ some k_ ≠ (.slice Ao49 t458.length co49 : Value).ownBlock ∧ some k_ ≠ (v462 : Value).ownBlock ∧ some k_ ≠ (.slice Ao54 t465.length co54 : Value).ownBlock ∧ some k_ ≠ (.slice Ao56 t475.length co56 : Value).ownBlock ∧ some k_ ≠ (.slice Ao57 t478.length co57 : Value).ownBlock ∧ some k_ ≠ (.slice Ao58 t481.length co58 : Value).ownBlock ∧ some k_ ≠ (.slice Ao59 t484.length co59 : Value).ownBlock ∧ some k_ ≠ (v490 : Value).ownBlock ∧ some k_ ≠ (.slice Ao67 y496.length co67 : Value).ownBlock)) ?hr ?hp (fun _ hk => hk) ((show ∀ k_, w68.heap.size ≤ k_ → (fun k_ => some k_ ≠ (.slice Ao28 t402.length co28 : Value).ownBlock ∧ some k_ ≠ (.slice Ao29 t407.length co29 : Value).ownBlock ∧ some k_ ≠ (.slice Ao30 t410.length co30 : Value).ownBlock ∧ some k_ ≠ (.slice Ao31 t413.length co31 : Value).ownBlock ∧ some k_ ≠ (.slice Ao32 t416.length co32 : Value).ownBlock ∧ some k_ ≠ (.slice Ao66 t421.length co66 : Value).ownBlock ∧ some k_ ≠ (.slice Ao38 t425.length co38 : Value).ownBlock ∧ some k_ ≠ (.slice Ao37 y428.length co37 : Value).ownBlock ∧ some k_ ≠ (v432 : Value).ownBlock ∧ some k_ ≠ (.slice Ao42 t435.length co42 : Value).ownBlock ∧ some k_ ≠ (.slice Ao43 t440.length co43 : Value).ownBlock ∧ some k_ ≠ (.slice Ao44 t443.length co44 : Value).ownBlock ∧ some k_ ≠ (.slice Ao45 t446.length co45 : Value).ownBlock ∧ some k_ ≠ (.slice Ao46 t449.length co46 : Value).ownBlock ∧ some k_ ≠ (v455 : Value).ownBlock ∧ some k_ ≠ (.slice Ao49 t458.length co49 : Value).ownBlock ∧ some k_ ≠ (v462 : Value).ownBlock ∧ some k_ ≠ (.slice Ao54 t465.length co54 : Value).ownBlock ∧ some k_ ≠ (.slice Ao56 t475.length co56 : Value).ownBlock ∧ some k_ ≠ (.slice Ao57 t478.length co57 : Value).ownBlock ∧ some k_ ≠ (.slice Ao58 t481.length co58 : Value).ownBlock ∧ some k_ ≠ (.slice Ao59 t484.length co59 : Value).ownBlock ∧ some k_ ≠ (v490 : Value).ownBlock ∧ some k_ ≠ (.slice Ao67 y496.length co67 : Value).ownBlock) k_ from fun k_ hk => ⟨Kd.fresh' (Kd.N_lt (by exact HO404.out)) k_ hk, Kd.fresh' (Kd.R_lt (by exact HO409.out)) k_ hk, Kd.fresh' (Kd.R_lt (by exact HO412.out)) k_ hk, Kd.fresh' (Kd.R_lt (by exact HO415.out)) k_ hk, Kd.fresh' (Kd.N_lt (by exact HO418.out)) k_ hk, Kd.fresh' (Kd.N_lt (by exact HO423.out)) k_ hk, Kd.fresh' (Kd.N_lt (by exact HO427.out)) k_ hk, Kd.fresh' (Kd.R_lt (by exact HO430.out)) k_ hk, Kd.fresh' (Kd.N_lt (by exact HO433.out)) k_ hk, Kd.fresh' (Kd.N_lt (by exact HO437.out)) k_ hk, Kd.fresh' (Kd.R_lt (by exact HO442.out)) k_ hk, Kd.fresh' (Kd.R_lt (by exact HO445.out)) k_ hk, Kd.fresh' (Kd.R_lt (by exact HO448.out)) k_ hk, Kd.fresh' (Kd.N_lt (by exact HO451.out)) k_ hk, Kd.fresh' (Kd.N_lt (by exact HO456.out)) k_ hk, Kd.fresh' (Kd.N_lt (by exact HO460.out)) k_ hk, Kd.fresh' (Kd.N_lt (by exact HO463.out)) k_ hk, Kd.fresh' (Kd.N_lt (by exact HO467.out)) k_ hk, Kd.fresh' (Kd.R_lt (by exact HO477.out)) k_ hk, Kd.fresh' (Kd.R_lt (by exact HO480.out)) k_ hk, Kd.fresh' (Kd.R_lt (by exact HO483.out)) k_ hk, Kd.fresh' (Kd.N_lt (by exact HO486.out)) k_ hk, Kd.fresh' (Kd.N_lt (by exact HO491.out)) k_ hk, Kd.fresh' (Kd.N_lt (by exact HO498.out)) k_ hk⟩) _ (Nat.le_refl _)) (Below.refl _ _) (Nat.le_refl _) (by simp) ?_; (case hd => rfl); (case hg => rfl); (case hr => first | (go_simp; done) | (go_simp; rfl)); (case hp => exact (Reps.c5 (show Kd.FK k38 _ _ (⟨0, 1, (⟨#[]⟩ : ByteArray), (⟨#[97]⟩ : ByteArray), ([] : List (S45))⟩ : S38) [.int .i64 0, .int .i64 1, .string (⟨#[]⟩ : ByteArray), .string (⟨#[97]⟩ : ByteArray), .slice none 0 0] from (k38_mkF _ _ (⟨0, 1, (⟨#[]⟩ : ByteArray), (⟨#[97]⟩ : ByteArray), ([] : List (S45))⟩ : S38) (Nat.le_refl _) (Kd.F_nil _ _ _))) (Reps.none _ _))); intro v501 w69 ho70 hb hg_ hnew_; clear hg_ hnew_; (first | rw [← Ny500.out] at ho70 | (simp only [Int.reduceToNat] at ho70; rw [← Ny500.out] at ho70)); have n8_ := am (Kd.N_elder' (by exact HO433.out) (by first | exact Kd.N_base ho70 | exact Kd.N_base (Kd.S_N ho70) | exact Kd.N_base (Kd.S_N (Kd.S_bound ho70))) hb); have n14_ := am (Kd.N_elder' (by exact HO456.out) (by first | exact Kd.N_base ho70 | exact Kd.N_base (Kd.S_N ho70) | exact Kd.N_base (Kd.S_N (Kd.S_bound ho70))) hb); have n25_ := am (Kd.N_lower ho70 (below_size (zb HB))); have n26_ := am (below_step (zb HB) hb); clear HO404; clear HO409; clear HO412; clear HO415; clear HO418; clear HO423; clear HO427; clear HO430; clear HO433; clear HO437; clear HO442; clear HO445; clear HO448; clear HO451; clear HO456; clear HO460; clear HO463; clear HO467; clear HO477; clear HO480; clear HO483; clear HO486; clear HO491; clear HO498; clear HB; have HO433 := n8_; have HO456 := n14_; have HO502 := n25_; have HB := n26_; clear n8_ n14_ n25_ n26_; clear hb ho70; obtain ⟨Ao71, co71, eo71⟩ := Kd.N_slice HO433.out; subst eo71; obtain ⟨Ao72, co72, eo72⟩ := Kd.N_slice HO502.out; subst eo72) | (go_at_call 16; (with_reducible refine (boltingref04_Same.calls k _ _ t431 _ _ y500 true _ ?side1 ?side2 ?side3 ?side4 A18.out).mono ?_); (case side1 => exact zc (Kd.N_reads' HO433.out).2.2); (case side2 => exact (Kd.N_reads' HO433.out).2.1); (case side3 => exact zc (Kd.N_reads' HO502.out).2.2); (case side4 => exact (Kd.N_reads' HO502.out).2.1); rintro e w73 ⟨rfl, hb⟩; have n14_ := am (Kd.N_below (by exact HO456.out) hb); have n26_ := am (below_step (zb HB) hb); clear HO433; clear HO456; clear HO502; clear HB; have HO456 := n14_; have HB := n26_; clear n14_ n26_; (try clear hb)) | (go_at_call 31; (with_reducible refine (boltinglaw13_treeP.calls  t504 _ A21.out).mono ?_); rintro e w74 ⟨v505, rfl, ho0, hb⟩; have n14_ := am (Kd.N_elder' (by exact HO456.out) (zn ho0) hb); have n26_ := am (Kd.N_lower (Kd.N_mono (ok' := fun _ => True) ho0 (fun _ _ => trivial)) (below_size (zb HB))); have n27_ := am (below_step (zb HB) hb); clear HO456; clear HB; have HO456 := n14_; have HO506 := n26_; have HB := n27_; clear n14_ n26_ n27_; (try clear hb); (try clear ho0); obtain ⟨Ao75, co75, eo75⟩ := Kd.N_slice HO456.out; subst eo75; obtain ⟨Ao76, co76, eo76⟩ := Kd.N_slice HO506.out; subst eo76) | (go_at_call 16; (with_reducible refine (boltingref04_Same.calls k _ _ t454 _ _ t504 true _ ?side1 ?side2 ?side3 ?side4 A22.out).mono ?_); (case side1 => exact zc (Kd.N_reads' HO456.out).2.2); (case side2 => exact (Kd.N_reads' HO456.out).2.1); (case side3 => exact zc (Kd.N_reads' HO506.out).2.2); (case side4 => exact (Kd.N_reads' HO506.out).2.1); rintro e w77 ⟨rfl, hb⟩; have n27_ := am (below_step (zb HB) hb); clear HO456; clear HO506; clear HB; have HB := n27_; clear n27_; (try clear hb)))
         go_ret
         exact ⟨ze, zb HB⟩
        ·rw [if_neg c25] at H
         have c25b0 : (t464 == 120) = false := beq_eq_false_iff_ne.mpr c25
         have c25b1 : (t464 != 120) = true := bne_iff_ne.mpr c25
         exact absurd (Option.some.inj H) (by rw [hT.out]; decide)
       ·rw [if_neg c24] at H
        have c24b0 : (t457 == 0) = false := beq_eq_false_iff_ne.mpr c24
        have c24b1 : (t457 != 0) = true := bne_iff_ne.mpr c24
        exact absurd (Option.some.inj H) (by rw [hT.out]; decide)
      ·replace c23 := Bool.eq_false_iff.mpr c23
       subst c23
       replace H : (some false) = some r := by rw [if_neg (show ¬ (false = true) by decide)] at H; exact H
       exact absurd (Option.some.inj H) (by rw [hT.out]; decide)
     ·rw [if_neg c20] at H
      have c20b0 : (t434 == 0) = false := beq_eq_false_iff_ne.mpr c20
      have c20b1 : (t434 != 0) = true := bne_iff_ne.mpr c20
      exact absurd (Option.some.inj H) (by rw [hT.out]; decide)
    ·replace c19 := Bool.eq_false_iff.mpr c19
     subst c19
     replace H : (some false) = some r := by rw [if_neg (show ¬ (false = true) by decide)] at H; exact H
     exact absurd (Option.some.inj H) (by rw [hT.out]; decide)
   ·rw [if_neg c17] at H
    have c17b0 : (t424 == 0) = false := beq_eq_false_iff_ne.mpr c17
    have c17b1 : (t424 != 0) = true := bne_iff_ne.mpr c17
    exact absurd (Option.some.inj H) (by rw [hT.out]; decide)
  ·replace c16 := Bool.eq_false_iff.mpr c16
   subst c16
   replace H : (some false) = some r := by rw [if_neg (show ¬ (false = true) by decide)] at H; exact H
   exact absurd (Option.some.inj H) (by rw [hT.out]; decide)
 ·rw [if_neg c12] at H
  exact absurd H (by simp)
set_option maxRecDepth 100000 in
theorem boltinglaw13_fixedP.yes (k : Nat) (r : Bool) (h : boltinglaw13_fixedP.f k = some r) : r = true := by
 have up : ∀ (m n : Nat), m ≤ n → ∀ x, boltinglaw13_fixedP.f m = some x → boltinglaw13_fixedP.f n = some x := fun m n hmn => by
  induction hmn with
  | refl => intro x hx; exact hx
  | step _ ih => intro x hx; exact boltinglaw13_fixedP.mono _ _ (ih x hx)
 have h1 := up k (k + 40) (by omega) r h
 have h2 := up 40 (k + 40) (by omega) true (by decide +kernel)
 exact Option.some.inj (h1.symm.trans h2)
theorem boltinglaw13_fixedP.calls (k : Nat)  (r : Bool) (w : World) (h : boltinglaw13_fixedP.f k  = some r) :
  Calls Tryz.prog 12 #[] w fun e w' => e = .returned (.bool r) ∧ Below w.heap.size w w' := by
 exact boltinglaw13_fixedP.calls_true k r w h (am (boltinglaw13_fixedP.yes k r h))

end Go.Proofs.YticacakoefojbaaGreat.Pr
namespace Go.Proofs.YticacakoefojbaaGreat.Pr
open Go.RowKit Go.Lib Go.Proofs.YticacakoefojbaaGreat Go.Proofs.YticacakoefojbaaGreatW.PrintWords
set_option maxRecDepth 100000 in
theorem fixedP_true : boltinglaw13_fixedP.f 200 = some true := by decide +kernel
def boltinglaw13_fixed.f : Option Bool := some true
theorem boltinglaw13_fixed.calls (r : Bool) (w : World) (h : boltinglaw13_fixed.f = some r) : Calls Tryz.prog 12 #[] w fun e w' => e = .returned (.bool r) ∧ Below w.heap.size w w' := by
 cases h
 exact boltinglaw13_fixedP.calls 200 true w fixedP_true
end Go.Proofs.YticacakoefojbaaGreat.Pr
namespace Go.Proofs.YticacakoefojbaaGreat.Pr
abbrev Rw := S38
abbrev Atr := S45
end Go.Proofs.YticacakoefojbaaGreat.Pr
namespace Go.Proofs.YticacakoefojbaaGreat.Pr
open Go.RowKit Go.Proofs.YticacakoefojbaaGreatW.PrintWords Go.Proofs.YticacakoefojbaaGreatW.PrintLast Go.Proofs.YticacakoefojbaaGreatW.PrintMore
attribute [local go_sem] max2_int min2_int max_two min_two max_three min_three max_four min_four   -- for this text's walks alone

def boltinglaw13_bound.l0 : Nat → List (S38) → List (S38) → Int → Option ((List (S38)))
 | 0, _, _, _ => none
 | k + 1, x0, x3, x4 => if x4 < (x0.length : Int) then (if x4 < 40 then (if 0 ≤ x4 then (if 0 ≤ (mn (((rd_T38 x0 x4).f4).length : Int) 8) then (if (mn (((rd_T38 x0 x4).f4).length : Int) 8) ≤ (((rd_T38 x0 x4).f4).length : Int) then (if x3.length < 1954687338268 then (boltinglaw13_bound.l0 k x0 (x3 ++ [(⟨(rd_T38 x0 x4).f0, (rd_T38 x0 x4).f1, (rd_T38 x0 x4).f2, (rd_T38 x0 x4).f3, (((rd_T38 x0 x4).f4).take ((mn (((rd_T38 x0 x4).f4).length : Int) 8) : Int).toNat)⟩ : S38)]) (wrap64 (x4 + 1))) else (none)) else (none)) else (none)) else (none)) else (some x3)) else (some x3)
def boltinglaw13_bound.f (k : Nat) (l0 : List (S38)) : Option ((List (S38))) := boltinglaw13_bound.l0 k l0 (([] : List (S38))) 0
set_option maxHeartbeats 8000000 in
set_option maxRecDepth 100000 in
theorem boltinglaw13_bound.calls (k : Nat) (P0_ : Nat → Prop) (A0 : Option Addr) (c0 : Nat) (l0 : List (S38)) (r : List (S38)) (w : World) (hs0 : Kd.V k38 38 w w.heap.size (fun k_ => P0_ k_) (.slice A0 l0.length c0) l0) (h : boltinglaw13_bound.f k l0 = some r) :
  Calls Tryz.prog 10 #[.slice A0 l0.length c0] w fun e w' => ∃ v0_ : Value, e = .returned (v0_) ∧ Kd.N k38 38 w' w.heap.size (fun k_ => (P0_ k_ ∨ w.heap.size ≤ k_)) v0_ r ∧ Below w.heap.size w w' := by
 have hu38 := Tryz.underlying38
 have HO0 := am (show Kd.V k38 38 w w.heap.size (fun k_ => (P0_ k_ ∨ w.heap.size ≤ k_)) (.slice A0 l0.length c0) l0 from Kd.V_mono hs0 (fun k_ hk => .inl hk))
 have HB := am (Below.refl w.heap.size w)
 have H : (boltinglaw13_bound.l0 k l0 (([] : List (S38))) 0) = some r := h
 clear h
 obtain ⟨y294, hy294⟩ : ∃ y_ : List (S38), y_ = (([] : List (S38))) := ⟨_, rfl⟩
 replace H : (boltinglaw13_bound.l0 k l0 y294 0) = some r := by first | (rw [hy294]; with_reducible exact H) | (have H2_ := (Option.bind_some _ _).symm.trans H; rw [hy294]; with_reducible exact H2_) | (have H2_ := (Option.bind_some _ _).symm.trans H; with_reducible exact H2_) | with_reducible exact H | (rw [hy294]; exact H) | exact H
 have Ny294 := am hy294
 clear hy294
 have H' := am H
 clear H
 go_enter Tryz.func10, Tryz.ntmps10
 go_wp2_with (first | ((with_reducible refine gate_dst (N := 6) rfl ?_); refine Kd.N_lit k38 _ 38 ?hg (N' := 6) ?hd (xs := ([] : List (S38))) (inner := []) (ok := (fun k_ => (P0_ k_ ∨ w.heap.size ≤ k_))) (okp := (fun k_ => (P0_ k_ ∨ w.heap.size ≤ k_))) ?hr ?hp (fun _ hk => hk) ((show ∀ k_, w.heap.size ≤ k_ → (fun k_ => (P0_ k_ ∨ w.heap.size ≤ k_)) k_ from fun k_ hk => (.inr (Nat.le_trans (below_size (zb HB)) hk))) _ (Nat.le_refl _)) (Below.refl _ _) (Nat.le_refl _) (by simp) ?_; (case hd => rfl); (case hg => rfl); (case hr => first | (go_simp; done) | (go_simp; rfl)); (case hp => exact (Reps.none _ _)); intro v295 w2 ho3 hb hg_ hnew_; clear hg_ hnew_; (first | rw [← Ny294.out] at ho3 | (simp only [Int.reduceToNat] at ho3; rw [← Ny294.out] at ho3)); have n0_ := am (Kd.V_elder' HO0.out (Kd.N_base ho3) hb); have n1_ := am (Kd.N_lower ho3 (below_size (zb HB))); have n2_ := am (below_step (zb HB) hb); clear HO0; clear HB; have HO0 := n0_; have HO296 := n1_; have HB := n2_; clear n0_ n1_ n2_; clear hb ho3))
 go_loopg [3, 4] k (fun kq v3 v4 w' => ∃ (x3_1 : List (S38)) (x4_1 : Int), v4 = .int .i64 x4_1 ∧ Aside0 (boltinglaw13_bound.l0 kq l0 x3_1 x4_1 = some r) ∧ Aside0 (kq ≤ k) ∧ Aside0 (Kd.V k38 38 w' w.heap.size (fun k_ => (P0_ k_ ∨ w.heap.size ≤ k_) ∧ some k_ ≠ (v3 : Value).ownBlock) (.slice A0 l0.length c0) l0) ∧ Aside0 (Kd.N k38 38 w' w.heap.size (fun k_ => (P0_ k_ ∨ w.heap.size ≤ k_)) v3 x3_1) ∧ Aside0 (Below w.heap.size w w'))
 case atStart => exact ⟨(y294), (0), zr, H', ⟨Nat.le_refl _⟩, ⟨by exact HO0.out⟩, ⟨by exact HO296.out⟩, ⟨zb HB⟩⟩
 case round =>
  clear H'
  try clear c1
  try clear p2
  obtain ⟨x3_1, x4_1, rfl, HA, HK1, HO_0, HO_3, HB⟩ := hrel
  cases gk with
  | zero => exact absurd HA.out (by simp [boltinglaw13_bound.l0])
  | succ k1 =>
   have H := HA.out
   clear HA
   simp only [boltinglaw13_bound.l0] at H
   by_cases c4 : x4_1 < (l0.length : Int)
   ·rw [if_pos c4] at H
    have c4b0 : decide (x4_1 < (l0.length : Int)) = true := decide_eq_true c4
    clear c4
    by_cases c5 : x4_1 < 40
    ·rw [if_pos c5] at H
     have c5b0 : decide (x4_1 < 40) = true := decide_eq_true c5
     clear c5
     by_cases c6 : 0 ≤ x4_1
     ·rw [if_pos c6] at H
      have c6b0 : decide (0 ≤ x4_1) = true := decide_eq_true c6
      clear c6
      obtain ⟨ji7, hji7⟩ : ∃ j_ : Int, (mn (((rd_T38 l0 x4_1).f4).length : Int) 8) = j_ := ⟨_, rfl⟩
      replace H : (if 0 ≤ (ji7) then (if (ji7) ≤ (((rd_T38 l0 x4_1).f4).length : Int) then (if x3_1.length < 1954687338268 then (boltinglaw13_bound.l0 k1 l0 (x3_1 ++ [(⟨(rd_T38 l0 x4_1).f0, (rd_T38 l0 x4_1).f1, (rd_T38 l0 x4_1).f2, (rd_T38 l0 x4_1).f3, (((rd_T38 l0 x4_1).f4).take ((ji7) : Int).toNat)⟩ : S38)]) (wrap64 (x4_1 + 1))) else (none)) else (none)) else (none)) = some r := by first | (rw [hji7] at H; exact H) | (simp only [hji7] at H ⊢; exact H)
      have hji7_ : (if 8 < (((rd_T38 l0 x4_1).f4).length : Int) then 8 else (((rd_T38 l0 x4_1).f4).length : Int)) = ji7 := hji7
      by_cases c8 : 0 ≤ (ji7)
      ·rw [if_pos c8] at H
       have c8b0 := eq_true c8
       have c8b1 : decide (0 ≤ (ji7)) = true := decide_eq_true c8
       clear c8
       by_cases c9 : (ji7) ≤ (((rd_T38 l0 x4_1).f4).length : Int)
       ·rw [if_pos c9] at H
        have c9b0 := eq_true c9
        have c9b1 : decide ((ji7) ≤ (((rd_T38 l0 x4_1).f4).length : Int)) = true := decide_eq_true c9
        clear c9
        obtain ⟨y299, hy299⟩ : ∃ y_ : List (S45), y_ = (((rd_T38 l0 x4_1).f4).take ((ji7) : Int).toNat) := ⟨_, rfl⟩
        replace H : (if x3_1.length < 1954687338268 then (boltinglaw13_bound.l0 k1 l0 (x3_1 ++ [(⟨(rd_T38 l0 x4_1).f0, (rd_T38 l0 x4_1).f1, (rd_T38 l0 x4_1).f2, (rd_T38 l0 x4_1).f3, y299⟩ : S38)]) (wrap64 (x4_1 + 1))) else (none)) = some r := by first | (rw [hy299]; with_reducible exact H) | (have H2_ := (Option.bind_some _ _).symm.trans H; rw [hy299]; with_reducible exact H2_) | (have H2_ := (Option.bind_some _ _).symm.trans H; with_reducible exact H2_) | with_reducible exact H | (rw [hy299]; exact H) | exact H
        have Ny299 := am hy299
        clear hy299
        by_cases c10 : x3_1.length < 1954687338268
        ·rw [if_pos c10] at H
         have LMc10 := am c10
         clear c10
         obtain ⟨y304, hy304⟩ : ∃ y_ : List (S38), y_ = (x3_1 ++ [(⟨(rd_T38 l0 x4_1).f0, (rd_T38 l0 x4_1).f1, (rd_T38 l0 x4_1).f2, (rd_T38 l0 x4_1).f3, y299⟩ : S38)]) := ⟨_, rfl⟩
         replace H : (boltinglaw13_bound.l0 k1 l0 y304 (wrap64 (x4_1 + 1))) = some r := by first | (rw [hy304]; with_reducible exact H) | (have H2_ := (Option.bind_some _ _).symm.trans H; rw [hy304]; with_reducible exact H2_) | (have H2_ := (Option.bind_some _ _).symm.trans H; with_reducible exact H2_) | with_reducible exact H | (rw [hy304]; exact H) | exact H
         have Ny304 := am hy304
         clear hy304
         have H' := am H
         clear H
         have p297 : 0 ≤ (x4_1 : Int) := of_decide_eq_true za
         have q297 : x4_1 < (l0.length : Int) := of_decide_eq_true za
         obtain ⟨ad297, A297_4, c297_4, e297, hx297_0, hx297_1, hx297_2, hx297_3, hx297_4, hl297_4, hi297_4⟩ := at_T38 (Kd.V_reads' HO_0.out).2.2 x4_1 p297 q297
         cases e297
         obtain ⟨ce297, hce297, hMe297, hcc297⟩ := Kd.V_get HO_0.out z38 x4_1 p297 (by first | exact q297 | exact of_decide_eq_true za | (have e_ := (Kd.V_reads' HO_0.out).1; omega))
         obtain ⟨ua297_4, uc297_4, rfl, ul297_4, ge297_4⟩ := k38_openF hMe297
         have hv297_4 := hcc297 4 _ rfl
         rw [add_field _ _ 4 (by omega)] at hv297_4
         replace hv297_4 := Option.some.inj (hv297_4.symm.trans hx297_4)
         injection hv297_4 with hva_ hvn_ hvc_
         rw [hva_] at ge297_4
         rw [hvc_] at ul297_4
         have HL297_4 := am (show Kd.V k45 45 _ w.heap.size _ _ ((rd_T38 l0 x4_1).f4) from Kd.V_mk ul297_4 ge297_4)
         clear hva_ hvn_ hvc_ ge297_4 ul297_4
         clear hcc297 hce297
         have HR297_4 := am hi297_4
         have HC297_4 := am hl297_4
         clear hi297_4 hl297_4
         replace p297 := eq_true p297
         replace q297 := eq_true q297
         go_wp2_with (first | ((with_reducible refine gate_dst (N := 5) rfl ?_); refine box_event ?hg (N := 5) ?hd (cs := #[.int .i64 0, .int .i64 0, .string (⟨#[]⟩ : ByteArray), .string (⟨#[]⟩ : ByteArray), .slice none 0 0]) (t := 38) ?hr ?_; (case hd => rfl); (case hg => rfl); (case hr => first | (go_simp; done) | (go_simp; rfl)); intro gb298 hg w11 hbox hb; have n0_ := am (Kd.V_below (Kd.V_elderB HO_0.out gb298 (Nat.le_of_eq hg.symm)) hb); have n1_ := am (Kd.N_below (Kd.N_elderB HO_3.out gb298 (Nat.le_of_eq hg.symm)) hb); have n2_ := am (Kd.V_below (Kd.V_elderB HL297_4.out gb298 (Nat.le_of_eq hg.symm)) hb); have n4_ := am (below_step (zb HB) hb); have n5_ := am (hbox); have n7_ := am ((by rw [hg]; exact (below_size (zb HB)) : w.heap.size ≤ gb298)); clear HO_0; clear HO_3; clear HL297_4; clear HR297_4; clear HB; have HO_0 := n0_; have HO_3 := n1_; have HL297_4 := n2_; have HB := n4_; have BK298 := n5_; have GE298 := n7_; clear n0_ n1_ n2_ n4_ n5_ n7_; clear hb hbox hg; obtain ⟨hcz12_0, hcz12_1, hcz12_2, hcz12_3, hcz12_4, hfz12_0, hfz12_1, hfz12_2, hfz12_3, hfz12_4⟩ := cz5 BK298.out) | ((with_reducible refine gate_store (t := 38) (p := 5) rfl ?_); refine store_event (t := 38) (p := 5) (v := ?vo_w13) (w1 := (((((w11.setCell ⟨gb298, 0, none⟩ (.int .i64 ((rd_T38 l0 x4_1).f0))).setCell ⟨gb298, 1, none⟩ (.int .i64 ((rd_T38 l0 x4_1).f1))).setCell ⟨gb298, 2, none⟩ (.string ((rd_T38 l0 x4_1).f2))).setCell ⟨gb298, 3, none⟩ (.string ((rd_T38 l0 x4_1).f3))).setCell ⟨gb298, 4, none⟩ (.slice A297_4 ((rd_T38 l0 x4_1).f4).length c297_4))) ?hg ?ho ?hn ?hr ?_; (case ho => rfl); (case hg => rfl); (case hn => rfl); (case hr => first | (go_simp; done) | (go_simp; rfl)); intro w13 hw; have n0_ : Aside0 (Kd.V k38 38 w13 w.heap.size (fun k_ => (P0_ k_ ∨ w.heap.size ≤ k_) ∧ some k_ ≠ (u3 : Value).ownBlock ∧ k_ ≠ gb298) (.slice (some ad297) l0.length c0) l0) := ⟨(by rw [hw]; exact (by exact Kd.V_mono (Vf5 (g := gb298) (Kd.V_mono HO_0.out (fun k_ hk => (⟨hk, hk.2⟩ : _ ∧ k_ ≠ gb298))) (fun _ hk => hk.2) (.int .i64 ((rd_T38 l0 x4_1).f0)) (.int .i64 ((rd_T38 l0 x4_1).f1)) (.string ((rd_T38 l0 x4_1).f2)) (.string ((rd_T38 l0 x4_1).f3)) (.slice A297_4 ((rd_T38 l0 x4_1).f4).length c297_4)) (fun _ hk => ⟨hk.1.1.1, ⟨hk.1.1.2, hk.1.2⟩⟩)))⟩; have n1_ : Aside0 (Kd.N k38 38 w13 w.heap.size (fun k_ => (P0_ k_ ∨ w.heap.size ≤ k_) ∧ k_ ≠ gb298) u3 x3_1) := ⟨(by rw [hw]; exact (by exact Kd.N_mono (Nf5 (g := gb298) (Kd.N_mono HO_3.out (fun k_ hk => (⟨hk, hk.2⟩ : _ ∧ k_ ≠ gb298))) (fun _ hk => hk.2) (.int .i64 ((rd_T38 l0 x4_1).f0)) (.int .i64 ((rd_T38 l0 x4_1).f1)) (.string ((rd_T38 l0 x4_1).f2)) (.string ((rd_T38 l0 x4_1).f3)) (.slice A297_4 ((rd_T38 l0 x4_1).f4).length c297_4)) (fun _ hk => ⟨hk.1.1, hk.1.2⟩)))⟩; have n2_ : Aside0 (Kd.V k45 45 w13 w.heap.size (fun k_ => (P0_ k_ ∨ w.heap.size ≤ k_) ∧ some k_ ≠ (u3 : Value).ownBlock ∧ k_ ≠ gb298) (.slice A297_4 ((rd_T38 l0 x4_1).f4).length c297_4) ((rd_T38 l0 x4_1).f4)) := ⟨(by rw [hw]; exact (by exact Kd.V_mono (Vf5 (g := gb298) (Kd.V_mono HL297_4.out (fun k_ hk => (⟨hk, hk.2⟩ : _ ∧ k_ ≠ gb298))) (fun _ hk => hk.2) (.int .i64 ((rd_T38 l0 x4_1).f0)) (.int .i64 ((rd_T38 l0 x4_1).f1)) (.string ((rd_T38 l0 x4_1).f2)) (.string ((rd_T38 l0 x4_1).f3)) (.slice A297_4 ((rd_T38 l0 x4_1).f4).length c297_4)) (fun _ hk => ⟨hk.1.1.1, ⟨hk.1.1.2, hk.1.2⟩⟩)))⟩; have n3_ : Aside0 (w13.heap[gb298]? = some (.cells #[.int .i64 ((rd_T38 l0 x4_1).f0), .int .i64 ((rd_T38 l0 x4_1).f1), .string ((rd_T38 l0 x4_1).f2), .string ((rd_T38 l0 x4_1).f3), .slice A297_4 ((rd_T38 l0 x4_1).f4).length c297_4] 38 (0, 0))) := ⟨(by rw [hw]; exact (by refine blk_put (cs := #[.int .i64 ((rd_T38 l0 x4_1).f0), .int .i64 ((rd_T38 l0 x4_1).f1), .string ((rd_T38 l0 x4_1).f2), .string ((rd_T38 l0 x4_1).f3), .slice none 0 0]) ?_ 4 _ rfl; refine blk_put (cs := #[.int .i64 ((rd_T38 l0 x4_1).f0), .int .i64 ((rd_T38 l0 x4_1).f1), .string ((rd_T38 l0 x4_1).f2), .string (⟨#[]⟩ : ByteArray), .slice none 0 0]) ?_ 3 _ rfl; refine blk_put (cs := #[.int .i64 ((rd_T38 l0 x4_1).f0), .int .i64 ((rd_T38 l0 x4_1).f1), .string (⟨#[]⟩ : ByteArray), .string (⟨#[]⟩ : ByteArray), .slice none 0 0]) ?_ 2 _ rfl; refine blk_put (cs := #[.int .i64 ((rd_T38 l0 x4_1).f0), .int .i64 0, .string (⟨#[]⟩ : ByteArray), .string (⟨#[]⟩ : ByteArray), .slice none 0 0]) ?_ 1 _ rfl; refine blk_put (cs := #[.int .i64 0, .int .i64 0, .string (⟨#[]⟩ : ByteArray), .string (⟨#[]⟩ : ByteArray), .slice none 0 0]) ?_ 0 _ rfl; exact BK298.out))⟩; have n4_ : Aside0 (Below w.heap.size w w13) := ⟨(by rw [hw]; exact (zb1 HB GE298))⟩; clear hw; clear HO_0; clear HO_3; clear HL297_4; clear BK298; clear HB; have HO_0 := n0_; have HO_3 := n1_; have HL297_4 := n2_; have BK298 := n3_; have HB := n4_; clear n0_ n1_ n2_ n3_ n4_; obtain ⟨hcz14_0, hcz14_1, hcz14_2, hcz14_3, hcz14_4, hfz14_0, hfz14_1, hfz14_2, hfz14_3, hfz14_4⟩ := cz5 BK298.out; have q15 : ((ji7) : Int) ≤ ((((rd_T38 l0 x4_1).f4).length : Int) : Int) := of_decide_eq_true za; obtain ⟨i015, hi015, _, hsz15, _⟩ := info_parts info45; have hroom15 : ((rd_T38 l0 x4_1).f4).length ≤ c297_4 := HC297_4.out; have hC15 : Kd.F k45 _ _ A297_4 ((rd_T38 l0 x4_1).f4).length ((rd_T38 l0 x4_1).f4) := (Kd.V_at (base := w.heap.size) HL297_4.out).2.2; have hcut15 := cut_to (P := Tryz.prog) 36 45 .i64 Tryz.underlying36 hi015 A297_4 ((rd_T38 l0 x4_1).f4).length c297_4 (ji7) (of_decide_eq_true za) q15 hroom15; have hr15 := Kd.F_take (m := ((ji7) : Int).toNat) hC15 (by omega); have hy15 : y299.length = ((ji7) : Int).toNat := (by rw [Ny299.out, List.length_take]; omega); rw [← Ny299.out] at hr15; rw [← hy15] at hcut15; have HO303 := am (show Kd.V k45 45 _ w.heap.size _ (.slice A297_4 y299.length c297_4) y299 from Kd.V_mk (by omega) hr15); have HC303 := am (show y299.length ≤ c297_4 from by omega); clear hr15 hC15 hroom15 hi015 hsz15; have KY15 := am hy15; clear hy15; replace q15 := eq_true q15) | ((with_reducible refine gate_store (t := 36) (p := 28) rfl ?_); refine store_event (t := 36) (p := 28) (v := ?vo_w16) (w1 := (w13.setCell ⟨gb298, 4, none⟩ (.slice A297_4 y299.length c297_4))) ?hg ?ho ?hn ?hr ?_; (case ho => rfl); (case hg => rfl); (case hn => rfl); (case hr => first | (go_simp; done) | (go_simp; rfl)); intro w16 hw; have n0_ : Aside0 (Kd.V k38 38 w16 w.heap.size (fun k_ => (P0_ k_ ∨ w.heap.size ≤ k_) ∧ some k_ ≠ (u3 : Value).ownBlock ∧ k_ ≠ gb298) (.slice (some ad297) l0.length c0) l0) := ⟨(by rw [hw]; exact (by exact Kd.V_mono (Kd.V_far (p := ⟨gb298, 4, none⟩) (Kd.V_mono HO_0.out (fun k_ hk => (⟨hk, hk.2.2⟩ : _ ∧ k_ ≠ gb298))) (fun _ hk => hk.2) (.slice A297_4 y299.length c297_4)) (fun _ hk => ⟨hk.1.1, ⟨hk.1.2.1, hk.1.2.2⟩⟩)))⟩; have n1_ : Aside0 (Kd.N k38 38 w16 w.heap.size (fun k_ => (P0_ k_ ∨ w.heap.size ≤ k_) ∧ k_ ≠ gb298) u3 x3_1) := ⟨(by rw [hw]; exact (by exact Kd.N_mono (Kd.N_far (p := ⟨gb298, 4, none⟩) (Kd.N_mono HO_3.out (fun k_ hk => (⟨hk, hk.2⟩ : _ ∧ k_ ≠ gb298))) (fun _ hk => hk.2) (.slice A297_4 y299.length c297_4)) (fun _ hk => ⟨hk.1.1, hk.1.2⟩)))⟩; have n3_ : Aside0 (Kd.V k45 45 w16 w.heap.size (fun k_ => (P0_ k_ ∨ w.heap.size ≤ k_) ∧ some k_ ≠ (u3 : Value).ownBlock ∧ k_ ≠ gb298) (.slice A297_4 y299.length c297_4) y299) := ⟨(by rw [hw]; exact (by exact Kd.V_mono (Kd.V_far (p := ⟨gb298, 4, none⟩) (Kd.V_mono HO303.out (fun k_ hk => (⟨hk, hk.2.2⟩ : _ ∧ k_ ≠ gb298))) (fun _ hk => hk.2) (.slice A297_4 y299.length c297_4)) (fun _ hk => ⟨hk.1.1, ⟨hk.1.2.1, hk.1.2.2⟩⟩)))⟩; have n4_ : Aside0 (w16.heap[gb298]? = some (.cells #[.int .i64 ((rd_T38 l0 x4_1).f0), .int .i64 ((rd_T38 l0 x4_1).f1), .string ((rd_T38 l0 x4_1).f2), .string ((rd_T38 l0 x4_1).f3), .slice A297_4 y299.length c297_4] 38 (0, 0))) := ⟨(by rw [hw]; exact (by refine blk_put (cs := #[.int .i64 ((rd_T38 l0 x4_1).f0), .int .i64 ((rd_T38 l0 x4_1).f1), .string ((rd_T38 l0 x4_1).f2), .string ((rd_T38 l0 x4_1).f3), .slice A297_4 ((rd_T38 l0 x4_1).f4).length c297_4]) ?_ 4 _ rfl; exact BK298.out))⟩; have n5_ : Aside0 (Below w.heap.size w w16) := ⟨(by rw [hw]; exact (zb1 HB GE298))⟩; clear hw; clear HO_0; clear HO_3; clear HL297_4; clear HO303; clear BK298; clear HB; have HO_0 := n0_; have HO_3 := n1_; have HO303 := n3_; have BK298 := n4_; have HB := n5_; clear n0_ n1_ n3_ n4_ n5_; obtain ⟨hcz17_0, hcz17_1, hcz17_2, hcz17_3, hcz17_4, hfz17_0, hfz17_1, hfz17_2, hfz17_3, hfz17_4⟩ := cz5 BK298.out) | ((with_reducible refine gate_builtin (b := .append) (xs := #[.tmp 29, .tmp 31]) rfl ?_); at_builtin; refine Kd.N_append k38 (w0 := w) w.heap.size rfl (.tmp 29) (.tmp 31) 22 38 (.agg #[(.int .i64 0), (.int .i64 0), (.string ⟨#[]⟩), (.string ⟨#[]⟩), (.slice none 0 0)]) 72 rfl Tryz.underlying22 info38 rfl (by decide) (by omega) u3 x3_1 (⟨(rd_T38 l0 x4_1).f0, (rd_T38 l0 x4_1).f1, (rd_T38 l0 x4_1).f2, (rd_T38 l0 x4_1).f3, y299⟩ : S38) [.int .i64 ((rd_T38 l0 x4_1).f0), .int .i64 ((rd_T38 l0 x4_1).f1), .string ((rd_T38 l0 x4_1).f2), .string ((rd_T38 l0 x4_1).f3), .slice A297_4 y299.length c297_4] (fun k_ => (P0_ k_ ∨ w.heap.size ≤ k_) ∧ k_ ≠ gb298) (fun k_ => ((fun k_ => (P0_ k_ ∨ w.heap.size ≤ k_) ∧ k_ ≠ gb298)) k_ ∧ some k_ ≠ (u3 : Value).ownBlock) rfl rfl ?aP (fun _ hk => hk) ?aF ?aO ?aB ?aS ?aL ?_; (case aP => exact (k38_mkF _ _ (⟨(rd_T38 l0 x4_1).f0, (rd_T38 l0 x4_1).f1, (rd_T38 l0 x4_1).f2, (rd_T38 l0 x4_1).f3, y299⟩ : S38) (Kd.V_reads' (Kd.V_mono (ok' := (fun k_ => ((fun k_ => (P0_ k_ ∨ w.heap.size ≤ k_) ∧ k_ ≠ gb298)) k_ ∧ some k_ ≠ (u3 : Value).ownBlock)) (HO303.out) (fun k_ hk => ⟨⟨hk.1, hk.2.2⟩, hk.2.1⟩))).2.1 (Kd.V_F (Kd.V_mono (ok' := (fun k_ => ((fun k_ => (P0_ k_ ∨ w.heap.size ≤ k_) ∧ k_ ≠ gb298)) k_ ∧ some k_ ≠ (u3 : Value).ownBlock)) (HO303.out) (fun k_ hk => ⟨⟨hk.1, hk.2.2⟩, hk.2.1⟩))))); (case aB => exact (zb1 HB GE298)); (case aF => exact (fun k_ hk => ⟨(.inr (Nat.le_trans (below_size (zb1 HB GE298)) hk)), Kd.freshB BK298.out k_ hk⟩)); (case aO => exact HO_3.out); (case aS => exact (below_size (zb1 HB GE298))); (case aL => have := LMc10.out; omega); intro v305 w18 ho hb hg hat; rw [← Ny304.out] at ho; have n0_ := am (Kd.V_afterv (ok := (fun k_ => (P0_ k_ ∨ w.heap.size ≤ k_) ∧ k_ ≠ gb298)) (by exact Kd.V_mono HO_0.out (fun _ hk => ⟨⟨hk.1, hk.2.2⟩, hk.2.1⟩)) hg hat); have n4_ := am (hb); have n5_ := am (ho); clear HO_0; clear BK298; clear HO303; clear HB; clear HO_3; have HO_0 := n0_; have HB := n4_; have HO306 := n5_; clear n0_ n4_ n5_; clear ho hb hg hat))
         go_roundg k1
         case measure => have := HK1.out; omega
         case rel => exact ⟨(y304), (wrap64 (x4_1 + 1)), zr, H', ⟨by have := HK1.out; omega⟩, ⟨by exact Kd.V_mono HO_0.out (fun _ hk => ⟨hk.1.1, hk.2⟩)⟩, ⟨by exact Kd.N_mono HO306.out (fun _ hk => hk.1)⟩, ⟨zb1 HB GE298⟩⟩
        ·rw [if_neg c10] at H
         exact absurd H (by simp)
       ·rw [if_neg c9] at H
        exact absurd H (by simp)
      ·rw [if_neg c8] at H
       exact absurd H (by simp)
     ·rw [if_neg c6] at H
      exact absurd H (by simp)
    ·rw [if_neg c5] at H
     have c5b0 : decide (x4_1 < 40) = false := decide_eq_false c5
     clear c5
     obtain rfl := Option.some.inj H
     go_wp2
     go_ret
     exact ⟨_, ze, by exact HO_3.out, zb HB⟩
   ·rw [if_neg c4] at H
    have c4b0 : decide (x4_1 < (l0.length : Int)) = false := decide_eq_false c4
    clear c4
    obtain rfl := Option.some.inj H
    go_wp2
    go_ret
    exact ⟨_, ze, by exact HO_3.out, zb HB⟩


def boltingref04_Big.l0 : Nat → List (S38) → Int → Option (Bool)
 | 0, _, _ => none
 | k + 1, x0, x3 => if x3 < (x0.length : Int) then (if 0 ≤ x3 then (if ((rd_T38 x0 x3).f0) ≥ 60 then (some true) else (boltingref04_Big.l0 k x0 (wrap64 (x3 + 1)))) else (none)) else (some (decide ((x0.length : Int) > 4096)))
def boltingref04_Big.f (k : Nat) (l0 : List (S38)) : Option (Bool) := boltingref04_Big.l0 k l0 0
set_option maxHeartbeats 8000000 in
set_option maxRecDepth 100000 in
theorem boltingref04_Big.calls (k : Nat) (A0 : Option Addr) (c0 : Nat) (l0 : List (S38)) (r : Bool) (w : World) (hr0 : Kd.C k38 w A0 l0.length l0) (hc0 : l0.length ≤ c0) (h : boltingref04_Big.f k l0 = some r) :
  Calls Tryz.prog 29 #[.slice A0 l0.length c0] w fun e w' => e = .returned (.bool r) ∧ Drawn0 w w' := by
 have HR0 := am hr0
 have HC0 := am hc0
 clear hr0 hc0
 have H : (boltingref04_Big.l0 k l0 0) = some r := h
 clear h
 have H' := am H
 clear H
 go_enter Tryz.func29, Tryz.ntmps29
 go_wp2
 go_loopg [3] k (fun kq v3 w' => ∃ (x3_1 : Int), v3 = .int .i64 x3_1 ∧ Aside0 (boltingref04_Big.l0 kq l0 x3_1 = some r) ∧ Aside0 (kq ≤ k) ∧ Drawn0 w w')
 case atStart => exact ⟨(0), zr, H', ⟨Nat.le_refl _⟩, zw⟩
 case round =>
  clear H'
  obtain ⟨x3_1, rfl, HA, HK1, ⟨m1, rfl⟩⟩ := hrel
  cases gk with
  | zero => exact absurd HA.out (by simp [boltingref04_Big.l0])
  | succ k1 =>
   have H := HA.out
   clear HA
   simp only [boltingref04_Big.l0] at H
   by_cases c2 : x3_1 < (l0.length : Int)
   ·rw [if_pos c2] at H
    have c2b0 : decide (x3_1 < (l0.length : Int)) = true := decide_eq_true c2
    clear c2
    by_cases c3 : 0 ≤ x3_1
    ·rw [if_pos c3] at H
     have c3b0 : decide (0 ≤ x3_1) = true := decide_eq_true c3
     clear c3
     by_cases c4 : ((rd_T38 l0 x3_1).f0) ≥ 60
     ·rw [if_pos c4] at H
      have c4b0 : decide (60 ≤ ((rd_T38 l0 x3_1).f0)) = true := decide_eq_true c4
      clear c4
      obtain rfl := Option.some.inj H
      have p307 : 0 ≤ (x3_1 : Int) := of_decide_eq_true za
      have q307 : x3_1 < (l0.length : Int) := of_decide_eq_true za
      obtain ⟨ad307, A307_4, c307_4, e307, hx307_0, hx307_1, hx307_2, hx307_3, hx307_4, hl307_4, hi307_4⟩ := at_T38 HR0.out x3_1 p307 q307
      cases e307
      have HR307_4 := am hi307_4
      have HC307_4 := am hl307_4
      clear hi307_4 hl307_4
      replace p307 := eq_true p307
      replace q307 := eq_true q307
      go_wp2
      go_ret
      exact ⟨zt, zw⟩
     ·rw [if_neg c4] at H
      have c4b0 : decide (60 ≤ ((rd_T38 l0 x3_1).f0)) = false := decide_eq_false c4
      clear c4
      have H' := am H
      clear H
      have p307 : 0 ≤ (x3_1 : Int) := of_decide_eq_true za
      have q307 : x3_1 < (l0.length : Int) := of_decide_eq_true za
      obtain ⟨ad307, A307_4, c307_4, e307, hx307_0, hx307_1, hx307_2, hx307_3, hx307_4, hl307_4, hi307_4⟩ := at_T38 HR0.out x3_1 p307 q307
      cases e307
      have HR307_4 := am hi307_4
      have HC307_4 := am hl307_4
      clear hi307_4 hl307_4
      replace p307 := eq_true p307
      replace q307 := eq_true q307
      go_wp2
      go_roundg k1
      case measure => have := HK1.out; omega
      case rel => exact ⟨(wrap64 (x3_1 + 1)), zr, H', ⟨by have := HK1.out; omega⟩, zw⟩
    ·rw [if_neg c3] at H
     exact absurd H (by simp)
   ·rw [if_neg c2] at H
    have c2b0 : decide (x3_1 < (l0.length : Int)) = false := decide_eq_false c2
    clear c2
    obtain rfl := Option.some.inj H
    go_wp2
    go_ret
    exact ⟨zt, zw⟩

mutual
def boltingref04_Row.j0 : Nat → Bool → Int → Int → ByteArray → ByteArray → List (S45) → Option (Bool)
 | 0, _, _, _, _, _, _ => none
 | k + 1, x12, x309000, x309001, x309002, x309003, x309004 => if x12 = true then (if x309002.toList = ([] : List UInt8) then (some ((x309004.length : Int) == 0)) else (some false)) else (boltingref04_Row.l0 k 0 x309000 x309001 x309002 x309003 x309004)
def boltingref04_Row.l0 : Nat → Int → Int → Int → ByteArray → ByteArray → List (S45) → Option (Bool)
 | 0, _, _, _, _, _, _ => none
 | k + 1, x3, x309000, x309001, x309002, x309003, x309004 => if x3 < (x309004.length : Int) then (boltingref04_Row.l1 k x3 0 x309000 x309001 x309002 x309003 x309004) else (if x309001 = 0 then (if x309002.toList = ([] : List UInt8) then (some false) else (some (x309003.toList == ([] : List UInt8)))) else (some false))
def boltingref04_Row.l1 : Nat → Int → Int → Int → Int → ByteArray → ByteArray → List (S45) → Option (Bool)
 | 0, _, _, _, _, _, _, _ => none
 | k + 1, x3, x4, x309000, x309001, x309002, x309003, x309004 => if x4 < x3 then (if 0 ≤ x3 then (if x3 < (x309004.length : Int) then (if 0 ≤ x4 then (if x4 < (x309004.length : Int) then (if ((rd_T45 x309004 x3).f0).toList = ((rd_T45 x309004 x4).f0).toList then (some false) else (boltingref04_Row.l1 k x3 (wrap64 (x4 + 1)) x309000 x309001 x309002 x309003 x309004)) else (none)) else (none)) else (none)) else (none)) else (boltingref04_Row.l0 k (wrap64 (x3 + 1)) x309000 x309001 x309002 x309003 x309004)
end
def boltingref04_Row.f (k : Nat) (a0_0 : Int) (a0_1 : Int) (a0_2 : ByteArray) (a0_3 : ByteArray) (l0_4 : List (S45)) : Option (Bool) := if a0_1 = 1 then (boltingref04_Row.j0 k true a0_0 a0_1 a0_2 a0_3 l0_4) else (boltingref04_Row.j0 k (a0_1 == 2) a0_0 a0_1 a0_2 a0_3 l0_4)
set_option maxHeartbeats 8000000 in
set_option maxRecDepth 100000 in
theorem boltingref04_Row.calls (k : Nat) (a0_0 : Int) (a0_1 : Int) (a0_2 : ByteArray) (a0_3 : ByteArray) (A0_4 : Option Addr) (c0_4 : Nat) (l0_4 : List (S45)) (r : Bool) (w : World) (hr0_4 : Kd.C k45 w A0_4 l0_4.length l0_4) (hc0_4 : l0_4.length ≤ c0_4) (h : boltingref04_Row.f k a0_0 a0_1 a0_2 a0_3 l0_4 = some r) :
  Calls Tryz.prog 50 #[.agg #[.int .i64 a0_0, .int .i64 a0_1, .string a0_2, .string a0_3, .slice A0_4 l0_4.length c0_4]] w fun e w' => e = .returned (.bool r) ∧ Below w.heap.size w w' := by
 have hu38 := Tryz.underlying38
 have HR0_4 := am hr0_4
 have HC0_4 := am hc0_4
 clear hr0_4 hc0_4
 have HB := am (Below.refl w.heap.size w)
 have H : (if a0_1 = 1 then (boltingref04_Row.j0 k true a0_0 a0_1 a0_2 a0_3 l0_4) else (boltingref04_Row.j0 k (a0_1 == 2) a0_0 a0_1 a0_2 a0_3 l0_4)) = some r := h
 clear h
 have HC2 := am H
 clear H
 go_enter Tryz.func50, Tryz.ntmps50
 go_upto_region 1 with (first | ((with_reducible refine gate_dst (N := 1) rfl ?_); (try (refine gate_guard (by rfl) ?_; dsimp only)); refine box_event ?hg (N := 1) ?hd (cs := #[.int .i64 a0_0, .int .i64 a0_1, .string a0_2, .string a0_3, .slice A0_4 l0_4.length c0_4]) (t := 38) ?hr ?_; (case hd => rfl); (case hg => rfl); (case hr => first | (go_simp; done) | (go_simp; rfl)); intro gb308 hg w3 hbox hb; have n0_ := am (below_step (zb HB) hb); have n1_ := am (hbox); have n2_ := am ((by rw [hg]; exact (below_size (zb HB)) : w.heap.size ≤ gb308)); have n3_ := am ((by rw [hg]; exact (below_size (zb HB)) : w.heap.size ≤ gb308)); clear HB; have HB := n0_; have BK308 := n1_; have GW308 := n2_; have GE308 := n3_; clear n0_ n1_ n2_ n3_; clear hb hbox hg))
 repeat (go_quiet (first | ((with_reducible refine gate_dst (N := 1) rfl ?_); (try (refine gate_guard (by rfl) ?_; dsimp only)); refine box_event ?hg (N := 1) ?hd (cs := #[.int .i64 a0_0, .int .i64 a0_1, .string a0_2, .string a0_3, .slice A0_4 l0_4.length c0_4]) (t := 38) ?hr ?_; (case hd => rfl); (case hg => rfl); (case hr => first | (go_simp; done) | (go_simp; rfl)); intro gb308 hg w3 hbox hb; have n0_ := am (below_step (zb HB) hb); have n1_ := am (hbox); have n2_ := am ((by rw [hg]; exact (below_size (zb HB)) : w.heap.size ≤ gb308)); have n3_ := am ((by rw [hg]; exact (below_size (zb HB)) : w.heap.size ≤ gb308)); clear HB; have HB := n0_; have BK308 := n1_; have GW308 := n2_; have GE308 := n3_; clear n0_ n1_ n2_ n3_; clear hb hbox hg)); go_upto_region 1 with (first | ((with_reducible refine gate_dst (N := 1) rfl ?_); (try (refine gate_guard (by rfl) ?_; dsimp only)); refine box_event ?hg (N := 1) ?hd (cs := #[.int .i64 a0_0, .int .i64 a0_1, .string a0_2, .string a0_3, .slice A0_4 l0_4.length c0_4]) (t := 38) ?hr ?_; (case hd => rfl); (case hg => rfl); (case hr => first | (go_simp; done) | (go_simp; rfl)); intro gb308 hg w3 hbox hb; have n0_ := am (below_step (zb HB) hb); have n1_ := am (hbox); have n2_ := am ((by rw [hg]; exact (below_size (zb HB)) : w.heap.size ≤ gb308)); have n3_ := am ((by rw [hg]; exact (below_size (zb HB)) : w.heap.size ≤ gb308)); clear HB; have HB := n0_; have BK308 := n1_; have GW308 := n2_; have GE308 := n3_; clear n0_ n1_ n2_ n3_; clear hb hbox hg)))
 (try simp only [Act.put, List.setIfInBounds_toArray, List.set_cons_zero, List.set_cons_succ])
 go_cut [12] (fun v12 wc => ∃ (kq : Nat) (x12_1 : Bool), v12 = .bool x12_1 ∧ Aside0 (boltingref04_Row.j0 kq x12_1 a0_0 a0_1 a0_2 a0_3 l0_4 = some r) ∧ Aside0 (kq ≤ k) ∧ Aside0 (wc.heap[gb308]? = some (.cells #[.int .i64 a0_0, .int .i64 a0_1, .string a0_2, .string a0_3, (.slice A0_4 l0_4.length c0_4)] 38 (0, 0))) ∧ Aside0 (Below w.heap.size w wc))
 case first =>
  have H := HC2.out
  clear HC2
  by_cases c4 : a0_1 = 1
  ·rw [if_pos c4] at H
   have c4b0 : (a0_1 == 1) = true := beq_iff_eq.mpr c4
   have c4b1 : (a0_1 != 1) = false := bne_eq_false_iff_eq.mpr c4
   clear c4
   (first | rw [c4b0] | (simp only [i64_w, i32_w]; rw [c4b0]) | skip)
   have H' := am H
   clear H
   obtain ⟨hcz5_0, hcz5_1, hcz5_2, hcz5_3, hcz5_4, hfz5_0, hfz5_1, hfz5_2, hfz5_3, hfz5_4⟩ := cz5 BK308.out
   go_wp2
   repeat (go_quiet (fail); try go_wp2)
   go_meet
   case rel => exact ⟨_, (true), zr, H', ⟨by first | omega | exact Nat.le_refl _⟩, ⟨by exact BK308.out⟩, ⟨zb1 HB GE308⟩⟩
  ·rw [if_neg c4] at H
   have c4b0 : (a0_1 == 1) = false := beq_eq_false_iff_ne.mpr c4
   have c4b1 : (a0_1 != 1) = true := bne_iff_ne.mpr c4
   (first | rw [c4b0] | (simp only [i64_w, i32_w]; rw [c4b0]) | skip)
   have H' := am H
   clear H
   obtain ⟨hcz6_0, hcz6_1, hcz6_2, hcz6_3, hcz6_4, hfz6_0, hfz6_1, hfz6_2, hfz6_3, hfz6_4⟩ := cz5 BK308.out
   go_wp2
   repeat (go_quiet (fail); try go_wp2)
   go_meet
   case rel => exact ⟨_, ((a0_1 == 2)), zr, H', ⟨by first | omega | exact Nat.le_refl _⟩, ⟨by exact BK308.out⟩, ⟨zb1 HB GE308⟩⟩
 case rest =>
  clear HC2
  try clear p2
  try clear c4
  try clear c4b0
  try clear c4b1
  try clear c5
  try clear hcz5_0
  try clear hcz5_1
  try clear hcz5_2
  try clear hcz5_3
  try clear hcz5_4
  try clear hcz6_0
  try clear hcz6_1
  try clear hcz6_2
  try clear hcz6_3
  try clear hcz6_4
  try clear hfz5_0
  try clear hfz5_1
  try clear hfz5_2
  try clear hfz5_3
  try clear hfz5_4
  try clear hfz6_0
  try clear hfz6_1
  try clear hfz6_2
  try clear hfz6_3
  try clear hfz6_4
  obtain ⟨kq, x12_1, rfl, HA, HJ1, BK308, HB⟩ := hcut
  cases kq with
  | zero => exact absurd HA.out (by simp [boltingref04_Row.j0])
  | succ kj1 =>
   have H := HA.out
   clear HA
   simp only [boltingref04_Row.j0] at H
   by_cases c7 : x12_1 = true
   ·subst c7
    replace H : (if a0_2.toList = ([] : List UInt8) then (some ((l0_4.length : Int) == 0)) else (some false)) = some r := by rw [if_pos rfl] at H; exact H
    by_cases c8 : a0_2.toList = ([] : List UInt8)
    ·rw [if_pos c8] at H
     have c8b0 : (a0_2.toList == ([] : List UInt8)) = true := beq_iff_eq.mpr c8
     have c8b1 : (a0_2.toList != ([] : List UInt8)) = false := bne_eq_false_iff_eq.mpr c8
     clear c8
     obtain rfl := Option.some.inj H
     obtain ⟨hcz9_0, hcz9_1, hcz9_2, hcz9_3, hcz9_4, hfz9_0, hfz9_1, hfz9_2, hfz9_3, hfz9_4⟩ := cz5 BK308.out
     go_wp2
     repeat (go_quiet (fail); try go_wp2)
     go_ret
     exact ⟨ze, zb1 HB GE308⟩
    ·rw [if_neg c8] at H
     have c8b0 : (a0_2.toList == ([] : List UInt8)) = false := beq_eq_false_iff_ne.mpr c8
     have c8b1 : (a0_2.toList != ([] : List UInt8)) = true := bne_iff_ne.mpr c8
     obtain rfl := Option.some.inj H
     obtain ⟨hcz10_0, hcz10_1, hcz10_2, hcz10_3, hcz10_4, hfz10_0, hfz10_1, hfz10_2, hfz10_3, hfz10_4⟩ := cz5 BK308.out
     go_wp2
     repeat (go_quiet (fail); try go_wp2)
     go_ret
     exact ⟨ze, zb1 HB GE308⟩
   ·replace c7 := Bool.eq_false_iff.mpr c7
    subst c7
    replace H : (boltingref04_Row.l0 kj1 0 a0_0 a0_1 a0_2 a0_3 l0_4) = some r := by rw [if_neg (show ¬ (false = true) by decide)] at H; exact H
    have H' := am H
    clear H
    go_wp2
    repeat (go_quiet (fail); try go_wp2)
    go_loopg [3] kj1 (fun kq v3 w' => ∃ (x3_2 : Int), v3 = .int .i64 x3_2 ∧ Aside0 (boltingref04_Row.l0 kq x3_2 a0_0 a0_1 a0_2 a0_3 l0_4 = some r) ∧ Aside0 (kq ≤ kj1) ∧ Aside0 (w'.heap[gb308]? = some (.cells #[.int .i64 a0_0, .int .i64 a0_1, .string a0_2, .string a0_3, (.slice A0_4 l0_4.length c0_4)] 38 (0, 0))) ∧ Aside0 (Below w.heap.size w w'))
    case atStart => exact ⟨(0), zr, H', ⟨Nat.le_refl _⟩, ⟨by exact BK308.out⟩, ⟨zb1 HB GE308⟩⟩
    case round =>
     clear H'
     try clear p2
     try clear c4
     try clear c4b0
     try clear c4b1
     try clear c5
     try clear c7
     try clear c8
     try clear c8b0
     try clear c8b1
     try clear hcz10_0
     try clear hcz10_1
     try clear hcz10_2
     try clear hcz10_3
     try clear hcz10_4
     try clear hcz5_0
     try clear hcz5_1
     try clear hcz5_2
     try clear hcz5_3
     try clear hcz5_4
     try clear hcz6_0
     try clear hcz6_1
     try clear hcz6_2
     try clear hcz6_3
     try clear hcz6_4
     try clear hcz9_0
     try clear hcz9_1
     try clear hcz9_2
     try clear hcz9_3
     try clear hcz9_4
     try clear hfz10_0
     try clear hfz10_1
     try clear hfz10_2
     try clear hfz10_3
     try clear hfz10_4
     try clear hfz5_0
     try clear hfz5_1
     try clear hfz5_2
     try clear hfz5_3
     try clear hfz5_4
     try clear hfz6_0
     try clear hfz6_1
     try clear hfz6_2
     try clear hfz6_3
     try clear hfz6_4
     try clear hfz9_0
     try clear hfz9_1
     try clear hfz9_2
     try clear hfz9_3
     try clear hfz9_4
     try clear p2
     obtain ⟨x3_2, rfl, HA, HK2, BK308, HB⟩ := hrel
     cases gk with
     | zero => exact absurd HA.out (by simp [boltingref04_Row.l0])
     | succ k2 =>
      have H := HA.out
      clear HA
      simp only [boltingref04_Row.l0] at H
      by_cases c11 : x3_2 < (l0_4.length : Int)
      ·rw [if_pos c11] at H
       have c11b0 : decide (x3_2 < (l0_4.length : Int)) = true := decide_eq_true c11
       clear c11
       have H' := am H
       clear H
       obtain ⟨hcz12_0, hcz12_1, hcz12_2, hcz12_3, hcz12_4, hfz12_0, hfz12_1, hfz12_2, hfz12_3, hfz12_4⟩ := cz5 BK308.out
       go_wp2
       repeat (go_quiet (fail); try go_wp2)
       go_loopg [4] k2 (fun kq v4 w' => ∃ (x4_3 : Int), v4 = .int .i64 x4_3 ∧ Aside0 (boltingref04_Row.l1 kq x3_2 x4_3 a0_0 a0_1 a0_2 a0_3 l0_4 = some r) ∧ Aside0 (kq ≤ k2) ∧ Aside0 (w'.heap[gb308]? = some (.cells #[.int .i64 a0_0, .int .i64 a0_1, .string a0_2, .string a0_3, (.slice A0_4 l0_4.length c0_4)] 38 (0, 0))) ∧ Aside0 (Below w.heap.size w w'))
       case atStart => exact ⟨(0), zr, H', ⟨Nat.le_refl _⟩, ⟨by exact BK308.out⟩, ⟨zb1 HB GE308⟩⟩
       case round =>
        clear H'
        try clear c1
        try clear p2
        try clear c4
        try clear c4b0
        try clear c4b1
        try clear c5
        try clear c7
        try clear c8
        try clear c8b0
        try clear c8b1
        try clear c11
        try clear c11b0
        try clear hcz10_0
        try clear hcz10_1
        try clear hcz10_2
        try clear hcz10_3
        try clear hcz10_4
        try clear hcz12_0
        try clear hcz12_1
        try clear hcz12_2
        try clear hcz12_3
        try clear hcz12_4
        try clear hcz5_0
        try clear hcz5_1
        try clear hcz5_2
        try clear hcz5_3
        try clear hcz5_4
        try clear hcz6_0
        try clear hcz6_1
        try clear hcz6_2
        try clear hcz6_3
        try clear hcz6_4
        try clear hcz9_0
        try clear hcz9_1
        try clear hcz9_2
        try clear hcz9_3
        try clear hcz9_4
        try clear hfz10_0
        try clear hfz10_1
        try clear hfz10_2
        try clear hfz10_3
        try clear hfz10_4
        try clear hfz12_0
        try clear hfz12_1
        try clear hfz12_2
        try clear hfz12_3
        try clear hfz12_4
        try clear hfz5_0
        try clear hfz5_1
        try clear hfz5_2
        try clear hfz5_3
        try clear hfz5_4
        try clear hfz6_0
        try clear hfz6_1
        try clear hfz6_2
        try clear hfz6_3
        try clear hfz6_4
        try clear hfz9_0
        try clear hfz9_1
        try clear hfz9_2
        try clear hfz9_3
        try clear hfz9_4
        try clear p2
        obtain ⟨x4_3, rfl, HA, HK3, BK308, HB⟩ := hrel
        cases gk with
        | zero => exact absurd HA.out (by simp [boltingref04_Row.l1])
        | succ k3 =>
         have H := HA.out
         clear HA
         simp only [boltingref04_Row.l1] at H
         by_cases c13 : x4_3 < x3_2
         ·rw [if_pos c13] at H
          have c13b0 : decide (x4_3 < x3_2) = true := decide_eq_true c13
          clear c13
          by_cases c14 : 0 ≤ x3_2
          ·rw [if_pos c14] at H
           have c14b0 : decide (0 ≤ x3_2) = true := decide_eq_true c14
           clear c14
           by_cases c15 : x3_2 < (l0_4.length : Int)
           ·rw [if_pos c15] at H
            have c15b0 : decide (x3_2 < (l0_4.length : Int)) = true := decide_eq_true c15
            clear c15
            by_cases c16 : 0 ≤ x4_3
            ·rw [if_pos c16] at H
             have c16b0 : decide (0 ≤ x4_3) = true := decide_eq_true c16
             clear c16
             by_cases c17 : x4_3 < (l0_4.length : Int)
             ·rw [if_pos c17] at H
              have c17b0 : decide (x4_3 < (l0_4.length : Int)) = true := decide_eq_true c17
              clear c17
              by_cases c18 : ((rd_T45 l0_4 x3_2).f0).toList = ((rd_T45 l0_4 x4_3).f0).toList
              ·rw [if_pos c18] at H
               have c18b0 : (((rd_T45 l0_4 x3_2).f0).toList == ((rd_T45 l0_4 x4_3).f0).toList) = true := beq_iff_eq.mpr c18
               have c18b1 : (((rd_T45 l0_4 x3_2).f0).toList != ((rd_T45 l0_4 x4_3).f0).toList) = false := bne_eq_false_iff_eq.mpr c18
               clear c18
               obtain rfl := Option.some.inj H
               obtain ⟨hcz19_0, hcz19_1, hcz19_2, hcz19_3, hcz19_4, hfz19_0, hfz19_1, hfz19_2, hfz19_3, hfz19_4⟩ := cz5 BK308.out
               have p309 : 0 ≤ (x3_2 : Int) := of_decide_eq_true za
               have q309 : x3_2 < (l0_4.length : Int) := of_decide_eq_true za
               obtain ⟨ad309, e309, hx309_0, hx309_1⟩ := at_T45 HR0_4.out x3_2 p309 q309
               cases e309
               replace hx309_0 := (HB.out.cell (World.block_lt_of_cell? w _ hx309_0)).trans hx309_0
               replace hx309_1 := (HB.out.cell (World.block_lt_of_cell? w _ hx309_1)).trans hx309_1
               replace p309 := eq_true p309
               replace q309 := eq_true q309
               have p310 : 0 ≤ (x4_3 : Int) := of_decide_eq_true za
               have q310 : x4_3 < (l0_4.length : Int) := of_decide_eq_true za
               obtain ⟨ad310, e310, hx310_0, hx310_1⟩ := at_T45 HR0_4.out x4_3 p310 q310
               obtain rfl : ad309 = ad310 := (by injection e310)
               replace hx310_0 := (HB.out.cell (World.block_lt_of_cell? w _ hx310_0)).trans hx310_0
               replace hx310_1 := (HB.out.cell (World.block_lt_of_cell? w _ hx310_1)).trans hx310_1
               replace p310 := eq_true p310
               replace q310 := eq_true q310
               go_wp2
               repeat (go_quiet (fail); try go_wp2)
               go_ret
               exact ⟨ze, zb1 HB GE308⟩
              ·rw [if_neg c18] at H
               have c18b0 : (((rd_T45 l0_4 x3_2).f0).toList == ((rd_T45 l0_4 x4_3).f0).toList) = false := beq_eq_false_iff_ne.mpr c18
               have c18b1 : (((rd_T45 l0_4 x3_2).f0).toList != ((rd_T45 l0_4 x4_3).f0).toList) = true := bne_iff_ne.mpr c18
               have H' := am H
               clear H
               obtain ⟨hcz20_0, hcz20_1, hcz20_2, hcz20_3, hcz20_4, hfz20_0, hfz20_1, hfz20_2, hfz20_3, hfz20_4⟩ := cz5 BK308.out
               have p309 : 0 ≤ (x3_2 : Int) := of_decide_eq_true za
               have q309 : x3_2 < (l0_4.length : Int) := of_decide_eq_true za
               obtain ⟨ad309, e309, hx309_0, hx309_1⟩ := at_T45 HR0_4.out x3_2 p309 q309
               cases e309
               replace hx309_0 := (HB.out.cell (World.block_lt_of_cell? w _ hx309_0)).trans hx309_0
               replace hx309_1 := (HB.out.cell (World.block_lt_of_cell? w _ hx309_1)).trans hx309_1
               replace p309 := eq_true p309
               replace q309 := eq_true q309
               have p310 : 0 ≤ (x4_3 : Int) := of_decide_eq_true za
               have q310 : x4_3 < (l0_4.length : Int) := of_decide_eq_true za
               obtain ⟨ad310, e310, hx310_0, hx310_1⟩ := at_T45 HR0_4.out x4_3 p310 q310
               obtain rfl : ad309 = ad310 := (by injection e310)
               replace hx310_0 := (HB.out.cell (World.block_lt_of_cell? w _ hx310_0)).trans hx310_0
               replace hx310_1 := (HB.out.cell (World.block_lt_of_cell? w _ hx310_1)).trans hx310_1
               replace p310 := eq_true p310
               replace q310 := eq_true q310
               go_wp2
               repeat (go_quiet (fail); try go_wp2)
               go_roundg k3
               case measure => have := HJ1.out; have := HK2.out; have := HK3.out; omega
               case rel => exact ⟨(wrap64 (x4_3 + 1)), zr, H', ⟨by have := HJ1.out; have := HK2.out; have := HK3.out; omega⟩, ⟨by exact BK308.out⟩, ⟨zb1 HB GE308⟩⟩
             ·rw [if_neg c17] at H
              exact absurd H (by simp)
            ·rw [if_neg c16] at H
             exact absurd H (by simp)
           ·rw [if_neg c15] at H
            exact absurd H (by simp)
          ·rw [if_neg c14] at H
           exact absurd H (by simp)
         ·rw [if_neg c13] at H
          have c13b0 : decide (x4_3 < x3_2) = false := decide_eq_false c13
          clear c13
          have H' := am H
          clear H
          go_wp2
          repeat (go_quiet (fail); try go_wp2)
          go_roundg k3
          case measure => have := HJ1.out; have := HK2.out; have := HK3.out; omega
          case rel => exact ⟨(wrap64 (x3_2 + 1)), zr, H', ⟨by have := HJ1.out; have := HK2.out; have := HK3.out; omega⟩, ⟨by exact BK308.out⟩, ⟨zb1 HB GE308⟩⟩
      ·rw [if_neg c11] at H
       have c11b0 : decide (x3_2 < (l0_4.length : Int)) = false := decide_eq_false c11
       clear c11
       by_cases c21 : a0_1 = 0
       ·rw [if_pos c21] at H
        have c21b0 : (a0_1 == 0) = true := beq_iff_eq.mpr c21
        have c21b1 : (a0_1 != 0) = false := bne_eq_false_iff_eq.mpr c21
        clear c21
        by_cases c22 : a0_2.toList = ([] : List UInt8)
        ·rw [if_pos c22] at H
         have c22b0 : (a0_2.toList == ([] : List UInt8)) = true := beq_iff_eq.mpr c22
         have c22b1 : (a0_2.toList != ([] : List UInt8)) = false := bne_eq_false_iff_eq.mpr c22
         clear c22
         obtain rfl := Option.some.inj H
         obtain ⟨hcz23_0, hcz23_1, hcz23_2, hcz23_3, hcz23_4, hfz23_0, hfz23_1, hfz23_2, hfz23_3, hfz23_4⟩ := cz5 BK308.out
         go_wp2
         repeat (go_quiet (fail); try go_wp2)
         go_ret
         exact ⟨ze, zb1 HB GE308⟩
        ·rw [if_neg c22] at H
         have c22b0 : (a0_2.toList == ([] : List UInt8)) = false := beq_eq_false_iff_ne.mpr c22
         have c22b1 : (a0_2.toList != ([] : List UInt8)) = true := bne_iff_ne.mpr c22
         obtain rfl := Option.some.inj H
         obtain ⟨hcz24_0, hcz24_1, hcz24_2, hcz24_3, hcz24_4, hfz24_0, hfz24_1, hfz24_2, hfz24_3, hfz24_4⟩ := cz5 BK308.out
         go_wp2
         repeat (go_quiet (fail); try go_wp2)
         go_ret
         exact ⟨ze, zb1 HB GE308⟩
       ·rw [if_neg c21] at H
        have c21b0 : (a0_1 == 0) = false := beq_eq_false_iff_ne.mpr c21
        have c21b1 : (a0_1 != 0) = true := bne_iff_ne.mpr c21
        obtain rfl := Option.some.inj H
        obtain ⟨hcz25_0, hcz25_1, hcz25_2, hcz25_3, hcz25_4, hfz25_0, hfz25_1, hfz25_2, hfz25_3, hfz25_4⟩ := cz5 BK308.out
        go_wp2
        repeat (go_quiet (fail); try go_wp2)
        go_ret
        exact ⟨ze, zb1 HB GE308⟩

end Go.Proofs.YticacakoefojbaaGreat.Pr
