-- Written by wip/tools/pr.sh out of Lean's own print of the translation. Not trusted: Lean checks it.
import Derived.Test.YthblohknnlkidaaDoorPrx0
import Derived.Test.YthblohknnlkidaaDoorPrx1
import Derived.Test.YthblohknnlkidaaDoorPrx4
import Derived.Test.YthblohknnlkidaaDoorPrx7
namespace Go.Proofs.YthblohknnlkidaaDoor.Pr
open Go.RowKit Go.Proofs.YthblohknnlkidaaDoorW.PrintWords Go.Proofs.YthblohknnlkidaaDoorW.PrintLast Go.Proofs.YthblohknnlkidaaDoorW.PrintMore
attribute [local go_sem] max2_int min2_int max_two min_two max_three min_three max_four min_four   -- for this text's walks alone
set_option linter.unusedVariables false
set_option linter.unusedSimpArgs false

/-! ### boltinglaw15_HeaderParts: function 7 -/
mutual
def boltinglaw15_HeaderParts.l0 : Nat → List (List ByteArray) → Int → Option (Bool)
  | 0, _, _ => none
  | k + 1, x3, x4 => if x4 < (x3.length : Int) then (if 0 ≤ x4 then (if ((rd_L1 x3 x4).length : Int) = 0 then (boltinglaw15_HeaderParts.j1 k x3 x4 true) else (if 0 < ((rd_L1 x3 x4).length : Int) then ((boltingref02_Lower.f (rdOf ByteArray.empty (rd_L1 x3 x4) 0)).bind fun t248 => (boltinglaw15_HeaderParts.j1 k x3 x4 (t248.toList != (rdOf ByteArray.empty (rd_L1 x3 x4) 0).toList))) else (none))) else (none)) else ((boltinglaw15_fixed.f k).bind fun t244 => (some t244))
def boltinglaw15_HeaderParts.j1 : Nat → List (List ByteArray) → Int → Bool → Option (Bool)
  | 0, _, _, _ => none
  | k + 1, x3, x4, x41 => if x41 = true then (some false) else (boltinglaw15_HeaderParts.l1 k x3 x4 0)
def boltinglaw15_HeaderParts.l1 : Nat → List (List ByteArray) → Int → Int → Option (Bool)
  | 0, _, _, _ => none
  | k + 1, x3, x4, x5 => if 0 ≤ x4 then (if x4 < (x3.length : Int) then (if x5 < ((rd_L1 x3 x4).length : Int) then (if 0 ≤ x5 then (if (rdOf ByteArray.empty (rd_L1 x3 x4) x5).toList = ([] : List UInt8) then (some false) else ((boltingref02_Words.f k (rdOf ByteArray.empty (rd_L1 x3 x4) x5)).bind fun t256 => (if (t256.length : Int) = 1 then (boltinglaw15_HeaderParts.l1 k x3 x4 (wrap64 (x5 + 1))) else (some false)))) else (none)) else (boltinglaw15_HeaderParts.l2 k x3 x4 0)) else (none)) else (none)
def boltinglaw15_HeaderParts.l2 : Nat → List (List ByteArray) → Int → Int → Option (Bool)
  | 0, _, _, _ => none
  | k + 1, x3, x4, x6 => if x6 < x4 then (if 0 ≤ x6 then (if x6 < (x3.length : Int) then (if 0 < ((rd_L1 x3 x6).length : Int) then (if 0 ≤ x4 then (if x4 < (x3.length : Int) then (if 0 < ((rd_L1 x3 x4).length : Int) then (if (rdOf ByteArray.empty (rd_L1 x3 x6) 0).toList = (rdOf ByteArray.empty (rd_L1 x3 x4) 0).toList then (some false) else (boltinglaw15_HeaderParts.l2 k x3 x4 (wrap64 (x6 + 1)))) else (none)) else (none)) else (none)) else (none)) else (none)) else (none)) else (boltinglaw15_HeaderParts.l0 k x3 (wrap64 (x4 + 1)))
end
def boltinglaw15_HeaderParts.f (k : Nat) (a0 : ByteArray) : Option (Bool) := if 0 ≤ (mn (a0.size : Int) 500) then (if (mn (a0.size : Int) 500) ≤ (a0.size : Int) then ((header_Parts.f k (a0.extract 0 ((mn (a0.size : Int) 500) : Int).toNat)).bind fun t241 => (boltinglaw15_HeaderParts.l0 k t241 0)) else (none)) else (none)
theorem boltinglaw15_HeaderParts.mono_l : ∀ k, (∀ y0 y1, LeO (boltinglaw15_HeaderParts.l0 k y0 y1) (boltinglaw15_HeaderParts.l0 (k + 1) y0 y1)) ∧ (∀ y0 y1 y2, LeO (boltinglaw15_HeaderParts.j1 k y0 y1 y2) (boltinglaw15_HeaderParts.j1 (k + 1) y0 y1 y2)) ∧ (∀ y0 y1 y2, LeO (boltinglaw15_HeaderParts.l1 k y0 y1 y2) (boltinglaw15_HeaderParts.l1 (k + 1) y0 y1 y2)) ∧ (∀ y0 y1 y2, LeO (boltinglaw15_HeaderParts.l2 k y0 y1 y2) (boltinglaw15_HeaderParts.l2 (k + 1) y0 y1 y2))
  | 0 => ⟨fun _ _ r h => by simp [boltinglaw15_HeaderParts.l0] at h, fun _ _ _ r h => by simp [boltinglaw15_HeaderParts.j1] at h, fun _ _ _ r h => by simp [boltinglaw15_HeaderParts.l1] at h, fun _ _ _ r h => by simp [boltinglaw15_HeaderParts.l2] at h⟩
  | k + 1 => by
    obtain ⟨ih0, ih1, ih2, ih3⟩ := boltinglaw15_HeaderParts.mono_l k
    refine ⟨?_, ?_, ?_, ?_⟩
    · intro y0 y1
      unfold boltinglaw15_HeaderParts.l0
      repeat' first
      | (with_reducible exact ih0 _ _)
      | (with_reducible exact ih1 _ _ _)
      | (with_reducible exact ih2 _ _ _)
      | (with_reducible exact ih3 _ _ _)
      | (with_reducible exact boltinglaw15_fixed.mono _)
      | (with_reducible exact boltingref02_Words.mono _ _)
      | (with_reducible exact header_Parts.mono _ _)
      | (with_reducible exact LeO.refl _)
      | (with_reducible exact LeO.none _)
      | (with_reducible refine LeO.ite ?_ ?_)
      | (with_reducible refine LeO.bind ?_ (fun _ => ?_))
      | exact ih0 _ _
      | exact ih1 _ _ _
      | exact ih2 _ _ _
      | exact ih3 _ _ _
      | exact boltinglaw15_fixed.mono _
      | exact boltingref02_Words.mono _ _
      | exact header_Parts.mono _ _
      | exact LeO.none _
      | refine LeO.ite ?_ ?_
      | refine LeO.bind ?_ (fun _ => ?_)
    · intro y0 y1 y2
      unfold boltinglaw15_HeaderParts.j1
      repeat' first
      | (with_reducible exact ih0 _ _)
      | (with_reducible exact ih1 _ _ _)
      | (with_reducible exact ih2 _ _ _)
      | (with_reducible exact ih3 _ _ _)
      | (with_reducible exact boltinglaw15_fixed.mono _)
      | (with_reducible exact boltingref02_Words.mono _ _)
      | (with_reducible exact header_Parts.mono _ _)
      | (with_reducible exact LeO.refl _)
      | (with_reducible exact LeO.none _)
      | (with_reducible refine LeO.ite ?_ ?_)
      | (with_reducible refine LeO.bind ?_ (fun _ => ?_))
      | exact ih0 _ _
      | exact ih1 _ _ _
      | exact ih2 _ _ _
      | exact ih3 _ _ _
      | exact boltinglaw15_fixed.mono _
      | exact boltingref02_Words.mono _ _
      | exact header_Parts.mono _ _
      | exact LeO.none _
      | refine LeO.ite ?_ ?_
      | refine LeO.bind ?_ (fun _ => ?_)
    · intro y0 y1 y2
      unfold boltinglaw15_HeaderParts.l1
      repeat' first
      | (with_reducible exact ih0 _ _)
      | (with_reducible exact ih1 _ _ _)
      | (with_reducible exact ih2 _ _ _)
      | (with_reducible exact ih3 _ _ _)
      | (with_reducible exact boltinglaw15_fixed.mono _)
      | (with_reducible exact boltingref02_Words.mono _ _)
      | (with_reducible exact header_Parts.mono _ _)
      | (with_reducible exact LeO.refl _)
      | (with_reducible exact LeO.none _)
      | (with_reducible refine LeO.ite ?_ ?_)
      | (with_reducible refine LeO.bind ?_ (fun _ => ?_))
      | exact ih0 _ _
      | exact ih1 _ _ _
      | exact ih2 _ _ _
      | exact ih3 _ _ _
      | exact boltinglaw15_fixed.mono _
      | exact boltingref02_Words.mono _ _
      | exact header_Parts.mono _ _
      | exact LeO.none _
      | refine LeO.ite ?_ ?_
      | refine LeO.bind ?_ (fun _ => ?_)
    · intro y0 y1 y2
      unfold boltinglaw15_HeaderParts.l2
      repeat' first
      | (with_reducible exact ih0 _ _)
      | (with_reducible exact ih1 _ _ _)
      | (with_reducible exact ih2 _ _ _)
      | (with_reducible exact ih3 _ _ _)
      | (with_reducible exact boltinglaw15_fixed.mono _)
      | (with_reducible exact boltingref02_Words.mono _ _)
      | (with_reducible exact header_Parts.mono _ _)
      | (with_reducible exact LeO.refl _)
      | (with_reducible exact LeO.none _)
      | (with_reducible refine LeO.ite ?_ ?_)
      | (with_reducible refine LeO.bind ?_ (fun _ => ?_))
      | exact ih0 _ _
      | exact ih1 _ _ _
      | exact ih2 _ _ _
      | exact ih3 _ _ _
      | exact boltinglaw15_fixed.mono _
      | exact boltingref02_Words.mono _ _
      | exact header_Parts.mono _ _
      | exact LeO.none _
      | refine LeO.ite ?_ ?_
      | refine LeO.bind ?_ (fun _ => ?_)
theorem boltinglaw15_HeaderParts.mono : ∀ a0 k, LeO (boltinglaw15_HeaderParts.f k a0) (boltinglaw15_HeaderParts.f (k + 1) a0) := by
  intro a0 k
  obtain ⟨ih0, ih1, ih2, ih3⟩ := boltinglaw15_HeaderParts.mono_l k
  unfold boltinglaw15_HeaderParts.f
  repeat' first
      | (with_reducible exact ih0 _ _)
      | (with_reducible exact ih1 _ _ _)
      | (with_reducible exact ih2 _ _ _)
      | (with_reducible exact ih3 _ _ _)
      | (with_reducible exact boltinglaw15_fixed.mono _)
      | (with_reducible exact boltingref02_Words.mono _ _)
      | (with_reducible exact header_Parts.mono _ _)
      | (with_reducible exact LeO.refl _)
      | (with_reducible exact LeO.none _)
      | (with_reducible refine LeO.ite ?_ ?_)
      | (with_reducible refine LeO.bind ?_ (fun _ => ?_))
      | exact ih0 _ _
      | exact ih1 _ _ _
      | exact ih2 _ _ _
      | exact ih3 _ _ _
      | exact boltinglaw15_fixed.mono _
      | exact boltingref02_Words.mono _ _
      | exact header_Parts.mono _ _
      | exact LeO.none _
      | refine LeO.ite ?_ ?_
      | refine LeO.bind ?_ (fun _ => ?_)
def boltinglaw15_HeaderParts.T6 : Bool × List (List Nat × List Nat) := (true, [([], []), ([], []), ([0, 1], [0, 1]), ([2], [2]), ([3], [3]), ([4], [4]), ([5], [5]), ([6], [6]), ([6], [6]), ([7, 8, 6], [6, 7, 8]), ([9, 6], [6, 9]), ([10, 6], [6, 10]), ([11, 6], [6, 11]), ([12, 6, 6], [6, 12]), ([6], [6]), ([6], [6]), ([14, 15, 6], [6, 14, 15]), ([16, 6], [6, 16]), ([17, 6], [6, 17]), ([18, 6], [6, 18]), ([13, 19, 6], [6, 13, 19]), ([6, 20], [6, 20])])
def boltinglaw15_HeaderParts.B6 : List Nat := [0, 0, 3, 7, 15, 31, 63, 127, 127, 511, 1023, 2047, 4095, 8191, 127, 127, 49279, 114815, 245887, 508031, 1048575, 2097151]
theorem boltinglaw15_HeaderParts.tab6 : rtab .any (opsOf Tryd.f7 6) = boltinglaw15_HeaderParts.T6 := by kernel_rfl
theorem boltinglaw15_HeaderParts.bits6 : waitsOk boltinglaw15_HeaderParts.T6.2 boltinglaw15_HeaderParts.B6 = true := by kernel_rfl
def boltinglaw15_HeaderParts.T16 : Bool × List (List Nat × List Nat) := (true, [([], []), ([], []), ([0, 1], [0, 1]), ([2], [2]), ([3], [3]), ([4], [4]), ([], []), ([], []), ([6, 7], [6, 7]), ([8], [8]), ([9], [9]), ([10], [10]), ([5, 11], [5, 11])])
def boltinglaw15_HeaderParts.B16 : List Nat := [0, 0, 3, 7, 15, 31, 0, 0, 192, 448, 960, 1984, 4095]
theorem boltinglaw15_HeaderParts.tab16 : rtab .any (opsOf Tryd.f7 16) = boltinglaw15_HeaderParts.T16 := by kernel_rfl
theorem boltinglaw15_HeaderParts.bits16 : waitsOk boltinglaw15_HeaderParts.T16.2 boltinglaw15_HeaderParts.B16 = true := by kernel_rfl
set_option maxHeartbeats 8000000 in
set_option maxRecDepth 100000 in
theorem boltinglaw15_HeaderParts.calls (k : Nat) (a0 : ByteArray) (r : Bool) (w : World) (h : boltinglaw15_HeaderParts.f k a0 = some r) :
    Calls Tryd.prog 7 #[.string a0] w fun e w' => e = .returned (.bool r) ∧ Below w.heap.size w w' := by
  have HB := Aside0.mk (Below.refl w.heap.size w)
  have H : (if 0 ≤ (mn (a0.size : Int) 500) then (if (mn (a0.size : Int) 500) ≤ (a0.size : Int) then ((header_Parts.f k (a0.extract 0 ((mn (a0.size : Int) 500) : Int).toNat)).bind fun t241 => (boltinglaw15_HeaderParts.l0 k t241 0)) else (none)) else (none)) = some r := h
  clear h
  obtain ⟨ji2, hji2⟩ : ∃ j_ : Int, (mn (a0.size : Int) 500) = j_ := ⟨_, rfl⟩
  replace H : (if 0 ≤ (ji2) then (if (ji2) ≤ (a0.size : Int) then ((header_Parts.f k (a0.extract 0 ((ji2) : Int).toNat)).bind fun t241 => (boltinglaw15_HeaderParts.l0 k t241 0)) else (none)) else (none)) = some r := by first | (rw [hji2] at H; exact H) | (simp only [hji2] at H ⊢; exact H)
  (try (have hji2h : ji2 ≤ 500 := by (rw [← hji2]; unfold mn; (repeat' split) <;> omega)))
  (try (have hji2g : ji2 ≤ 64 := by omega))
  (try (have hji2l : 0 ≤ ji2 := by (rw [← hji2]; unfold mn; (repeat' split) <;> omega)))
  (try (have hji2m : 0 ≤ ji2 := by omega))
  have hji2_ : (if 500 < (a0.size : Int) then 500 else (a0.size : Int)) = ji2 := hji2
  by_cases c3 : 0 ≤ (ji2)
  · rw [if_pos c3] at H
    have c3b0 := eq_true c3
    have c3b1 : decide (0 ≤ (ji2)) = true := decide_eq_true c3
    clear c3
    by_cases c4 : (ji2) ≤ (a0.size : Int)
    · rw [if_pos c4] at H
      have c4b0 := eq_true c4
      have c4b1 : decide ((ji2) ≤ (a0.size : Int)) = true := decide_eq_true c4
      clear c4
      obtain ⟨sx5, hsx5⟩ : ∃ s_ : ByteArray, (a0.extract 0 ((ji2) : Int).toNat) = s_ := ⟨_, rfl⟩
      replace H : ((header_Parts.f k sx5).bind fun t241 => (boltinglaw15_HeaderParts.l0 k t241 0)) = some r := by first | (rw [hsx5] at H; exact H) | (simp only [hsx5] at H ⊢; exact H) | exact H
      replace H := Option.bind_eq_some_iff.mp H
      obtain ⟨t241, A60, H⟩ := H
      replace H : (boltinglaw15_HeaderParts.l0 k t241 0) = some r := H
      have A6 := Aside0.mk A60
      clear A60
      have H' := Aside0.mk H
      clear H
      go_enter Tryd.func7, Tryd.ntmps7
      go_wp2_with (first | ((with_reducible refine gate_callee (f := 12) rfl ?_); refine goesL_ (some 13) rfl rfl Tryd.func12 (by kernel_rfl) rfl #[.string sx5] rfl (by (try simp only [List.map_toArray, List.map_cons, List.map_nil]); first | done | rfl | (simp only [List.length_drop, List.length_take]; rfl)) ?_; (with_reducible refine (header_Parts.calls k sx5 t241 _ A6.out).mono ?_); rintro e w7 ⟨v242, rfl, ho0, hb⟩; refine ⟨_, rfl, ?_⟩; have n0_ := Aside0.mk (Kd.S_lower ho0 (below_size (by repeat (first | (with_reducible first | exact HB.out | apply below_alloc | apply pw_below_drewN | apply below_drew1) | exact HB.out)))); have n1_ := Aside0.mk (below_step (by repeat (first | (with_reducible first | exact HB.out | apply below_alloc | apply pw_below_drewN | apply below_drew1) | exact HB.out)) hb); clear HB; have HO243 := n0_; have HB := n1_; clear n0_ n1_; (try clear hb); (try clear hb2); (try clear hk); (try clear hi); (try clear ho0)))
      go_loopg [4] k (fun kq v4 w' => ∃ (x4_1 : Int), v4 = .int .i64 x4_1 ∧ Aside0 (boltinglaw15_HeaderParts.l0 kq t241 x4_1 = some r) ∧ Aside0 (kq ≤ k) ∧ Aside0 (Kd.S (Kd.slice 9 Kd.string) 24 w' w.heap.size (fun _ => True) v242 t241) ∧ Aside0 (Below w.heap.size w w'))
      case atStart => exact ⟨(0), (by first | rfl | (simp; done) | (simp [*]; done)), H', ⟨Nat.le_refl _⟩, ⟨by (with_reducible repeat (first | apply Kd.S_alloc | apply Kd.S_drewN | apply Kd.S_drew)); exact HO243.out⟩, ⟨by repeat (first | (with_reducible first | exact HB.out | apply below_alloc | apply pw_below_drewN | apply below_drew1) | exact HB.out)⟩⟩
      case round =>
        clear H'
        try clear c1
        try clear p2
        try clear c3
        try clear c3b0
        try clear c3b1
        try clear c4
        try clear c4b0
        try clear c4b1
        try clear c7
        obtain ⟨x4_1, rfl, HA, HK1, HO_3, HB⟩ := hrel
        cases gk with
        | zero => exact absurd HA.out (by simp [boltinglaw15_HeaderParts.l0])
        | succ k1 =>
          have H := HA.out
          clear HA
          simp only [boltinglaw15_HeaderParts.l0] at H
          by_cases c8 : x4_1 < (t241.length : Int)
          · rw [if_pos c8] at H
            have c8b0 : decide (x4_1 < (t241.length : Int)) = true := decide_eq_true c8
            clear c8
            have HC9 := Aside0.mk H
            clear H
            obtain ⟨Ao10, co10, eo10⟩ := Kd.S_slice HO_3.out
            subst eo10
            go_upto_region 6 with (fail)
            go_cut [41] (fun v41 wc => ∃ (kq : Nat) (x41_8 : Bool), v41 = .bool x41_8 ∧ Aside0 (boltinglaw15_HeaderParts.j1 kq t241 x4_1 x41_8 = some r) ∧ Aside0 (kq ≤ k1) ∧ Aside0 (Kd.S (Kd.slice 9 Kd.string) 24 wc w.heap.size (fun _ => True) (.slice Ao10 t241.length co10) t241) ∧ Aside0 (Below w.heap.size w wc))
            case first =>
              have H := HC9.out
              clear HC9
              by_cases c11 : 0 ≤ x4_1
              · rw [if_pos c11] at H
                have c11b0 : decide (0 ≤ x4_1) = true := decide_eq_true c11
                clear c11
                (first | rw [c11b0] | (simp only [i64_w, i32_w]; rw [c11b0]) | skip)
                by_cases c12 : ((rd_L1 t241 x4_1).length : Int) = 0
                · rw [if_pos c12] at H
                  have c12b0 : (((rd_L1 t241 x4_1).length : Int) == 0) = true := beq_iff_eq.mpr c12
                  have c12b1 : (((rd_L1 t241 x4_1).length : Int) != 0) = false := bne_eq_false_iff_eq.mpr c12
                  clear c12
                  have H' := Aside0.mk H
                  clear H
                  try go_wp2
                  have n0_ := Aside0.mk (Kd.S_drew HO_3.out)
                  have n1_ := Aside0.mk (below_drew1 HB.out)
                  clear HO_3
                  clear HB
                  have HO_3 := n0_
                  have HB := n1_
                  clear n0_ n1_
                  have p245 : 0 ≤ (x4_1 : Int) := of_decide_eq_true (by first | (with_reducible assumption) | assumption)
                  have q245 : x4_1 < (t241.length : Int) := of_decide_eq_true (by first | (with_reducible assumption) | assumption)
                  obtain ⟨ad245, A245_0, c245_0, e245, hx245_0, hl245_0, hi245_0⟩ := at_L1 (Kd.S_reads' HO_3.out).2.2 x4_1 p245 q245
                  cases e245
                  obtain ⟨ce245, hce245, hMe245, hcc245⟩ := Kd.S_get HO_3.out [] x4_1 p245 (by first | exact q245 | exact of_decide_eq_true (by first | (with_reducible assumption) | assumption) | (have e_ := (Kd.S_reads' HO_3.out).1; omega))
                  obtain ⟨ve245_0, rfl, ge245_0⟩ := hMe245
                  have hv245_0 := hcc245 0 _ rfl
                  rw [Nat.add_zero, show ((Kd.slice 9 Kd.string)).sz = 1 from rfl, Nat.mul_one] at hv245_0
                  replace hv245_0 := Option.some.inj (hv245_0.symm.trans hx245_0)
                  rw [hv245_0] at ge245_0
                  have HL245_0 := Aside0.mk (show Kd.R Kd.string 9 _ _ _ _ (rd_L1 t241 x4_1) from ge245_0)
                  clear hv245_0 ge245_0
                  clear hcc245 hce245
                  have HR245_0 := Aside0.mk hi245_0
                  have HC245_0 := Aside0.mk hl245_0
                  clear hi245_0 hl245_0
                  replace p245 := eq_true p245
                  replace q245 := eq_true q245
                  refine start_ (n := 22) (S := fun w' => w'.cell? (ad245.add (x4_1).toNat) = some (.slice A245_0 (rd_L1 t241 x4_1).length c245_0)) (ds := []) #[false, false, false, false, false, false, false, false, false, false, false, false, false, false, false, false, false, false, false, false, false, false] (by kernel_rfl) rfl rfl (hx245_0) (fun hHeld => ?_); refine with_tabW boltinglaw15_HeaderParts.tab6 boltinglaw15_HeaderParts.bits6 (fun HT_ HW_ => ?_)
                  generalize wr.drew = w13 at HO_3 HB HL245_0 HR245_0 hx245_0 hHeld ⊢
                  refine pure_ (i := 0) (N := some 20) (v := ?_) (a' := ?_) #[true, false, false, false, false, false, false, false, false, false, false, false, false, false, false, false, false, false, false, false, false, false] rfl rfl (any_of HT_.out (by kernel_rfl)) (fun _ _ _ h => h) (Or.inl ⟨by rfl, ?_⟩) ?_ ?_
                  rotate_left
                  · intro w'
                    go_simp
                    with_reducible rfl
                  rotate_left
                  · simp only [Act.put, List.setIfInBounds_toArray, List.set_cons_zero, List.set_cons_succ, i64_w, i32_w]
                    rfl
                  refine pure_ (i := 1) (N := some 21) (v := ?_) (a' := ?_) #[true, true, false, false, false, false, false, false, false, false, false, false, false, false, false, false, false, false, false, false, false, false] rfl rfl (any_of HT_.out (by kernel_rfl)) (fun _ _ _ h => h) (Or.inl ⟨by rfl, ?_⟩) ?_ ?_
                  rotate_left
                  · intro w'
                    go_simp
                    with_reducible rfl
                  rotate_left
                  · simp only [Act.put, List.setIfInBounds_toArray, List.set_cons_zero, List.set_cons_succ, i64_w, i32_w]
                    rfl
                  refine pure_ (i := 2) (N := some 22) (v := ?_) (a' := ?_) #[true, true, true, false, false, false, false, false, false, false, false, false, false, false, false, false, false, false, false, false, false, false] rfl rfl (any_of HT_.out (by kernel_rfl)) (fun _ _ _ h => h) (Or.inl ⟨by rfl, ?_⟩) ?_ ?_
                  rotate_left
                  · intro w'
                    go_simp
                    with_reducible rfl
                  rotate_left
                  · simp only [Act.put, List.setIfInBounds_toArray, List.set_cons_zero, List.set_cons_succ, i64_w, i32_w]
                    rfl
                  refine take_ (i := 3) (N := some 23) (v := ?_) (a' := ?_) #[true, true, true, true, false, false, false, false, false, false, false, false, false, false, false, false, false, false, false, false, false, false] rfl rfl (take_ofW HT_.out HW_.out (by kernel_rfl)) (fun _ _ _ h => h) (Or.inl ⟨by rfl, ?_⟩) hHeld ?_ ?_
                  rotate_left
                  · intro w' s0
                    go_simp
                    with_reducible rfl
                  rotate_left
                  · simp only [Act.put, List.setIfInBounds_toArray, List.set_cons_zero, List.set_cons_succ, i64_w, i32_w]
                    rfl
                  refine pure_ (i := 4) (N := some 24) (v := ?_) (a' := ?_) #[true, true, true, true, true, false, false, false, false, false, false, false, false, false, false, false, false, false, false, false, false, false] rfl rfl (any_of HT_.out (by kernel_rfl)) (fun _ _ _ h => h) (Or.inl ⟨by rfl, ?_⟩) ?_ ?_
                  rotate_left
                  · intro w'
                    go_simp
                    with_reducible rfl
                  rotate_left
                  · simp only [Act.put, List.setIfInBounds_toArray, List.set_cons_zero, List.set_cons_succ, i64_w, i32_w]
                    rfl
                  refine pure_ (i := 5) (N := some 25) (v := ?_) (a' := ?_) #[true, true, true, true, true, true, false, false, false, false, false, false, false, false, false, false, false, false, false, false, false, false] rfl rfl (any_of HT_.out (by kernel_rfl)) (fun _ _ _ h => h) (Or.inl ⟨by rfl, ?_⟩) ?_ ?_
                  rotate_left
                  · intro w'
                    go_simp
                    with_reducible rfl
                  rotate_left
                  · simp only [Act.put, List.setIfInBounds_toArray, List.set_cons_zero, List.set_cons_succ, i64_w, i32_w]
                    rfl
                  refine pure_ (i := 6) (N := some 26) (v := ?_) (a' := ?_) #[true, true, true, true, true, true, true, false, false, false, false, false, false, false, false, false, false, false, false, false, false, false] rfl rfl (any_of HT_.out (by kernel_rfl)) (fun _ _ _ h => h) (Or.inl ⟨by rfl, ?_⟩) ?_ ?_
                  rotate_left
                  · intro w'
                    go_simp
                    with_reducible rfl
                  rotate_left
                  · simp only [Act.put, List.setIfInBounds_toArray, List.set_cons_zero, List.set_cons_succ, i64_w, i32_w]
                    rfl
                  refine pure_ (i := 7) (N := some 27) (v := undef) (a' := ?_) #[true, true, true, true, true, true, true, true, false, false, false, false, false, false, false, false, false, false, false, false, false, false] rfl rfl (any_of HT_.out (by kernel_rfl)) (fun _ _ _ h => h) (Or.inr ⟨by rfl, rfl⟩) ?_ ?_
                  rotate_left
                  · simp only [Act.put, List.setIfInBounds_toArray, List.set_cons_zero, List.set_cons_succ, i64_w, i32_w]
                    rfl
                  refine pure_ (i := 8) (N := some 28) (v := undef) (a' := ?_) #[true, true, true, true, true, true, true, true, true, false, false, false, false, false, false, false, false, false, false, false, false, false] rfl rfl (any_of HT_.out (by kernel_rfl)) (fun _ _ _ h => h) (Or.inr ⟨by rfl, rfl⟩) ?_ ?_
                  rotate_left
                  · simp only [Act.put, List.setIfInBounds_toArray, List.set_cons_zero, List.set_cons_succ, i64_w, i32_w]
                    rfl
                  refine pure_ (i := 9) (N := some 29) (v := undef) (a' := ?_) #[true, true, true, true, true, true, true, true, true, true, false, false, false, false, false, false, false, false, false, false, false, false] rfl rfl (any_of HT_.out (by kernel_rfl)) (fun _ _ _ h => h) (Or.inr ⟨by rfl, rfl⟩) ?_ ?_
                  rotate_left
                  · simp only [Act.put, List.setIfInBounds_toArray, List.set_cons_zero, List.set_cons_succ, i64_w, i32_w]
                    rfl
                  refine pure_ (i := 10) (N := some 30) (v := undef) (a' := ?_) #[true, true, true, true, true, true, true, true, true, true, true, false, false, false, false, false, false, false, false, false, false, false] rfl rfl (any_of HT_.out (by kernel_rfl)) (fun _ _ _ h => h) (Or.inr ⟨by rfl, rfl⟩) ?_ ?_
                  rotate_left
                  · simp only [Act.put, List.setIfInBounds_toArray, List.set_cons_zero, List.set_cons_succ, i64_w, i32_w]
                    rfl
                  refine pure_ (i := 11) (N := some 31) (v := undef) (a' := ?_) #[true, true, true, true, true, true, true, true, true, true, true, true, false, false, false, false, false, false, false, false, false, false] rfl rfl (any_of HT_.out (by kernel_rfl)) (fun _ _ _ h => h) (Or.inr ⟨by rfl, rfl⟩) ?_ ?_
                  rotate_left
                  · simp only [Act.put, List.setIfInBounds_toArray, List.set_cons_zero, List.set_cons_succ, i64_w, i32_w]
                    rfl
                  refine pure_ (i := 12) (N := some 32) (v := undef) (a' := ?_) #[true, true, true, true, true, true, true, true, true, true, true, true, true, false, false, false, false, false, false, false, false, false] rfl rfl (any_of HT_.out (by kernel_rfl)) (fun _ _ _ h => h) (Or.inr ⟨by rfl, rfl⟩) ?_ ?_
                  rotate_left
                  · simp only [Act.put, List.setIfInBounds_toArray, List.set_cons_zero, List.set_cons_succ, i64_w, i32_w]
                    rfl
                  refine pure_ (i := 13) (N := some 33) (v := undef) (a' := ?_) #[true, true, true, true, true, true, true, true, true, true, true, true, true, true, false, false, false, false, false, false, false, false] rfl rfl (any_of HT_.out (by kernel_rfl)) (fun _ _ _ h => h) (Or.inr ⟨by rfl, rfl⟩) ?_ ?_
                  rotate_left
                  · simp only [Act.put, List.setIfInBounds_toArray, List.set_cons_zero, List.set_cons_succ, i64_w, i32_w]
                    rfl
                  refine pure_ (i := 14) (N := some 34) (v := undef) (a' := ?_) #[true, true, true, true, true, true, true, true, true, true, true, true, true, true, true, false, false, false, false, false, false, false] rfl rfl (any_of HT_.out (by kernel_rfl)) (fun _ _ _ h => h) (Or.inr ⟨by rfl, rfl⟩) ?_ ?_
                  rotate_left
                  · simp only [Act.put, List.setIfInBounds_toArray, List.set_cons_zero, List.set_cons_succ, i64_w, i32_w]
                    rfl
                  refine pure_ (i := 15) (N := some 35) (v := undef) (a' := ?_) #[true, true, true, true, true, true, true, true, true, true, true, true, true, true, true, true, false, false, false, false, false, false] rfl rfl (any_of HT_.out (by kernel_rfl)) (fun _ _ _ h => h) (Or.inr ⟨by rfl, rfl⟩) ?_ ?_
                  rotate_left
                  · simp only [Act.put, List.setIfInBounds_toArray, List.set_cons_zero, List.set_cons_succ, i64_w, i32_w]
                    rfl
                  refine pure_ (i := 16) (N := some 36) (v := undef) (a' := ?_) #[true, true, true, true, true, true, true, true, true, true, true, true, true, true, true, true, true, false, false, false, false, false] rfl rfl (any_of HT_.out (by kernel_rfl)) (fun _ _ _ h => h) (Or.inr ⟨by rfl, rfl⟩) ?_ ?_
                  rotate_left
                  · simp only [Act.put, List.setIfInBounds_toArray, List.set_cons_zero, List.set_cons_succ, i64_w, i32_w]
                    rfl
                  refine pure_ (i := 17) (N := some 37) (v := undef) (a' := ?_) #[true, true, true, true, true, true, true, true, true, true, true, true, true, true, true, true, true, true, false, false, false, false] rfl rfl (any_of HT_.out (by kernel_rfl)) (fun _ _ _ h => h) (Or.inr ⟨by rfl, rfl⟩) ?_ ?_
                  rotate_left
                  · simp only [Act.put, List.setIfInBounds_toArray, List.set_cons_zero, List.set_cons_succ, i64_w, i32_w]
                    rfl
                  refine pure_ (i := 18) (N := some 38) (v := undef) (a' := ?_) #[true, true, true, true, true, true, true, true, true, true, true, true, true, true, true, true, true, true, true, false, false, false] rfl rfl (any_of HT_.out (by kernel_rfl)) (fun _ _ _ h => h) (Or.inr ⟨by rfl, rfl⟩) ?_ ?_
                  rotate_left
                  · simp only [Act.put, List.setIfInBounds_toArray, List.set_cons_zero, List.set_cons_succ, i64_w, i32_w]
                    rfl
                  refine pure_ (i := 19) (N := some 39) (v := undef) (a' := ?_) #[true, true, true, true, true, true, true, true, true, true, true, true, true, true, true, true, true, true, true, true, false, false] rfl rfl (any_of HT_.out (by kernel_rfl)) (fun _ _ _ h => h) (Or.inr ⟨by rfl, rfl⟩) ?_ ?_
                  rotate_left
                  · simp only [Act.put, List.setIfInBounds_toArray, List.set_cons_zero, List.set_cons_succ, i64_w, i32_w]
                    rfl
                  refine pure_ (i := 20) (N := some 40) (v := undef) (a' := ?_) #[true, true, true, true, true, true, true, true, true, true, true, true, true, true, true, true, true, true, true, true, true, false] rfl rfl (any_of HT_.out (by kernel_rfl)) (fun _ _ _ h => h) (Or.inr ⟨by rfl, rfl⟩) ?_ ?_
                  rotate_left
                  · simp only [Act.put, List.setIfInBounds_toArray, List.set_cons_zero, List.set_cons_succ, i64_w, i32_w]
                    rfl
                  refine pure_ (i := 21) (N := some 41) (v := ?_) (a' := ?_) #[true, true, true, true, true, true, true, true, true, true, true, true, true, true, true, true, true, true, true, true, true, true] rfl rfl (any_of HT_.out (by kernel_rfl)) (fun _ _ _ h => h) (Or.inl ⟨by rfl, ?_⟩) ?_ ?_
                  rotate_left
                  · intro w'
                    go_simp
                    with_reducible rfl
                  rotate_left
                  · simp only [Act.put, List.setIfInBounds_toArray, List.set_cons_zero, List.set_cons_succ, i64_w, i32_w]
                    rfl
                  refine done_ (done_of HT_.out (by kernel_rfl)) ?_
                  try go_wp2
                  go_meet
                  case rel => exact ⟨_, (true), (by first | rfl | (simp; done) | (simp [*]; done)), H', ⟨by have := HK1.out; first | omega | exact Nat.le_refl _⟩, ⟨by (with_reducible repeat (first | apply Kd.S_alloc | apply Kd.S_drewN | apply Kd.S_drew)); exact HO_3.out⟩, ⟨by repeat (first | (with_reducible first | exact HB.out | apply below_alloc | apply pw_below_drewN | apply below_drew1) | exact HB.out)⟩⟩
                · rw [if_neg c12] at H
                  have c12b0 : (((rd_L1 t241 x4_1).length : Int) == 0) = false := beq_eq_false_iff_ne.mpr c12
                  have c12b1 : (((rd_L1 t241 x4_1).length : Int) != 0) = true := bne_iff_ne.mpr c12
                  have c12b2 : ¬ ((rd_L1 t241 x4_1) = []) := fun h_ => c12 (by rw [h_]; rfl)
                  by_cases c14 : 0 < ((rd_L1 t241 x4_1).length : Int)
                  · rw [if_pos c14] at H
                    have c14b0 : decide (0 < ((rd_L1 t241 x4_1).length : Int)) = true := decide_eq_true c14
                    have c14b1 : decide (0 < (rd_L1 t241 x4_1).length) = true := decide_eq_true (by omega)
                    clear c14
                    replace H := Option.bind_eq_some_iff.mp H
                    obtain ⟨t248, A150, H⟩ := H
                    replace H : (boltinglaw15_HeaderParts.j1 k1 t241 x4_1 (t248.toList != (rdOf ByteArray.empty (rd_L1 t241 x4_1) 0).toList)) = some r := H
                    have A15 := Aside0.mk A150
                    clear A150
                    have H' := Aside0.mk H
                    clear H
                    try go_wp2
                    have n0_ := Aside0.mk (Kd.S_drew HO_3.out)
                    have n1_ := Aside0.mk (below_drew1 HB.out)
                    clear HO_3
                    clear HB
                    have HO_3 := n0_
                    have HB := n1_
                    clear n0_ n1_
                    have p245 : 0 ≤ (x4_1 : Int) := of_decide_eq_true (by first | (with_reducible assumption) | assumption)
                    have q245 : x4_1 < (t241.length : Int) := of_decide_eq_true (by first | (with_reducible assumption) | assumption)
                    obtain ⟨ad245, A245_0, c245_0, e245, hx245_0, hl245_0, hi245_0⟩ := at_L1 (Kd.S_reads' HO_3.out).2.2 x4_1 p245 q245
                    cases e245
                    obtain ⟨ce245, hce245, hMe245, hcc245⟩ := Kd.S_get HO_3.out [] x4_1 p245 (by first | exact q245 | exact of_decide_eq_true (by first | (with_reducible assumption) | assumption) | (have e_ := (Kd.S_reads' HO_3.out).1; omega))
                    obtain ⟨ve245_0, rfl, ge245_0⟩ := hMe245
                    have hv245_0 := hcc245 0 _ rfl
                    rw [Nat.add_zero, show ((Kd.slice 9 Kd.string)).sz = 1 from rfl, Nat.mul_one] at hv245_0
                    replace hv245_0 := Option.some.inj (hv245_0.symm.trans hx245_0)
                    rw [hv245_0] at ge245_0
                    have HL245_0 := Aside0.mk (show Kd.R Kd.string 9 _ _ _ _ (rd_L1 t241 x4_1) from ge245_0)
                    clear hv245_0 ge245_0
                    clear hcc245 hce245
                    have HR245_0 := Aside0.mk hi245_0
                    have HC245_0 := Aside0.mk hl245_0
                    clear hi245_0 hl245_0
                    replace p245 := eq_true p245
                    replace q245 := eq_true q245
                    have p246 : 0 ≤ (x4_1 : Int) := of_decide_eq_true (by first | (with_reducible assumption) | assumption)
                    have q246 : x4_1 < (t241.length : Int) := of_decide_eq_true (by first | (with_reducible assumption) | assumption)
                    obtain ⟨ad246, A246_0, c246_0, e246, hx246_0, hl246_0, hi246_0⟩ := at_L1 (Kd.S_reads' HO_3.out).2.2 x4_1 p246 q246
                    obtain rfl : ad245 = ad246 := (by injection e246)
                    obtain ⟨ce246, hce246, hMe246, hcc246⟩ := Kd.S_get HO_3.out [] x4_1 p246 (by first | exact q246 | exact of_decide_eq_true (by first | (with_reducible assumption) | assumption) | (have e_ := (Kd.S_reads' HO_3.out).1; omega))
                    obtain ⟨ve246_0, rfl, ge246_0⟩ := hMe246
                    have hv246_0 := hcc246 0 _ rfl
                    rw [Nat.add_zero, show ((Kd.slice 9 Kd.string)).sz = 1 from rfl, Nat.mul_one] at hv246_0
                    replace hv246_0 := Option.some.inj (hv246_0.symm.trans hx246_0)
                    rw [hv246_0] at ge246_0
                    have HL246_0 := Aside0.mk (show Kd.R Kd.string 9 _ _ _ _ (rd_L1 t241 x4_1) from ge246_0)
                    clear hv246_0 ge246_0
                    clear hcc246 hce246
                    have HR246_0 := Aside0.mk hi246_0
                    have HC246_0 := Aside0.mk hl246_0
                    clear hi246_0 hl246_0
                    replace p246 := eq_true p246
                    replace q246 := eq_true q246
                    have ea_ := Option.some.inj (hx245_0.symm.trans hx246_0)
                    injection ea_ with ea_ en_ ec_
                    subst ea_
                    subst ec_
                    clear en_
                    have p247 : 0 ≤ (0 : Int) := (by omega)
                    have q247 : 0 < ((rd_L1 t241 x4_1).length : Int) := of_decide_eq_true (by first | (with_reducible assumption) | assumption)
                    obtain ⟨ad247, e247, hx247_0⟩ := Kd.at_string (by repeat (first | (with_reducible exact HR246_0.out) | (with_reducible refine Kd.C_alloc ?_ _) | (with_reducible refine Kd.C_drewN ?_ _) | (with_reducible refine Kd.C_drew ?_) | exact HR246_0.out)) 0 p247 q247
                    cases e247
                    have qi247 : (0 < (rd_L1 t241 x4_1).length) = True := eq_true (by omega)
                    (try rw [show ((0 : Int)).toNat = 0 from rfl] at hx247_0)
                    (try rw [Addr.add_zero'] at hx247_0)
                    replace p247 := eq_true p247
                    replace q247 := eq_true q247
                    have p249 : 0 ≤ (x4_1 : Int) := of_decide_eq_true (by first | (with_reducible assumption) | assumption)
                    have q249 : x4_1 < (t241.length : Int) := of_decide_eq_true (by first | (with_reducible assumption) | assumption)
                    obtain ⟨ad249, A249_0, c249_0, e249, hx249_0, hl249_0, hi249_0⟩ := at_L1 (Kd.S_reads' HO_3.out).2.2 x4_1 p249 q249
                    obtain rfl : ad245 = ad249 := (by injection e249)
                    obtain ⟨ce249, hce249, hMe249, hcc249⟩ := Kd.S_get HO_3.out [] x4_1 p249 (by first | exact q249 | exact of_decide_eq_true (by first | (with_reducible assumption) | assumption) | (have e_ := (Kd.S_reads' HO_3.out).1; omega))
                    obtain ⟨ve249_0, rfl, ge249_0⟩ := hMe249
                    have hv249_0 := hcc249 0 _ rfl
                    rw [Nat.add_zero, show ((Kd.slice 9 Kd.string)).sz = 1 from rfl, Nat.mul_one] at hv249_0
                    replace hv249_0 := Option.some.inj (hv249_0.symm.trans hx249_0)
                    rw [hv249_0] at ge249_0
                    have HL249_0 := Aside0.mk (show Kd.R Kd.string 9 _ _ _ _ (rd_L1 t241 x4_1) from ge249_0)
                    clear hv249_0 ge249_0
                    clear hcc249 hce249
                    have HR249_0 := Aside0.mk hi249_0
                    have HC249_0 := Aside0.mk hl249_0
                    clear hi249_0 hl249_0
                    replace p249 := eq_true p249
                    replace q249 := eq_true q249
                    have ea_ := Option.some.inj (hx245_0.symm.trans hx249_0)
                    injection ea_ with ea_ en_ ec_
                    subst ea_
                    subst ec_
                    clear en_
                    have p250 : 0 ≤ (0 : Int) := (by omega)
                    have q250 : 0 < ((rd_L1 t241 x4_1).length : Int) := of_decide_eq_true (by first | (with_reducible assumption) | assumption)
                    obtain ⟨ad250, e250, hx250_0⟩ := Kd.at_string (by repeat (first | (with_reducible exact HR249_0.out) | (with_reducible refine Kd.C_alloc ?_ _) | (with_reducible refine Kd.C_drewN ?_ _) | (with_reducible refine Kd.C_drew ?_) | exact HR249_0.out)) 0 p250 q250
                    obtain rfl : ad247 = ad250 := (by injection e250)
                    have qi250 : (0 < (rd_L1 t241 x4_1).length) = True := eq_true (by omega)
                    (try rw [show ((0 : Int)).toNat = 0 from rfl] at hx250_0)
                    (try rw [Addr.add_zero'] at hx250_0)
                    replace p250 := eq_true p250
                    replace q250 := eq_true q250
                    refine start_ (n := 22) (S := fun w' => w'.cell? (ad245.add (x4_1).toNat) = some (.slice (some ad247) (rd_L1 t241 x4_1).length c245_0) ∧ w'.cell? (ad245.add (x4_1).toNat) = some (.slice (some ad247) (rd_L1 t241 x4_1).length c245_0) ∧ w'.cell? ad247 = some (.string (rdOf ByteArray.empty (rd_L1 t241 x4_1) 0)) ∧ w'.cell? (ad245.add (x4_1).toNat) = some (.slice (some ad247) (rd_L1 t241 x4_1).length c245_0) ∧ w'.cell? ad247 = some (.string (rdOf ByteArray.empty (rd_L1 t241 x4_1) 0))) (ds := []) #[false, false, false, false, false, false, false, false, false, false, false, false, false, false, false, false, false, false, false, false, false, false] (by kernel_rfl) rfl rfl ⟨hx245_0, hx246_0, hx247_0, hx249_0, hx250_0⟩ (fun hHeld => ?_); refine with_tabW boltinglaw15_HeaderParts.tab6 boltinglaw15_HeaderParts.bits6 (fun HT_ HW_ => ?_)
                    generalize wr.drew = w16 at HO_3 HB HL245_0 HL246_0 HL249_0 HR245_0 HR246_0 HR249_0 hx245_0 hx246_0 hx247_0 hx249_0 hx250_0 hHeld ⊢
                    refine pure_ (i := 0) (N := some 20) (v := ?_) (a' := ?_) #[true, false, false, false, false, false, false, false, false, false, false, false, false, false, false, false, false, false, false, false, false, false] rfl rfl (any_of HT_.out (by kernel_rfl)) (fun _ _ _ h => h) (Or.inl ⟨by rfl, ?_⟩) ?_ ?_
                    rotate_left
                    · intro w'
                      go_simp
                      with_reducible rfl
                    rotate_left
                    · simp only [Act.put, List.setIfInBounds_toArray, List.set_cons_zero, List.set_cons_succ, i64_w, i32_w]
                      rfl
                    refine pure_ (i := 1) (N := some 21) (v := ?_) (a' := ?_) #[true, true, false, false, false, false, false, false, false, false, false, false, false, false, false, false, false, false, false, false, false, false] rfl rfl (any_of HT_.out (by kernel_rfl)) (fun _ _ _ h => h) (Or.inl ⟨by rfl, ?_⟩) ?_ ?_
                    rotate_left
                    · intro w'
                      go_simp
                      with_reducible rfl
                    rotate_left
                    · simp only [Act.put, List.setIfInBounds_toArray, List.set_cons_zero, List.set_cons_succ, i64_w, i32_w]
                      rfl
                    refine pure_ (i := 2) (N := some 22) (v := ?_) (a' := ?_) #[true, true, true, false, false, false, false, false, false, false, false, false, false, false, false, false, false, false, false, false, false, false] rfl rfl (any_of HT_.out (by kernel_rfl)) (fun _ _ _ h => h) (Or.inl ⟨by rfl, ?_⟩) ?_ ?_
                    rotate_left
                    · intro w'
                      go_simp
                      with_reducible rfl
                    rotate_left
                    · simp only [Act.put, List.setIfInBounds_toArray, List.set_cons_zero, List.set_cons_succ, i64_w, i32_w]
                      rfl
                    refine take_ (i := 3) (N := some 23) (v := ?_) (a' := ?_) #[true, true, true, true, false, false, false, false, false, false, false, false, false, false, false, false, false, false, false, false, false, false] rfl rfl (take_ofW HT_.out HW_.out (by kernel_rfl)) (fun _ _ _ h => h) (Or.inl ⟨by rfl, ?_⟩) hHeld ?_ ?_
                    rotate_left
                    · rintro w' ⟨s0, s1, s2, s3, s4⟩
                      go_simp
                      with_reducible rfl
                    rotate_left
                    · simp only [Act.put, List.setIfInBounds_toArray, List.set_cons_zero, List.set_cons_succ, i64_w, i32_w]
                      rfl
                    refine pure_ (i := 4) (N := some 24) (v := ?_) (a' := ?_) #[true, true, true, true, true, false, false, false, false, false, false, false, false, false, false, false, false, false, false, false, false, false] rfl rfl (any_of HT_.out (by kernel_rfl)) (fun _ _ _ h => h) (Or.inl ⟨by rfl, ?_⟩) ?_ ?_
                    rotate_left
                    · intro w'
                      go_simp
                      with_reducible rfl
                    rotate_left
                    · simp only [Act.put, List.setIfInBounds_toArray, List.set_cons_zero, List.set_cons_succ, i64_w, i32_w]
                      rfl
                    refine pure_ (i := 5) (N := some 25) (v := ?_) (a' := ?_) #[true, true, true, true, true, true, false, false, false, false, false, false, false, false, false, false, false, false, false, false, false, false] rfl rfl (any_of HT_.out (by kernel_rfl)) (fun _ _ _ h => h) (Or.inl ⟨by rfl, ?_⟩) ?_ ?_
                    rotate_left
                    · intro w'
                      go_simp
                      with_reducible rfl
                    rotate_left
                    · simp only [Act.put, List.setIfInBounds_toArray, List.set_cons_zero, List.set_cons_succ, i64_w, i32_w]
                      rfl
                    refine pure_ (i := 6) (N := some 26) (v := ?_) (a' := ?_) #[true, true, true, true, true, true, true, false, false, false, false, false, false, false, false, false, false, false, false, false, false, false] rfl rfl (any_of HT_.out (by kernel_rfl)) (fun _ _ _ h => h) (Or.inl ⟨by rfl, ?_⟩) ?_ ?_
                    rotate_left
                    · intro w'
                      go_simp
                      with_reducible rfl
                    rotate_left
                    · simp only [Act.put, List.setIfInBounds_toArray, List.set_cons_zero, List.set_cons_succ, i64_w, i32_w]
                      rfl
                    refine pure_ (i := 7) (N := some 27) (v := ?_) (a' := ?_) #[true, true, true, true, true, true, true, true, false, false, false, false, false, false, false, false, false, false, false, false, false, false] rfl rfl (any_of HT_.out (by kernel_rfl)) (fun _ _ _ h => h) (Or.inl ⟨by rfl, ?_⟩) ?_ ?_
                    rotate_left
                    · intro w'
                      go_simp
                      with_reducible rfl
                    rotate_left
                    · simp only [Act.put, List.setIfInBounds_toArray, List.set_cons_zero, List.set_cons_succ, i64_w, i32_w]
                      rfl
                    refine pure_ (i := 8) (N := some 28) (v := ?_) (a' := ?_) #[true, true, true, true, true, true, true, true, true, false, false, false, false, false, false, false, false, false, false, false, false, false] rfl rfl (any_of HT_.out (by kernel_rfl)) (fun _ _ _ h => h) (Or.inl ⟨by rfl, ?_⟩) ?_ ?_
                    rotate_left
                    · intro w'
                      go_simp
                      with_reducible rfl
                    rotate_left
                    · simp only [Act.put, List.setIfInBounds_toArray, List.set_cons_zero, List.set_cons_succ, i64_w, i32_w]
                      rfl
                    refine pure_ (i := 9) (N := some 29) (v := ?_) (a' := ?_) #[true, true, true, true, true, true, true, true, true, true, false, false, false, false, false, false, false, false, false, false, false, false] rfl rfl (any_of HT_.out (by kernel_rfl)) (fun _ _ _ h => h) (Or.inl ⟨by rfl, ?_⟩) ?_ ?_
                    rotate_left
                    · intro w'
                      go_simp
                      with_reducible rfl
                    rotate_left
                    · simp only [Act.put, List.setIfInBounds_toArray, List.set_cons_zero, List.set_cons_succ, i64_w, i32_w]
                      rfl
                    refine pure_ (i := 14) (N := some 34) (v := ?_) (a' := ?_) #[true, true, true, true, true, true, true, true, true, true, false, false, false, false, true, false, false, false, false, false, false, false] rfl rfl (any_of HT_.out (by kernel_rfl)) (fun _ _ _ h => h) (Or.inl ⟨by rfl, ?_⟩) ?_ ?_
                    rotate_left
                    · intro w'
                      go_simp
                      with_reducible rfl
                    rotate_left
                    · simp only [Act.put, List.setIfInBounds_toArray, List.set_cons_zero, List.set_cons_succ, i64_w, i32_w]
                      rfl
                    refine pure_ (i := 15) (N := some 35) (v := ?_) (a' := ?_) #[true, true, true, true, true, true, true, true, true, true, false, false, false, false, true, true, false, false, false, false, false, false] rfl rfl (any_of HT_.out (by kernel_rfl)) (fun _ _ _ h => h) (Or.inl ⟨by rfl, ?_⟩) ?_ ?_
                    rotate_left
                    · intro w'
                      go_simp
                      with_reducible rfl
                    rotate_left
                    · simp only [Act.put, List.setIfInBounds_toArray, List.set_cons_zero, List.set_cons_succ, i64_w, i32_w]
                      rfl
                    refine pure_ (i := 16) (N := some 36) (v := ?_) (a' := ?_) #[true, true, true, true, true, true, true, true, true, true, false, false, false, false, true, true, true, false, false, false, false, false] rfl rfl (any_of HT_.out (by kernel_rfl)) (fun _ _ _ h => h) (Or.inl ⟨by rfl, ?_⟩) ?_ ?_
                    rotate_left
                    · intro w'
                      go_simp
                      with_reducible rfl
                    rotate_left
                    · simp only [Act.put, List.setIfInBounds_toArray, List.set_cons_zero, List.set_cons_succ, i64_w, i32_w]
                      rfl
                    refine take_ (i := 10) (N := some 30) (v := ?_) (a' := ?_) #[true, true, true, true, true, true, true, true, true, true, true, false, false, false, true, true, true, false, false, false, false, false] rfl rfl (take_ofW HT_.out HW_.out (by kernel_rfl)) (fun _ _ _ h => h) (Or.inl ⟨by rfl, ?_⟩) hHeld ?_ ?_
                    rotate_left
                    · rintro w' ⟨s0, s1, s2, s3, s4⟩
                      go_simp
                      with_reducible rfl
                    rotate_left
                    · simp only [Act.put, List.setIfInBounds_toArray, List.set_cons_zero, List.set_cons_succ, i64_w, i32_w]
                      rfl
                    refine pure_ (i := 11) (N := some 31) (v := ?_) (a' := ?_) #[true, true, true, true, true, true, true, true, true, true, true, true, false, false, true, true, true, false, false, false, false, false] rfl rfl (any_of HT_.out (by kernel_rfl)) (fun _ _ _ h => h) (Or.inl ⟨by rfl, ?_⟩) ?_ ?_
                    rotate_left
                    · intro w'
                      go_simp
                      with_reducible rfl
                    rotate_left
                    · simp only [Act.put, List.setIfInBounds_toArray, List.set_cons_zero, List.set_cons_succ, i64_w, i32_w]
                      rfl
                    refine take_ (i := 12) (N := some 32) (v := ?_) (a' := ?_) #[true, true, true, true, true, true, true, true, true, true, true, true, true, false, true, true, true, false, false, false, false, false] rfl rfl (take_ofW HT_.out HW_.out (by kernel_rfl)) (fun _ _ _ h => h) (Or.inl ⟨by rfl, ?_⟩) hHeld ?_ ?_
                    rotate_left
                    · rintro w' ⟨s0, s1, s2, s3, s4⟩
                      go_simp
                      with_reducible rfl
                    rotate_left
                    · simp only [Act.put, List.setIfInBounds_toArray, List.set_cons_zero, List.set_cons_succ, i64_w, i32_w]
                      rfl
                    refine take_ (i := 17) (N := some 37) (v := ?_) (a' := ?_) #[true, true, true, true, true, true, true, true, true, true, true, true, true, false, true, true, true, true, false, false, false, false] rfl rfl (take_ofW HT_.out HW_.out (by kernel_rfl)) (fun _ _ _ h => h) (Or.inl ⟨by rfl, ?_⟩) hHeld ?_ ?_
                    rotate_left
                    · rintro w' ⟨s0, s1, s2, s3, s4⟩
                      go_simp
                      with_reducible rfl
                    rotate_left
                    · simp only [Act.put, List.setIfInBounds_toArray, List.set_cons_zero, List.set_cons_succ, i64_w, i32_w]
                      rfl
                    refine pure_ (i := 18) (N := some 38) (v := ?_) (a' := ?_) #[true, true, true, true, true, true, true, true, true, true, true, true, true, false, true, true, true, true, true, false, false, false] rfl rfl (any_of HT_.out (by kernel_rfl)) (fun _ _ _ h => h) (Or.inl ⟨by rfl, ?_⟩) ?_ ?_
                    rotate_left
                    · intro w'
                      go_simp
                      with_reducible rfl
                    rotate_left
                    · simp only [Act.put, List.setIfInBounds_toArray, List.set_cons_zero, List.set_cons_succ, i64_w, i32_w]
                      rfl
                    refine take_ (i := 19) (N := some 39) (v := ?_) (a' := ?_) #[true, true, true, true, true, true, true, true, true, true, true, true, true, false, true, true, true, true, true, true, false, false] rfl rfl (take_ofW HT_.out HW_.out (by kernel_rfl)) (fun _ _ _ h => h) (Or.inl ⟨by rfl, ?_⟩) hHeld ?_ ?_
                    rotate_left
                    · rintro w' ⟨s0, s1, s2, s3, s4⟩
                      go_simp
                      with_reducible rfl
                    rotate_left
                    · simp only [Act.put, List.setIfInBounds_toArray, List.set_cons_zero, List.set_cons_succ, i64_w, i32_w]
                      rfl
                    refine one_ (i := 13) (N := some 33) #[true, true, true, true, true, true, true, true, true, true, true, true, true, true, true, true, true, true, true, true, false, false] rfl rfl (one_of HT_.out (by kernel_rfl)) (by decide) (fun K hK => ?_)
                    refine goes_ Tryd.func19 (by kernel_rfl) rfl #[.string (rdOf ByteArray.empty (rd_L1 t241 x4_1) 0)] (by rfl) rfl rfl (by (try simp only [List.map_toArray, List.map_cons, List.map_nil]); first | done | rfl | (simp only [List.length_drop, List.length_take]; rfl)) ?_
                    with_reducible refine (boltingref02_Lower.calls (rdOf ByteArray.empty (rd_L1 t241 x4_1) 0) t248 _ A15.out).mono ?_
                    rintro e w17 ⟨rfl, hb⟩
                    have HS0_ := (hb.cell (World.block_lt_of_cell? _ _ (hHeld.1))).trans (hHeld.1)
                    have HS1_ := (hb.cell (World.block_lt_of_cell? _ _ (hHeld.2.1))).trans (hHeld.2.1)
                    have HS2_ := (hb.cell (World.block_lt_of_cell? _ _ (hHeld.2.2.1))).trans (hHeld.2.2.1)
                    have HS3_ := (hb.cell (World.block_lt_of_cell? _ _ (hHeld.2.2.2.1))).trans (hHeld.2.2.2.1)
                    have HS4_ := (hb.cell (World.block_lt_of_cell? _ _ (hHeld.2.2.2.2))).trans (hHeld.2.2.2.2)
                    refine ⟨_, rfl, ?_⟩
                    have n0_ := Aside0.mk (Kd.S_below (by (with_reducible repeat (first | apply Kd.S_alloc | apply Kd.S_drewN | apply Kd.S_drew)); exact HO_3.out) hb)
                    have n1_ := Aside0.mk (Kd.R_below (by (with_reducible repeat (first | apply Kd.R_alloc | apply Kd.R_drewN | apply Kd.R_drew)); exact HL245_0.out) hb)
                    have n2_ := Aside0.mk (Kd.R_below (by (with_reducible repeat (first | apply Kd.R_alloc | apply Kd.R_drewN | apply Kd.R_drew)); exact HL246_0.out) hb)
                    have n3_ := Aside0.mk (Kd.R_below (by (with_reducible repeat (first | apply Kd.R_alloc | apply Kd.R_drewN | apply Kd.R_drew)); exact HL249_0.out) hb)
                    have n4_ := Aside0.mk (Kd.C_below (by repeat (first | (with_reducible exact HR245_0.out) | (with_reducible refine Kd.C_alloc ?_ _) | (with_reducible refine Kd.C_drewN ?_ _) | (with_reducible refine Kd.C_drew ?_) | exact HR245_0.out)) hb)
                    have n5_ := Aside0.mk (Kd.C_below (by repeat (first | (with_reducible exact HR246_0.out) | (with_reducible refine Kd.C_alloc ?_ _) | (with_reducible refine Kd.C_drewN ?_ _) | (with_reducible refine Kd.C_drew ?_) | exact HR246_0.out)) hb)
                    have n6_ := Aside0.mk (Kd.C_below (by repeat (first | (with_reducible exact HR249_0.out) | (with_reducible refine Kd.C_alloc ?_ _) | (with_reducible refine Kd.C_drewN ?_ _) | (with_reducible refine Kd.C_drew ?_) | exact HR249_0.out)) hb)
                    have n7_ := Aside0.mk (below_step (by repeat (first | (with_reducible first | exact HB.out | apply below_alloc | apply pw_below_drewN | apply below_drew1) | exact HB.out)) hb)
                    clear HO_3
                    clear HL245_0
                    clear HL246_0
                    clear HL249_0
                    clear HR245_0
                    clear HR246_0
                    clear HR249_0
                    clear HB
                    have HO_3 := n0_
                    have HL245_0 := n1_
                    have HL246_0 := n2_
                    have HL249_0 := n3_
                    have HR245_0 := n4_
                    have HR246_0 := n5_
                    have HR249_0 := n6_
                    have HB := n7_
                    clear n0_ n1_ n2_ n3_ n4_ n5_ n6_ n7_
                    (try clear hb)
                    (try clear hb2)
                    (try clear hk)
                    (try clear hi)
                    refine hK.out _ _ ⟨HS0_, HS1_, HS2_, HS3_, HS4_⟩ (fun hHeld => ?_)
                    clear hK K
                    refine norm_ (a' := ?_) ?_ ?_
                    rotate_left
                    · show Act.put _ (some 33) _ = _
                      simp only [Act.put, List.setIfInBounds_toArray, List.set_cons_zero, List.set_cons_succ, i64_w, i32_w]
                      rfl
                    refine pure_ (i := 20) (N := some 40) (v := ?_) (a' := ?_) #[true, true, true, true, true, true, true, true, true, true, true, true, true, true, true, true, true, true, true, true, true, false] rfl rfl (any_of HT_.out (by kernel_rfl)) (fun _ _ _ h => h) (Or.inl ⟨by rfl, ?_⟩) ?_ ?_
                    rotate_left
                    · intro w'
                      go_simp
                      with_reducible rfl
                    rotate_left
                    · simp only [Act.put, List.setIfInBounds_toArray, List.set_cons_zero, List.set_cons_succ, i64_w, i32_w]
                      rfl
                    refine pure_ (i := 21) (N := some 41) (v := ?_) (a' := ?_) #[true, true, true, true, true, true, true, true, true, true, true, true, true, true, true, true, true, true, true, true, true, true] rfl rfl (any_of HT_.out (by kernel_rfl)) (fun _ _ _ h => h) (Or.inl ⟨by rfl, ?_⟩) ?_ ?_
                    rotate_left
                    · intro w'
                      go_simp
                      with_reducible rfl
                    rotate_left
                    · simp only [Act.put, List.setIfInBounds_toArray, List.set_cons_zero, List.set_cons_succ, i64_w, i32_w]
                      rfl
                    refine done_ (done_of HT_.out (by kernel_rfl)) ?_
                    try go_wp2
                    go_meet
                    case rel => exact ⟨_, ((t248.toList != (rdOf ByteArray.empty (rd_L1 t241 x4_1) 0).toList)), (by first | rfl | (simp; done) | (simp [*]; done)), H', ⟨by have := HK1.out; first | omega | exact Nat.le_refl _⟩, ⟨by (with_reducible repeat (first | apply Kd.S_alloc | apply Kd.S_drewN | apply Kd.S_drew)); exact HO_3.out⟩, ⟨by repeat (first | (with_reducible first | exact HB.out | apply below_alloc | apply pw_below_drewN | apply below_drew1) | exact HB.out)⟩⟩
                  · rw [if_neg c14] at H
                    exact absurd H (by simp)
              · rw [if_neg c11] at H
                exact absurd H (by simp)
            case rest =>
              clear HC9
              try clear c1
              try clear c2
              try clear p2
              try clear q2
              try clear hx2
              try clear qi2
              try clear c3
              try clear c3b0
              try clear c3b1
              try clear c4
              try clear c4b0
              try clear c4b1
              try clear c7
              try clear c8
              try clear c8b0
              try clear c11
              try clear c11b0
              try clear c12
              try clear c12b0
              try clear c12b1
              try clear c12b2
              try clear c14
              try clear c14b0
              try clear c14b1
              try clear hx245_0
              try clear hx246_0
              try clear hx247_0
              try clear hx249_0
              try clear hx250_0
              try clear p2
              try clear p245
              try clear p246
              try clear p247
              try clear p249
              try clear p250
              try clear q245
              try clear q246
              try clear q247
              try clear q249
              try clear q250
              obtain ⟨kq, x41_8, rfl, HA, HJ8, HO_3, HB⟩ := hcut
              cases kq with
              | zero => exact absurd HA.out (by simp [boltinglaw15_HeaderParts.j1])
              | succ kj8 =>
                have H := HA.out
                clear HA
                simp only [boltinglaw15_HeaderParts.j1] at H
                by_cases c18 : x41_8 = true
                · subst c18
                  have H1 : (some false) = some r := by rw [if_pos rfl] at H; exact H
                  clear H
                  have H := H1
                  clear H1
                  obtain rfl := Option.some.inj H
                  go_wp2
                  go_ret
                  exact ⟨by first | rfl | (simp [errW_none, errW_some] <;> rfl) | (simp only [← hji2]; first | rfl | (simp [errW_none, errW_some] <;> rfl)) | (simp [*, errW_none, errW_some] <;> rfl), by repeat (first | (with_reducible first | exact HB.out | apply below_alloc | apply pw_below_drewN | apply below_drew1) | exact HB.out)⟩
                · replace c18 := Bool.eq_false_iff.mpr c18
                  subst c18
                  have H1 : (boltinglaw15_HeaderParts.l1 kj8 t241 x4_1 0) = some r := by rw [if_neg (show ¬ (false = true) by decide)] at H; exact H
                  clear H
                  have H := H1
                  clear H1
                  have H' := Aside0.mk H
                  clear H
                  go_wp2
                  go_loopg [5] kj8 (fun kq v5 w' => ∃ (x5_3 : Int), v5 = .int .i64 x5_3 ∧ Aside0 (boltinglaw15_HeaderParts.l1 kq t241 x4_1 x5_3 = some r) ∧ Aside0 (kq ≤ kj8) ∧ Aside0 (Kd.S (Kd.slice 9 Kd.string) 24 w' w.heap.size (fun _ => True) (.slice Ao10 t241.length co10) t241) ∧ Aside0 (Below w.heap.size w w'))
                  case atStart => exact ⟨(0), (by first | rfl | (simp; done) | (simp [*]; done)), H', ⟨Nat.le_refl _⟩, ⟨by (with_reducible repeat (first | apply Kd.S_alloc | apply Kd.S_drewN | apply Kd.S_drew)); exact HO_3.out⟩, ⟨by repeat (first | (with_reducible first | exact HB.out | apply below_alloc | apply pw_below_drewN | apply below_drew1) | exact HB.out)⟩⟩
                  case round =>
                    clear H'
                    try clear c1
                    try clear c2
                    try clear p2
                    try clear q2
                    try clear hx2
                    try clear qi2
                    try clear c3
                    try clear c3b0
                    try clear c3b1
                    try clear c4
                    try clear c4b0
                    try clear c4b1
                    try clear c7
                    try clear c8
                    try clear c8b0
                    try clear c11
                    try clear c11b0
                    try clear c12
                    try clear c12b0
                    try clear c12b1
                    try clear c12b2
                    try clear c14
                    try clear c14b0
                    try clear c14b1
                    try clear c18
                    try clear hx245_0
                    try clear hx246_0
                    try clear hx247_0
                    try clear hx249_0
                    try clear hx250_0
                    try clear p2
                    try clear p245
                    try clear p246
                    try clear p247
                    try clear p249
                    try clear p250
                    try clear q2
                    try clear q245
                    try clear q246
                    try clear q247
                    try clear q249
                    try clear q250
                    obtain ⟨x5_3, rfl, HA, HK3, HO_3, HB⟩ := hrel
                    cases gk with
                    | zero => exact absurd HA.out (by simp [boltinglaw15_HeaderParts.l1])
                    | succ k3 =>
                      have H := HA.out
                      clear HA
                      simp only [boltinglaw15_HeaderParts.l1] at H
                      by_cases c19 : 0 ≤ x4_1
                      · rw [if_pos c19] at H
                        have c19b0 : decide (0 ≤ x4_1) = true := decide_eq_true c19
                        clear c19
                        by_cases c20 : x4_1 < (t241.length : Int)
                        · rw [if_pos c20] at H
                          have c20b0 : decide (x4_1 < (t241.length : Int)) = true := decide_eq_true c20
                          clear c20
                          by_cases c21 : x5_3 < ((rd_L1 t241 x4_1).length : Int)
                          · rw [if_pos c21] at H
                            have c21b0 : decide (x5_3 < ((rd_L1 t241 x4_1).length : Int)) = true := decide_eq_true c21
                            clear c21
                            by_cases c22 : 0 ≤ x5_3
                            · rw [if_pos c22] at H
                              have c22b0 : decide (0 ≤ x5_3) = true := decide_eq_true c22
                              clear c22
                              by_cases c23 : (rdOf ByteArray.empty (rd_L1 t241 x4_1) x5_3).toList = ([] : List UInt8)
                              · rw [if_pos c23] at H
                                have c23b0 : ((rdOf ByteArray.empty (rd_L1 t241 x4_1) x5_3).toList == ([] : List UInt8)) = true := beq_iff_eq.mpr c23
                                have c23b1 : ((rdOf ByteArray.empty (rd_L1 t241 x4_1) x5_3).toList != ([] : List UInt8)) = false := bne_eq_false_iff_eq.mpr c23
                                clear c23
                                obtain rfl := Option.some.inj H
                                have p251 : 0 ≤ (x4_1 : Int) := of_decide_eq_true (by first | (with_reducible assumption) | assumption)
                                have q251 : x4_1 < (t241.length : Int) := of_decide_eq_true (by first | (with_reducible assumption) | assumption)
                                obtain ⟨ad251, A251_0, c251_0, e251, hx251_0, hl251_0, hi251_0⟩ := at_L1 (Kd.S_reads' HO_3.out).2.2 x4_1 p251 q251
                                cases e251
                                obtain ⟨ce251, hce251, hMe251, hcc251⟩ := Kd.S_get HO_3.out [] x4_1 p251 (by first | exact q251 | exact of_decide_eq_true (by first | (with_reducible assumption) | assumption) | (have e_ := (Kd.S_reads' HO_3.out).1; omega))
                                obtain ⟨ve251_0, rfl, ge251_0⟩ := hMe251
                                have hv251_0 := hcc251 0 _ rfl
                                rw [Nat.add_zero, show ((Kd.slice 9 Kd.string)).sz = 1 from rfl, Nat.mul_one] at hv251_0
                                replace hv251_0 := Option.some.inj (hv251_0.symm.trans hx251_0)
                                rw [hv251_0] at ge251_0
                                have HL251_0 := Aside0.mk (show Kd.R Kd.string 9 _ _ _ _ (rd_L1 t241 x4_1) from ge251_0)
                                clear hv251_0 ge251_0
                                clear hcc251 hce251
                                have HR251_0 := Aside0.mk hi251_0
                                have HC251_0 := Aside0.mk hl251_0
                                clear hi251_0 hl251_0
                                replace p251 := eq_true p251
                                replace q251 := eq_true q251
                                have p252 : 0 ≤ (x4_1 : Int) := of_decide_eq_true (by first | (with_reducible assumption) | assumption)
                                have q252 : x4_1 < (t241.length : Int) := of_decide_eq_true (by first | (with_reducible assumption) | assumption)
                                obtain ⟨ad252, A252_0, c252_0, e252, hx252_0, hl252_0, hi252_0⟩ := at_L1 (Kd.S_reads' HO_3.out).2.2 x4_1 p252 q252
                                obtain rfl : ad251 = ad252 := (by injection e252)
                                obtain ⟨ce252, hce252, hMe252, hcc252⟩ := Kd.S_get HO_3.out [] x4_1 p252 (by first | exact q252 | exact of_decide_eq_true (by first | (with_reducible assumption) | assumption) | (have e_ := (Kd.S_reads' HO_3.out).1; omega))
                                obtain ⟨ve252_0, rfl, ge252_0⟩ := hMe252
                                have hv252_0 := hcc252 0 _ rfl
                                rw [Nat.add_zero, show ((Kd.slice 9 Kd.string)).sz = 1 from rfl, Nat.mul_one] at hv252_0
                                replace hv252_0 := Option.some.inj (hv252_0.symm.trans hx252_0)
                                rw [hv252_0] at ge252_0
                                have HL252_0 := Aside0.mk (show Kd.R Kd.string 9 _ _ _ _ (rd_L1 t241 x4_1) from ge252_0)
                                clear hv252_0 ge252_0
                                clear hcc252 hce252
                                have HR252_0 := Aside0.mk hi252_0
                                have HC252_0 := Aside0.mk hl252_0
                                clear hi252_0 hl252_0
                                replace p252 := eq_true p252
                                replace q252 := eq_true q252
                                have ea_ := Option.some.inj (hx251_0.symm.trans hx252_0)
                                injection ea_ with ea_ en_ ec_
                                subst ea_
                                subst ec_
                                clear en_
                                have p253 : 0 ≤ (x5_3 : Int) := of_decide_eq_true (by first | (with_reducible assumption) | assumption)
                                have q253 : x5_3 < ((rd_L1 t241 x4_1).length : Int) := of_decide_eq_true (by first | (with_reducible assumption) | assumption)
                                obtain ⟨ad253, e253, hx253_0⟩ := Kd.at_string (by repeat (first | (with_reducible exact HR252_0.out) | (with_reducible refine Kd.C_alloc ?_ _) | (with_reducible refine Kd.C_drewN ?_ _) | (with_reducible refine Kd.C_drew ?_) | exact HR252_0.out)) x5_3 p253 q253
                                cases e253
                                replace p253 := eq_true p253
                                replace q253 := eq_true q253
                                go_wp2
                                go_ret
                                exact ⟨by first | rfl | (simp [errW_none, errW_some] <;> rfl) | (simp only [← hji2]; first | rfl | (simp [errW_none, errW_some] <;> rfl)) | (simp [*, errW_none, errW_some] <;> rfl), by repeat (first | (with_reducible first | exact HB.out | apply below_alloc | apply pw_below_drewN | apply below_drew1) | exact HB.out)⟩
                              · rw [if_neg c23] at H
                                have c23b0 : ((rdOf ByteArray.empty (rd_L1 t241 x4_1) x5_3).toList == ([] : List UInt8)) = false := beq_eq_false_iff_ne.mpr c23
                                have c23b1 : ((rdOf ByteArray.empty (rd_L1 t241 x4_1) x5_3).toList != ([] : List UInt8)) = true := bne_iff_ne.mpr c23
                                replace H := Option.bind_eq_some_iff.mp H
                                obtain ⟨t256, A240, H⟩ := H
                                replace H : (if (t256.length : Int) = 1 then (boltinglaw15_HeaderParts.l1 k3 t241 x4_1 (wrap64 (x5_3 + 1))) else (some false)) = some r := H
                                have A24 := Aside0.mk A240
                                clear A240
                                by_cases c25 : (t256.length : Int) = 1
                                · rw [if_pos c25] at H
                                  have c25b0 : ((t256.length : Int) == 1) = true := beq_iff_eq.mpr c25
                                  have c25b1 : ((t256.length : Int) != 1) = false := bne_eq_false_iff_eq.mpr c25
                                  clear c25
                                  have H' := Aside0.mk H
                                  clear H
                                  have p251 : 0 ≤ (x4_1 : Int) := of_decide_eq_true (by first | (with_reducible assumption) | assumption)
                                  have q251 : x4_1 < (t241.length : Int) := of_decide_eq_true (by first | (with_reducible assumption) | assumption)
                                  obtain ⟨ad251, A251_0, c251_0, e251, hx251_0, hl251_0, hi251_0⟩ := at_L1 (Kd.S_reads' HO_3.out).2.2 x4_1 p251 q251
                                  cases e251
                                  obtain ⟨ce251, hce251, hMe251, hcc251⟩ := Kd.S_get HO_3.out [] x4_1 p251 (by first | exact q251 | exact of_decide_eq_true (by first | (with_reducible assumption) | assumption) | (have e_ := (Kd.S_reads' HO_3.out).1; omega))
                                  obtain ⟨ve251_0, rfl, ge251_0⟩ := hMe251
                                  have hv251_0 := hcc251 0 _ rfl
                                  rw [Nat.add_zero, show ((Kd.slice 9 Kd.string)).sz = 1 from rfl, Nat.mul_one] at hv251_0
                                  replace hv251_0 := Option.some.inj (hv251_0.symm.trans hx251_0)
                                  rw [hv251_0] at ge251_0
                                  have HL251_0 := Aside0.mk (show Kd.R Kd.string 9 _ _ _ _ (rd_L1 t241 x4_1) from ge251_0)
                                  clear hv251_0 ge251_0
                                  clear hcc251 hce251
                                  have HR251_0 := Aside0.mk hi251_0
                                  have HC251_0 := Aside0.mk hl251_0
                                  clear hi251_0 hl251_0
                                  replace p251 := eq_true p251
                                  replace q251 := eq_true q251
                                  have p252 : 0 ≤ (x4_1 : Int) := of_decide_eq_true (by first | (with_reducible assumption) | assumption)
                                  have q252 : x4_1 < (t241.length : Int) := of_decide_eq_true (by first | (with_reducible assumption) | assumption)
                                  obtain ⟨ad252, A252_0, c252_0, e252, hx252_0, hl252_0, hi252_0⟩ := at_L1 (Kd.S_reads' HO_3.out).2.2 x4_1 p252 q252
                                  obtain rfl : ad251 = ad252 := (by injection e252)
                                  obtain ⟨ce252, hce252, hMe252, hcc252⟩ := Kd.S_get HO_3.out [] x4_1 p252 (by first | exact q252 | exact of_decide_eq_true (by first | (with_reducible assumption) | assumption) | (have e_ := (Kd.S_reads' HO_3.out).1; omega))
                                  obtain ⟨ve252_0, rfl, ge252_0⟩ := hMe252
                                  have hv252_0 := hcc252 0 _ rfl
                                  rw [Nat.add_zero, show ((Kd.slice 9 Kd.string)).sz = 1 from rfl, Nat.mul_one] at hv252_0
                                  replace hv252_0 := Option.some.inj (hv252_0.symm.trans hx252_0)
                                  rw [hv252_0] at ge252_0
                                  have HL252_0 := Aside0.mk (show Kd.R Kd.string 9 _ _ _ _ (rd_L1 t241 x4_1) from ge252_0)
                                  clear hv252_0 ge252_0
                                  clear hcc252 hce252
                                  have HR252_0 := Aside0.mk hi252_0
                                  have HC252_0 := Aside0.mk hl252_0
                                  clear hi252_0 hl252_0
                                  replace p252 := eq_true p252
                                  replace q252 := eq_true q252
                                  have ea_ := Option.some.inj (hx251_0.symm.trans hx252_0)
                                  injection ea_ with ea_ en_ ec_
                                  subst ea_
                                  subst ec_
                                  clear en_
                                  have p253 : 0 ≤ (x5_3 : Int) := of_decide_eq_true (by first | (with_reducible assumption) | assumption)
                                  have q253 : x5_3 < ((rd_L1 t241 x4_1).length : Int) := of_decide_eq_true (by first | (with_reducible assumption) | assumption)
                                  obtain ⟨ad253, e253, hx253_0⟩ := Kd.at_string (by repeat (first | (with_reducible exact HR252_0.out) | (with_reducible refine Kd.C_alloc ?_ _) | (with_reducible refine Kd.C_drewN ?_ _) | (with_reducible refine Kd.C_drew ?_) | exact HR252_0.out)) x5_3 p253 q253
                                  cases e253
                                  replace p253 := eq_true p253
                                  replace q253 := eq_true q253
                                  have p254 : 0 ≤ (x4_1 : Int) := of_decide_eq_true (by first | (with_reducible assumption) | assumption)
                                  have q254 : x4_1 < (t241.length : Int) := of_decide_eq_true (by first | (with_reducible assumption) | assumption)
                                  obtain ⟨ad254, A254_0, c254_0, e254, hx254_0, hl254_0, hi254_0⟩ := at_L1 (Kd.S_reads' HO_3.out).2.2 x4_1 p254 q254
                                  obtain rfl : ad251 = ad254 := (by injection e254)
                                  obtain ⟨ce254, hce254, hMe254, hcc254⟩ := Kd.S_get HO_3.out [] x4_1 p254 (by first | exact q254 | exact of_decide_eq_true (by first | (with_reducible assumption) | assumption) | (have e_ := (Kd.S_reads' HO_3.out).1; omega))
                                  obtain ⟨ve254_0, rfl, ge254_0⟩ := hMe254
                                  have hv254_0 := hcc254 0 _ rfl
                                  rw [Nat.add_zero, show ((Kd.slice 9 Kd.string)).sz = 1 from rfl, Nat.mul_one] at hv254_0
                                  replace hv254_0 := Option.some.inj (hv254_0.symm.trans hx254_0)
                                  rw [hv254_0] at ge254_0
                                  have HL254_0 := Aside0.mk (show Kd.R Kd.string 9 _ _ _ _ (rd_L1 t241 x4_1) from ge254_0)
                                  clear hv254_0 ge254_0
                                  clear hcc254 hce254
                                  have HR254_0 := Aside0.mk hi254_0
                                  have HC254_0 := Aside0.mk hl254_0
                                  clear hi254_0 hl254_0
                                  replace p254 := eq_true p254
                                  replace q254 := eq_true q254
                                  have ea_ := Option.some.inj (hx251_0.symm.trans hx254_0)
                                  injection ea_ with ea_ en_ ec_
                                  subst ea_
                                  subst ec_
                                  clear en_
                                  have p255 : 0 ≤ (x5_3 : Int) := of_decide_eq_true (by first | (with_reducible assumption) | assumption)
                                  have q255 : x5_3 < ((rd_L1 t241 x4_1).length : Int) := of_decide_eq_true (by first | (with_reducible assumption) | assumption)
                                  obtain ⟨ad255, e255, hx255_0⟩ := Kd.at_string (by repeat (first | (with_reducible exact HR254_0.out) | (with_reducible refine Kd.C_alloc ?_ _) | (with_reducible refine Kd.C_drewN ?_ _) | (with_reducible refine Kd.C_drew ?_) | exact HR254_0.out)) x5_3 p255 q255
                                  obtain rfl : ad253 = ad255 := (by injection e255)
                                  replace p255 := eq_true p255
                                  replace q255 := eq_true q255
                                  go_wp2_with (first | (go_at_call 20; (with_reducible refine (boltingref02_Words.calls k3 (rdOf ByteArray.empty (rd_L1 t241 x4_1) x5_3) t256 _ A24.out).mono ?_); rintro e w26 ⟨v257, rfl, ho0, hb⟩; have n0_ := Aside0.mk (Kd.S_elder' (by (with_reducible repeat (first | apply Kd.S_alloc | apply Kd.S_drewN | apply Kd.S_drew)); exact HO_3.out) (Kd.R_base ho0) hb); have n1_ := Aside0.mk (Kd.R_elder' (by (with_reducible repeat (first | apply Kd.R_alloc | apply Kd.R_drewN | apply Kd.R_drew)); exact HL251_0.out) (Kd.R_base ho0) hb); have n2_ := Aside0.mk (Kd.R_elder' (by (with_reducible repeat (first | apply Kd.R_alloc | apply Kd.R_drewN | apply Kd.R_drew)); exact HL252_0.out) (Kd.R_base ho0) hb); have n3_ := Aside0.mk (Kd.R_elder' (by (with_reducible repeat (first | apply Kd.R_alloc | apply Kd.R_drewN | apply Kd.R_drew)); exact HL254_0.out) (Kd.R_base ho0) hb); have n4_ := Aside0.mk (Kd.R_lower (Kd.R_new' (Kd.R_new' (Kd.R_new' ho0 (Kd.R_lt (by (with_reducible repeat (first | apply Kd.R_alloc | apply Kd.R_drewN | apply Kd.R_drew)); exact HL251_0.out))) (Kd.R_lt (by (with_reducible repeat (first | apply Kd.R_alloc | apply Kd.R_drewN | apply Kd.R_drew)); exact HL252_0.out))) (Kd.R_lt (by (with_reducible repeat (first | apply Kd.R_alloc | apply Kd.R_drewN | apply Kd.R_drew)); exact HL254_0.out))) (below_size (by repeat (first | (with_reducible first | exact HB.out | apply below_alloc | apply pw_below_drewN | apply below_drew1) | exact HB.out)))); have n5_ := Aside0.mk (Kd.C_below (by repeat (first | (with_reducible exact HR251_0.out) | (with_reducible refine Kd.C_alloc ?_ _) | (with_reducible refine Kd.C_drewN ?_ _) | (with_reducible refine Kd.C_drew ?_) | exact HR251_0.out)) hb); have n6_ := Aside0.mk (Kd.C_below (by repeat (first | (with_reducible exact HR252_0.out) | (with_reducible refine Kd.C_alloc ?_ _) | (with_reducible refine Kd.C_drewN ?_ _) | (with_reducible refine Kd.C_drew ?_) | exact HR252_0.out)) hb); have n7_ := Aside0.mk (Kd.C_below (by repeat (first | (with_reducible exact HR254_0.out) | (with_reducible refine Kd.C_alloc ?_ _) | (with_reducible refine Kd.C_drewN ?_ _) | (with_reducible refine Kd.C_drew ?_) | exact HR254_0.out)) hb); have n8_ := Aside0.mk (below_step (by repeat (first | (with_reducible first | exact HB.out | apply below_alloc | apply pw_below_drewN | apply below_drew1) | exact HB.out)) hb); clear HO_3; clear HL251_0; clear HL252_0; clear HL254_0; clear HR251_0; clear HR252_0; clear HR254_0; clear HB; have HO_3 := n0_; have HL251_0 := n1_; have HL252_0 := n2_; have HL254_0 := n3_; have HO258 := n4_; have HR251_0 := n5_; have HR252_0 := n6_; have HR254_0 := n7_; have HB := n8_; clear n0_ n1_ n2_ n3_ n4_ n5_ n6_ n7_ n8_; (try clear hb); (try clear hb2); (try clear hk); (try clear hi); (try clear ho0); obtain ⟨Ao27, co27, eo27⟩ := Kd.R_slice HO258.out; subst eo27))
                                  go_roundg k3
                                  case measure => have := HK1.out; have := HJ8.out; have := HK3.out; omega
                                  case rel => exact ⟨(wrap64 (x5_3 + 1)), (by first | rfl | (simp; done) | (simp [*]; done)), H', ⟨by have := HK1.out; have := HJ8.out; have := HK3.out; omega⟩, ⟨by (with_reducible repeat (first | apply Kd.S_alloc | apply Kd.S_drewN | apply Kd.S_drew)); exact Kd.S_mono HO_3.out (fun _ hk => trivial)⟩, ⟨by repeat (first | (with_reducible first | exact HB.out | apply below_alloc | apply pw_below_drewN | apply below_drew1) | exact HB.out)⟩⟩
                                · rw [if_neg c25] at H
                                  have c25b0 : ((t256.length : Int) == 1) = false := beq_eq_false_iff_ne.mpr c25
                                  have c25b1 : ((t256.length : Int) != 1) = true := bne_iff_ne.mpr c25
                                  obtain rfl := Option.some.inj H
                                  have p251 : 0 ≤ (x4_1 : Int) := of_decide_eq_true (by first | (with_reducible assumption) | assumption)
                                  have q251 : x4_1 < (t241.length : Int) := of_decide_eq_true (by first | (with_reducible assumption) | assumption)
                                  obtain ⟨ad251, A251_0, c251_0, e251, hx251_0, hl251_0, hi251_0⟩ := at_L1 (Kd.S_reads' HO_3.out).2.2 x4_1 p251 q251
                                  cases e251
                                  obtain ⟨ce251, hce251, hMe251, hcc251⟩ := Kd.S_get HO_3.out [] x4_1 p251 (by first | exact q251 | exact of_decide_eq_true (by first | (with_reducible assumption) | assumption) | (have e_ := (Kd.S_reads' HO_3.out).1; omega))
                                  obtain ⟨ve251_0, rfl, ge251_0⟩ := hMe251
                                  have hv251_0 := hcc251 0 _ rfl
                                  rw [Nat.add_zero, show ((Kd.slice 9 Kd.string)).sz = 1 from rfl, Nat.mul_one] at hv251_0
                                  replace hv251_0 := Option.some.inj (hv251_0.symm.trans hx251_0)
                                  rw [hv251_0] at ge251_0
                                  have HL251_0 := Aside0.mk (show Kd.R Kd.string 9 _ _ _ _ (rd_L1 t241 x4_1) from ge251_0)
                                  clear hv251_0 ge251_0
                                  clear hcc251 hce251
                                  have HR251_0 := Aside0.mk hi251_0
                                  have HC251_0 := Aside0.mk hl251_0
                                  clear hi251_0 hl251_0
                                  replace p251 := eq_true p251
                                  replace q251 := eq_true q251
                                  have p252 : 0 ≤ (x4_1 : Int) := of_decide_eq_true (by first | (with_reducible assumption) | assumption)
                                  have q252 : x4_1 < (t241.length : Int) := of_decide_eq_true (by first | (with_reducible assumption) | assumption)
                                  obtain ⟨ad252, A252_0, c252_0, e252, hx252_0, hl252_0, hi252_0⟩ := at_L1 (Kd.S_reads' HO_3.out).2.2 x4_1 p252 q252
                                  obtain rfl : ad251 = ad252 := (by injection e252)
                                  obtain ⟨ce252, hce252, hMe252, hcc252⟩ := Kd.S_get HO_3.out [] x4_1 p252 (by first | exact q252 | exact of_decide_eq_true (by first | (with_reducible assumption) | assumption) | (have e_ := (Kd.S_reads' HO_3.out).1; omega))
                                  obtain ⟨ve252_0, rfl, ge252_0⟩ := hMe252
                                  have hv252_0 := hcc252 0 _ rfl
                                  rw [Nat.add_zero, show ((Kd.slice 9 Kd.string)).sz = 1 from rfl, Nat.mul_one] at hv252_0
                                  replace hv252_0 := Option.some.inj (hv252_0.symm.trans hx252_0)
                                  rw [hv252_0] at ge252_0
                                  have HL252_0 := Aside0.mk (show Kd.R Kd.string 9 _ _ _ _ (rd_L1 t241 x4_1) from ge252_0)
                                  clear hv252_0 ge252_0
                                  clear hcc252 hce252
                                  have HR252_0 := Aside0.mk hi252_0
                                  have HC252_0 := Aside0.mk hl252_0
                                  clear hi252_0 hl252_0
                                  replace p252 := eq_true p252
                                  replace q252 := eq_true q252
                                  have ea_ := Option.some.inj (hx251_0.symm.trans hx252_0)
                                  injection ea_ with ea_ en_ ec_
                                  subst ea_
                                  subst ec_
                                  clear en_
                                  have p253 : 0 ≤ (x5_3 : Int) := of_decide_eq_true (by first | (with_reducible assumption) | assumption)
                                  have q253 : x5_3 < ((rd_L1 t241 x4_1).length : Int) := of_decide_eq_true (by first | (with_reducible assumption) | assumption)
                                  obtain ⟨ad253, e253, hx253_0⟩ := Kd.at_string (by repeat (first | (with_reducible exact HR252_0.out) | (with_reducible refine Kd.C_alloc ?_ _) | (with_reducible refine Kd.C_drewN ?_ _) | (with_reducible refine Kd.C_drew ?_) | exact HR252_0.out)) x5_3 p253 q253
                                  cases e253
                                  replace p253 := eq_true p253
                                  replace q253 := eq_true q253
                                  have p254 : 0 ≤ (x4_1 : Int) := of_decide_eq_true (by first | (with_reducible assumption) | assumption)
                                  have q254 : x4_1 < (t241.length : Int) := of_decide_eq_true (by first | (with_reducible assumption) | assumption)
                                  obtain ⟨ad254, A254_0, c254_0, e254, hx254_0, hl254_0, hi254_0⟩ := at_L1 (Kd.S_reads' HO_3.out).2.2 x4_1 p254 q254
                                  obtain rfl : ad251 = ad254 := (by injection e254)
                                  obtain ⟨ce254, hce254, hMe254, hcc254⟩ := Kd.S_get HO_3.out [] x4_1 p254 (by first | exact q254 | exact of_decide_eq_true (by first | (with_reducible assumption) | assumption) | (have e_ := (Kd.S_reads' HO_3.out).1; omega))
                                  obtain ⟨ve254_0, rfl, ge254_0⟩ := hMe254
                                  have hv254_0 := hcc254 0 _ rfl
                                  rw [Nat.add_zero, show ((Kd.slice 9 Kd.string)).sz = 1 from rfl, Nat.mul_one] at hv254_0
                                  replace hv254_0 := Option.some.inj (hv254_0.symm.trans hx254_0)
                                  rw [hv254_0] at ge254_0
                                  have HL254_0 := Aside0.mk (show Kd.R Kd.string 9 _ _ _ _ (rd_L1 t241 x4_1) from ge254_0)
                                  clear hv254_0 ge254_0
                                  clear hcc254 hce254
                                  have HR254_0 := Aside0.mk hi254_0
                                  have HC254_0 := Aside0.mk hl254_0
                                  clear hi254_0 hl254_0
                                  replace p254 := eq_true p254
                                  replace q254 := eq_true q254
                                  have ea_ := Option.some.inj (hx251_0.symm.trans hx254_0)
                                  injection ea_ with ea_ en_ ec_
                                  subst ea_
                                  subst ec_
                                  clear en_
                                  have p255 : 0 ≤ (x5_3 : Int) := of_decide_eq_true (by first | (with_reducible assumption) | assumption)
                                  have q255 : x5_3 < ((rd_L1 t241 x4_1).length : Int) := of_decide_eq_true (by first | (with_reducible assumption) | assumption)
                                  obtain ⟨ad255, e255, hx255_0⟩ := Kd.at_string (by repeat (first | (with_reducible exact HR254_0.out) | (with_reducible refine Kd.C_alloc ?_ _) | (with_reducible refine Kd.C_drewN ?_ _) | (with_reducible refine Kd.C_drew ?_) | exact HR254_0.out)) x5_3 p255 q255
                                  obtain rfl : ad253 = ad255 := (by injection e255)
                                  replace p255 := eq_true p255
                                  replace q255 := eq_true q255
                                  go_wp2_with (first | (go_at_call 20; (with_reducible refine (boltingref02_Words.calls k3 (rdOf ByteArray.empty (rd_L1 t241 x4_1) x5_3) t256 _ A24.out).mono ?_); rintro e w28 ⟨v257, rfl, ho0, hb⟩; have n0_ := Aside0.mk (Kd.S_elder' (by (with_reducible repeat (first | apply Kd.S_alloc | apply Kd.S_drewN | apply Kd.S_drew)); exact HO_3.out) (Kd.R_base ho0) hb); have n1_ := Aside0.mk (Kd.R_elder' (by (with_reducible repeat (first | apply Kd.R_alloc | apply Kd.R_drewN | apply Kd.R_drew)); exact HL251_0.out) (Kd.R_base ho0) hb); have n2_ := Aside0.mk (Kd.R_elder' (by (with_reducible repeat (first | apply Kd.R_alloc | apply Kd.R_drewN | apply Kd.R_drew)); exact HL252_0.out) (Kd.R_base ho0) hb); have n3_ := Aside0.mk (Kd.R_elder' (by (with_reducible repeat (first | apply Kd.R_alloc | apply Kd.R_drewN | apply Kd.R_drew)); exact HL254_0.out) (Kd.R_base ho0) hb); have n4_ := Aside0.mk (Kd.R_lower (Kd.R_new' (Kd.R_new' (Kd.R_new' ho0 (Kd.R_lt (by (with_reducible repeat (first | apply Kd.R_alloc | apply Kd.R_drewN | apply Kd.R_drew)); exact HL251_0.out))) (Kd.R_lt (by (with_reducible repeat (first | apply Kd.R_alloc | apply Kd.R_drewN | apply Kd.R_drew)); exact HL252_0.out))) (Kd.R_lt (by (with_reducible repeat (first | apply Kd.R_alloc | apply Kd.R_drewN | apply Kd.R_drew)); exact HL254_0.out))) (below_size (by repeat (first | (with_reducible first | exact HB.out | apply below_alloc | apply pw_below_drewN | apply below_drew1) | exact HB.out)))); have n5_ := Aside0.mk (Kd.C_below (by repeat (first | (with_reducible exact HR251_0.out) | (with_reducible refine Kd.C_alloc ?_ _) | (with_reducible refine Kd.C_drewN ?_ _) | (with_reducible refine Kd.C_drew ?_) | exact HR251_0.out)) hb); have n6_ := Aside0.mk (Kd.C_below (by repeat (first | (with_reducible exact HR252_0.out) | (with_reducible refine Kd.C_alloc ?_ _) | (with_reducible refine Kd.C_drewN ?_ _) | (with_reducible refine Kd.C_drew ?_) | exact HR252_0.out)) hb); have n7_ := Aside0.mk (Kd.C_below (by repeat (first | (with_reducible exact HR254_0.out) | (with_reducible refine Kd.C_alloc ?_ _) | (with_reducible refine Kd.C_drewN ?_ _) | (with_reducible refine Kd.C_drew ?_) | exact HR254_0.out)) hb); have n8_ := Aside0.mk (below_step (by repeat (first | (with_reducible first | exact HB.out | apply below_alloc | apply pw_below_drewN | apply below_drew1) | exact HB.out)) hb); clear HO_3; clear HL251_0; clear HL252_0; clear HL254_0; clear HR251_0; clear HR252_0; clear HR254_0; clear HB; have HO_3 := n0_; have HL251_0 := n1_; have HL252_0 := n2_; have HL254_0 := n3_; have HO258 := n4_; have HR251_0 := n5_; have HR252_0 := n6_; have HR254_0 := n7_; have HB := n8_; clear n0_ n1_ n2_ n3_ n4_ n5_ n6_ n7_ n8_; (try clear hb); (try clear hb2); (try clear hk); (try clear hi); (try clear ho0); obtain ⟨Ao29, co29, eo29⟩ := Kd.R_slice HO258.out; subst eo29))
                                  go_ret
                                  exact ⟨by first | rfl | (simp [errW_none, errW_some] <;> rfl) | (simp only [← hji2]; first | rfl | (simp [errW_none, errW_some] <;> rfl)) | (simp [*, errW_none, errW_some] <;> rfl), by repeat (first | (with_reducible first | exact HB.out | apply below_alloc | apply pw_below_drewN | apply below_drew1) | exact HB.out)⟩
                            · rw [if_neg c22] at H
                              exact absurd H (by simp)
                          · rw [if_neg c21] at H
                            have c21b0 : decide (x5_3 < ((rd_L1 t241 x4_1).length : Int)) = false := decide_eq_false c21
                            clear c21
                            have H' := Aside0.mk H
                            clear H
                            have p251 : 0 ≤ (x4_1 : Int) := of_decide_eq_true (by first | (with_reducible assumption) | assumption)
                            have q251 : x4_1 < (t241.length : Int) := of_decide_eq_true (by first | (with_reducible assumption) | assumption)
                            obtain ⟨ad251, A251_0, c251_0, e251, hx251_0, hl251_0, hi251_0⟩ := at_L1 (Kd.S_reads' HO_3.out).2.2 x4_1 p251 q251
                            cases e251
                            obtain ⟨ce251, hce251, hMe251, hcc251⟩ := Kd.S_get HO_3.out [] x4_1 p251 (by first | exact q251 | exact of_decide_eq_true (by first | (with_reducible assumption) | assumption) | (have e_ := (Kd.S_reads' HO_3.out).1; omega))
                            obtain ⟨ve251_0, rfl, ge251_0⟩ := hMe251
                            have hv251_0 := hcc251 0 _ rfl
                            rw [Nat.add_zero, show ((Kd.slice 9 Kd.string)).sz = 1 from rfl, Nat.mul_one] at hv251_0
                            replace hv251_0 := Option.some.inj (hv251_0.symm.trans hx251_0)
                            rw [hv251_0] at ge251_0
                            have HL251_0 := Aside0.mk (show Kd.R Kd.string 9 _ _ _ _ (rd_L1 t241 x4_1) from ge251_0)
                            clear hv251_0 ge251_0
                            clear hcc251 hce251
                            have HR251_0 := Aside0.mk hi251_0
                            have HC251_0 := Aside0.mk hl251_0
                            clear hi251_0 hl251_0
                            replace p251 := eq_true p251
                            replace q251 := eq_true q251
                            go_wp2
                            go_loopg [6] k3 (fun kq v6 w' => ∃ (x6_4 : Int), v6 = .int .i64 x6_4 ∧ Aside0 (boltinglaw15_HeaderParts.l2 kq t241 x4_1 x6_4 = some r) ∧ Aside0 (kq ≤ k3) ∧ Aside0 (Kd.S (Kd.slice 9 Kd.string) 24 w' w.heap.size (fun _ => True) (.slice (some ad251) t241.length co10) t241) ∧ Aside0 (Kd.C Kd.string w' A251_0 (rd_L1 t241 x4_1).length (rd_L1 t241 x4_1)) ∧ Aside0 (Below w.heap.size w w'))
                            case atStart => exact ⟨(0), (by first | rfl | (simp; done) | (simp [*]; done)), H', ⟨Nat.le_refl _⟩, ⟨by (with_reducible repeat (first | apply Kd.S_alloc | apply Kd.S_drewN | apply Kd.S_drew)); exact HO_3.out⟩, ⟨by repeat (first | (with_reducible exact HR251_0.out) | (with_reducible refine Kd.C_alloc ?_ _) | (with_reducible refine Kd.C_drewN ?_ _) | (with_reducible refine Kd.C_drew ?_) | exact HR251_0.out)⟩, ⟨by repeat (first | (with_reducible first | exact HB.out | apply below_alloc | apply pw_below_drewN | apply below_drew1) | exact HB.out)⟩⟩
                            case round =>
                              clear H'
                              try clear c1
                              try clear c2
                              try clear p2
                              try clear q2
                              try clear hx2
                              try clear qi2
                              try clear c3
                              try clear c3b0
                              try clear c3b1
                              try clear c4
                              try clear c4b0
                              try clear c4b1
                              try clear p6
                              try clear c7
                              try clear c8
                              try clear c8b0
                              try clear c11
                              try clear c11b0
                              try clear c12
                              try clear c12b0
                              try clear c12b1
                              try clear c12b2
                              try clear c14
                              try clear c14b0
                              try clear c14b1
                              try clear c18
                              try clear c19
                              try clear c19b0
                              try clear c20
                              try clear c20b0
                              try clear c21
                              try clear c21b0
                              try clear c22
                              try clear c22b0
                              try clear c23
                              try clear c23b0
                              try clear c23b1
                              try clear p24
                              try clear q24
                              try clear hx24
                              try clear c25
                              try clear c25b0
                              try clear c25b1
                              try clear p25
                              try clear q25
                              try clear hx25
                              try clear hx245_0
                              try clear hx246_0
                              try clear hx247_0
                              try clear hx249_0
                              try clear hx250_0
                              try clear hx251_0
                              try clear hx252_0
                              try clear hx253_0
                              try clear hx254_0
                              try clear hx255_0
                              try clear p2
                              try clear p245
                              try clear p246
                              try clear p247
                              try clear p249
                              try clear p250
                              try clear p251
                              try clear p252
                              try clear p253
                              try clear p254
                              try clear p255
                              try clear q2
                              try clear q245
                              try clear q246
                              try clear q247
                              try clear q249
                              try clear q250
                              try clear q251
                              try clear q252
                              try clear q253
                              try clear q254
                              try clear q255
                              obtain ⟨x6_4, rfl, HA, HK4, HO_3, HR251_0, HB⟩ := hrel
                              cases gk with
                              | zero => exact absurd HA.out (by simp [boltinglaw15_HeaderParts.l2])
                              | succ k4 =>
                                have H := HA.out
                                clear HA
                                simp only [boltinglaw15_HeaderParts.l2] at H
                                by_cases c30 : x6_4 < x4_1
                                · rw [if_pos c30] at H
                                  have c30b0 : decide (x6_4 < x4_1) = true := decide_eq_true c30
                                  clear c30
                                  by_cases c31 : 0 ≤ x6_4
                                  · rw [if_pos c31] at H
                                    have c31b0 : decide (0 ≤ x6_4) = true := decide_eq_true c31
                                    clear c31
                                    by_cases c32 : x6_4 < (t241.length : Int)
                                    · rw [if_pos c32] at H
                                      have c32b0 : decide (x6_4 < (t241.length : Int)) = true := decide_eq_true c32
                                      clear c32
                                      by_cases c33 : 0 < ((rd_L1 t241 x6_4).length : Int)
                                      · rw [if_pos c33] at H
                                        have c33b0 : decide (0 < ((rd_L1 t241 x6_4).length : Int)) = true := decide_eq_true c33
                                        have c33b1 : decide (0 < (rd_L1 t241 x6_4).length) = true := decide_eq_true (by omega)
                                        clear c33
                                        by_cases c34 : 0 ≤ x4_1
                                        · rw [if_pos c34] at H
                                          have c34b0 : decide (0 ≤ x4_1) = true := decide_eq_true c34
                                          clear c34
                                          by_cases c35 : x4_1 < (t241.length : Int)
                                          · rw [if_pos c35] at H
                                            have c35b0 : decide (x4_1 < (t241.length : Int)) = true := decide_eq_true c35
                                            clear c35
                                            by_cases c36 : 0 < ((rd_L1 t241 x4_1).length : Int)
                                            · rw [if_pos c36] at H
                                              have c36b0 : decide (0 < ((rd_L1 t241 x4_1).length : Int)) = true := decide_eq_true c36
                                              have c36b1 : decide (0 < (rd_L1 t241 x4_1).length) = true := decide_eq_true (by omega)
                                              clear c36
                                              by_cases c37 : (rdOf ByteArray.empty (rd_L1 t241 x6_4) 0).toList = (rdOf ByteArray.empty (rd_L1 t241 x4_1) 0).toList
                                              · rw [if_pos c37] at H
                                                have c37b0 : ((rdOf ByteArray.empty (rd_L1 t241 x6_4) 0).toList == (rdOf ByteArray.empty (rd_L1 t241 x4_1) 0).toList) = true := beq_iff_eq.mpr c37
                                                have c37b1 : ((rdOf ByteArray.empty (rd_L1 t241 x6_4) 0).toList != (rdOf ByteArray.empty (rd_L1 t241 x4_1) 0).toList) = false := bne_eq_false_iff_eq.mpr c37
                                                clear c37
                                                obtain rfl := Option.some.inj H
                                                try go_wp2
                                                have n0_ := Aside0.mk (Kd.S_drew HO_3.out)
                                                have n1_ := Aside0.mk (Kd.C_drew HR251_0.out)
                                                have n2_ := Aside0.mk (below_drew1 HB.out)
                                                clear HO_3
                                                clear HR251_0
                                                clear HB
                                                have HO_3 := n0_
                                                have HR251_0 := n1_
                                                have HB := n2_
                                                clear n0_ n1_ n2_
                                                have p259 : 0 ≤ (x6_4 : Int) := of_decide_eq_true (by first | (with_reducible assumption) | assumption)
                                                have q259 : x6_4 < (t241.length : Int) := of_decide_eq_true (by first | (with_reducible assumption) | assumption)
                                                obtain ⟨ad259, A259_0, c259_0, e259, hx259_0, hl259_0, hi259_0⟩ := at_L1 (Kd.S_reads' HO_3.out).2.2 x6_4 p259 q259
                                                obtain rfl : ad251 = ad259 := (by injection e259)
                                                obtain ⟨ce259, hce259, hMe259, hcc259⟩ := Kd.S_get HO_3.out [] x6_4 p259 (by first | exact q259 | exact of_decide_eq_true (by first | (with_reducible assumption) | assumption) | (have e_ := (Kd.S_reads' HO_3.out).1; omega))
                                                obtain ⟨ve259_0, rfl, ge259_0⟩ := hMe259
                                                have hv259_0 := hcc259 0 _ rfl
                                                rw [Nat.add_zero, show ((Kd.slice 9 Kd.string)).sz = 1 from rfl, Nat.mul_one] at hv259_0
                                                replace hv259_0 := Option.some.inj (hv259_0.symm.trans hx259_0)
                                                rw [hv259_0] at ge259_0
                                                have HL259_0 := Aside0.mk (show Kd.R Kd.string 9 _ _ _ _ (rd_L1 t241 x6_4) from ge259_0)
                                                clear hv259_0 ge259_0
                                                clear hcc259 hce259
                                                have HR259_0 := Aside0.mk hi259_0
                                                have HC259_0 := Aside0.mk hl259_0
                                                clear hi259_0 hl259_0
                                                replace p259 := eq_true p259
                                                replace q259 := eq_true q259
                                                have p260 : 0 ≤ (0 : Int) := (by omega)
                                                have q260 : 0 < ((rd_L1 t241 x6_4).length : Int) := of_decide_eq_true (by first | (with_reducible assumption) | assumption)
                                                obtain ⟨ad260, e260, hx260_0⟩ := Kd.at_string (by repeat (first | (with_reducible exact HR259_0.out) | (with_reducible refine Kd.C_alloc ?_ _) | (with_reducible refine Kd.C_drewN ?_ _) | (with_reducible refine Kd.C_drew ?_) | exact HR259_0.out)) 0 p260 q260
                                                cases e260
                                                have qi260 : (0 < (rd_L1 t241 x6_4).length) = True := eq_true (by omega)
                                                (try rw [show ((0 : Int)).toNat = 0 from rfl] at hx260_0)
                                                (try rw [Addr.add_zero'] at hx260_0)
                                                replace p260 := eq_true p260
                                                replace q260 := eq_true q260
                                                have p261 : 0 ≤ (x4_1 : Int) := of_decide_eq_true (by first | (with_reducible assumption) | assumption)
                                                have q261 : x4_1 < (t241.length : Int) := of_decide_eq_true (by first | (with_reducible assumption) | assumption)
                                                obtain ⟨ad261, A261_0, c261_0, e261, hx261_0, hl261_0, hi261_0⟩ := at_L1 (Kd.S_reads' HO_3.out).2.2 x4_1 p261 q261
                                                obtain rfl : ad251 = ad261 := (by injection e261)
                                                obtain ⟨ce261, hce261, hMe261, hcc261⟩ := Kd.S_get HO_3.out [] x4_1 p261 (by first | exact q261 | exact of_decide_eq_true (by first | (with_reducible assumption) | assumption) | (have e_ := (Kd.S_reads' HO_3.out).1; omega))
                                                obtain ⟨ve261_0, rfl, ge261_0⟩ := hMe261
                                                have hv261_0 := hcc261 0 _ rfl
                                                rw [Nat.add_zero, show ((Kd.slice 9 Kd.string)).sz = 1 from rfl, Nat.mul_one] at hv261_0
                                                replace hv261_0 := Option.some.inj (hv261_0.symm.trans hx261_0)
                                                rw [hv261_0] at ge261_0
                                                have HL261_0 := Aside0.mk (show Kd.R Kd.string 9 _ _ _ _ (rd_L1 t241 x4_1) from ge261_0)
                                                clear hv261_0 ge261_0
                                                clear hcc261 hce261
                                                have HR261_0 := Aside0.mk hi261_0
                                                have HC261_0 := Aside0.mk hl261_0
                                                clear hi261_0 hl261_0
                                                replace p261 := eq_true p261
                                                replace q261 := eq_true q261
                                                have p262 : 0 ≤ (0 : Int) := (by omega)
                                                have q262 : 0 < ((rd_L1 t241 x4_1).length : Int) := of_decide_eq_true (by first | (with_reducible assumption) | assumption)
                                                obtain ⟨ad262, e262, hx262_0⟩ := Kd.at_string (by repeat (first | (with_reducible exact HR261_0.out) | (with_reducible refine Kd.C_alloc ?_ _) | (with_reducible refine Kd.C_drewN ?_ _) | (with_reducible refine Kd.C_drew ?_) | exact HR261_0.out)) 0 p262 q262
                                                cases e262
                                                have qi262 : (0 < (rd_L1 t241 x4_1).length) = True := eq_true (by omega)
                                                (try rw [show ((0 : Int)).toNat = 0 from rfl] at hx262_0)
                                                (try rw [Addr.add_zero'] at hx262_0)
                                                replace p262 := eq_true p262
                                                replace q262 := eq_true q262
                                                refine start_ (n := 13) (S := fun w' => w'.cell? (ad251.add (x6_4).toNat) = some (.slice (some ad260) (rd_L1 t241 x6_4).length c259_0) ∧ w'.cell? ad260 = some (.string (rdOf ByteArray.empty (rd_L1 t241 x6_4) 0)) ∧ w'.cell? (ad251.add (x4_1).toNat) = some (.slice (some ad262) (rd_L1 t241 x4_1).length c261_0) ∧ w'.cell? ad262 = some (.string (rdOf ByteArray.empty (rd_L1 t241 x4_1) 0))) (ds := []) #[false, false, false, false, false, false, false, false, false, false, false, false, false] (by kernel_rfl) rfl rfl ⟨hx259_0, hx260_0, hx261_0, hx262_0⟩ (fun hHeld => ?_); refine with_tabW boltinglaw15_HeaderParts.tab16 boltinglaw15_HeaderParts.bits16 (fun HT_ HW_ => ?_)
                                                generalize wr.drew = w38 at HO_3 HR251_0 HB HL259_0 HL261_0 HR259_0 HR261_0 hx259_0 hx260_0 hx261_0 hx262_0 hHeld ⊢
                                                refine pure_ (i := 0) (N := some 76) (v := ?_) (a' := ?_) #[true, false, false, false, false, false, false, false, false, false, false, false, false] rfl rfl (any_of HT_.out (by kernel_rfl)) (fun _ _ _ h => h) (Or.inl ⟨by rfl, ?_⟩) ?_ ?_
                                                rotate_left
                                                · intro w'
                                                  go_simp
                                                  with_reducible rfl
                                                rotate_left
                                                · simp only [Act.put, List.setIfInBounds_toArray, List.set_cons_zero, List.set_cons_succ, i64_w, i32_w]
                                                  rfl
                                                refine pure_ (i := 1) (N := some 77) (v := ?_) (a' := ?_) #[true, true, false, false, false, false, false, false, false, false, false, false, false] rfl rfl (any_of HT_.out (by kernel_rfl)) (fun _ _ _ h => h) (Or.inl ⟨by rfl, ?_⟩) ?_ ?_
                                                rotate_left
                                                · intro w'
                                                  go_simp
                                                  with_reducible rfl
                                                rotate_left
                                                · simp only [Act.put, List.setIfInBounds_toArray, List.set_cons_zero, List.set_cons_succ, i64_w, i32_w]
                                                  rfl
                                                refine pure_ (i := 2) (N := some 78) (v := ?_) (a' := ?_) #[true, true, true, false, false, false, false, false, false, false, false, false, false] rfl rfl (any_of HT_.out (by kernel_rfl)) (fun _ _ _ h => h) (Or.inl ⟨by rfl, ?_⟩) ?_ ?_
                                                rotate_left
                                                · intro w'
                                                  go_simp
                                                  with_reducible rfl
                                                rotate_left
                                                · simp only [Act.put, List.setIfInBounds_toArray, List.set_cons_zero, List.set_cons_succ, i64_w, i32_w]
                                                  rfl
                                                refine pure_ (i := 6) (N := some 82) (v := ?_) (a' := ?_) #[true, true, true, false, false, false, true, false, false, false, false, false, false] rfl rfl (any_of HT_.out (by kernel_rfl)) (fun _ _ _ h => h) (Or.inl ⟨by rfl, ?_⟩) ?_ ?_
                                                rotate_left
                                                · intro w'
                                                  go_simp
                                                  with_reducible rfl
                                                rotate_left
                                                · simp only [Act.put, List.setIfInBounds_toArray, List.set_cons_zero, List.set_cons_succ, i64_w, i32_w]
                                                  rfl
                                                refine pure_ (i := 7) (N := some 83) (v := ?_) (a' := ?_) #[true, true, true, false, false, false, true, true, false, false, false, false, false] rfl rfl (any_of HT_.out (by kernel_rfl)) (fun _ _ _ h => h) (Or.inl ⟨by rfl, ?_⟩) ?_ ?_
                                                rotate_left
                                                · intro w'
                                                  go_simp
                                                  with_reducible rfl
                                                rotate_left
                                                · simp only [Act.put, List.setIfInBounds_toArray, List.set_cons_zero, List.set_cons_succ, i64_w, i32_w]
                                                  rfl
                                                refine pure_ (i := 8) (N := some 84) (v := ?_) (a' := ?_) #[true, true, true, false, false, false, true, true, true, false, false, false, false] rfl rfl (any_of HT_.out (by kernel_rfl)) (fun _ _ _ h => h) (Or.inl ⟨by rfl, ?_⟩) ?_ ?_
                                                rotate_left
                                                · intro w'
                                                  go_simp
                                                  with_reducible rfl
                                                rotate_left
                                                · simp only [Act.put, List.setIfInBounds_toArray, List.set_cons_zero, List.set_cons_succ, i64_w, i32_w]
                                                  rfl
                                                refine take_ (i := 3) (N := some 79) (v := ?_) (a' := ?_) #[true, true, true, true, false, false, true, true, true, false, false, false, false] rfl rfl (take_ofW HT_.out HW_.out (by kernel_rfl)) (fun _ _ _ h => h) (Or.inl ⟨by rfl, ?_⟩) hHeld ?_ ?_
                                                rotate_left
                                                · rintro w' ⟨s0, s1, s2, s3⟩
                                                  go_simp
                                                  with_reducible rfl
                                                rotate_left
                                                · simp only [Act.put, List.setIfInBounds_toArray, List.set_cons_zero, List.set_cons_succ, i64_w, i32_w]
                                                  rfl
                                                refine pure_ (i := 4) (N := some 80) (v := ?_) (a' := ?_) #[true, true, true, true, true, false, true, true, true, false, false, false, false] rfl rfl (any_of HT_.out (by kernel_rfl)) (fun _ _ _ h => h) (Or.inl ⟨by rfl, ?_⟩) ?_ ?_
                                                rotate_left
                                                · intro w'
                                                  go_simp
                                                  with_reducible rfl
                                                rotate_left
                                                · simp only [Act.put, List.setIfInBounds_toArray, List.set_cons_zero, List.set_cons_succ, i64_w, i32_w]
                                                  rfl
                                                refine take_ (i := 5) (N := some 81) (v := ?_) (a' := ?_) #[true, true, true, true, true, true, true, true, true, false, false, false, false] rfl rfl (take_ofW HT_.out HW_.out (by kernel_rfl)) (fun _ _ _ h => h) (Or.inl ⟨by rfl, ?_⟩) hHeld ?_ ?_
                                                rotate_left
                                                · rintro w' ⟨s0, s1, s2, s3⟩
                                                  go_simp
                                                  with_reducible rfl
                                                rotate_left
                                                · simp only [Act.put, List.setIfInBounds_toArray, List.set_cons_zero, List.set_cons_succ, i64_w, i32_w]
                                                  rfl
                                                refine take_ (i := 9) (N := some 85) (v := ?_) (a' := ?_) #[true, true, true, true, true, true, true, true, true, true, false, false, false] rfl rfl (take_ofW HT_.out HW_.out (by kernel_rfl)) (fun _ _ _ h => h) (Or.inl ⟨by rfl, ?_⟩) hHeld ?_ ?_
                                                rotate_left
                                                · rintro w' ⟨s0, s1, s2, s3⟩
                                                  go_simp
                                                  with_reducible rfl
                                                rotate_left
                                                · simp only [Act.put, List.setIfInBounds_toArray, List.set_cons_zero, List.set_cons_succ, i64_w, i32_w]
                                                  rfl
                                                refine pure_ (i := 10) (N := some 86) (v := ?_) (a' := ?_) #[true, true, true, true, true, true, true, true, true, true, true, false, false] rfl rfl (any_of HT_.out (by kernel_rfl)) (fun _ _ _ h => h) (Or.inl ⟨by rfl, ?_⟩) ?_ ?_
                                                rotate_left
                                                · intro w'
                                                  go_simp
                                                  with_reducible rfl
                                                rotate_left
                                                · simp only [Act.put, List.setIfInBounds_toArray, List.set_cons_zero, List.set_cons_succ, i64_w, i32_w]
                                                  rfl
                                                refine take_ (i := 11) (N := some 87) (v := ?_) (a' := ?_) #[true, true, true, true, true, true, true, true, true, true, true, true, false] rfl rfl (take_ofW HT_.out HW_.out (by kernel_rfl)) (fun _ _ _ h => h) (Or.inl ⟨by rfl, ?_⟩) hHeld ?_ ?_
                                                rotate_left
                                                · rintro w' ⟨s0, s1, s2, s3⟩
                                                  go_simp
                                                  with_reducible rfl
                                                rotate_left
                                                · simp only [Act.put, List.setIfInBounds_toArray, List.set_cons_zero, List.set_cons_succ, i64_w, i32_w]
                                                  rfl
                                                refine pure_ (i := 12) (N := some 88) (v := ?_) (a' := ?_) #[true, true, true, true, true, true, true, true, true, true, true, true, true] rfl rfl (any_of HT_.out (by kernel_rfl)) (fun _ _ _ h => h) (Or.inl ⟨by rfl, ?_⟩) ?_ ?_
                                                rotate_left
                                                · intro w'
                                                  go_simp
                                                  with_reducible rfl
                                                rotate_left
                                                · simp only [Act.put, List.setIfInBounds_toArray, List.set_cons_zero, List.set_cons_succ, i64_w, i32_w]
                                                  rfl
                                                refine done_ (done_of HT_.out (by kernel_rfl)) ?_
                                                try go_wp2
                                                go_ret
                                                exact ⟨by first | rfl | (simp [errW_none, errW_some] <;> rfl) | (simp only [← hji2]; first | rfl | (simp [errW_none, errW_some] <;> rfl)) | (simp [*, errW_none, errW_some] <;> rfl), by repeat (first | (with_reducible first | exact HB.out | apply below_alloc | apply pw_below_drewN | apply below_drew1) | exact HB.out)⟩
                                              · rw [if_neg c37] at H
                                                have c37b0 : ((rdOf ByteArray.empty (rd_L1 t241 x6_4) 0).toList == (rdOf ByteArray.empty (rd_L1 t241 x4_1) 0).toList) = false := beq_eq_false_iff_ne.mpr c37
                                                have c37b1 : ((rdOf ByteArray.empty (rd_L1 t241 x6_4) 0).toList != (rdOf ByteArray.empty (rd_L1 t241 x4_1) 0).toList) = true := bne_iff_ne.mpr c37
                                                have H' := Aside0.mk H
                                                clear H
                                                try go_wp2
                                                have n0_ := Aside0.mk (Kd.S_drew HO_3.out)
                                                have n1_ := Aside0.mk (Kd.C_drew HR251_0.out)
                                                have n2_ := Aside0.mk (below_drew1 HB.out)
                                                clear HO_3
                                                clear HR251_0
                                                clear HB
                                                have HO_3 := n0_
                                                have HR251_0 := n1_
                                                have HB := n2_
                                                clear n0_ n1_ n2_
                                                have p259 : 0 ≤ (x6_4 : Int) := of_decide_eq_true (by first | (with_reducible assumption) | assumption)
                                                have q259 : x6_4 < (t241.length : Int) := of_decide_eq_true (by first | (with_reducible assumption) | assumption)
                                                obtain ⟨ad259, A259_0, c259_0, e259, hx259_0, hl259_0, hi259_0⟩ := at_L1 (Kd.S_reads' HO_3.out).2.2 x6_4 p259 q259
                                                obtain rfl : ad251 = ad259 := (by injection e259)
                                                obtain ⟨ce259, hce259, hMe259, hcc259⟩ := Kd.S_get HO_3.out [] x6_4 p259 (by first | exact q259 | exact of_decide_eq_true (by first | (with_reducible assumption) | assumption) | (have e_ := (Kd.S_reads' HO_3.out).1; omega))
                                                obtain ⟨ve259_0, rfl, ge259_0⟩ := hMe259
                                                have hv259_0 := hcc259 0 _ rfl
                                                rw [Nat.add_zero, show ((Kd.slice 9 Kd.string)).sz = 1 from rfl, Nat.mul_one] at hv259_0
                                                replace hv259_0 := Option.some.inj (hv259_0.symm.trans hx259_0)
                                                rw [hv259_0] at ge259_0
                                                have HL259_0 := Aside0.mk (show Kd.R Kd.string 9 _ _ _ _ (rd_L1 t241 x6_4) from ge259_0)
                                                clear hv259_0 ge259_0
                                                clear hcc259 hce259
                                                have HR259_0 := Aside0.mk hi259_0
                                                have HC259_0 := Aside0.mk hl259_0
                                                clear hi259_0 hl259_0
                                                replace p259 := eq_true p259
                                                replace q259 := eq_true q259
                                                have p260 : 0 ≤ (0 : Int) := (by omega)
                                                have q260 : 0 < ((rd_L1 t241 x6_4).length : Int) := of_decide_eq_true (by first | (with_reducible assumption) | assumption)
                                                obtain ⟨ad260, e260, hx260_0⟩ := Kd.at_string (by repeat (first | (with_reducible exact HR259_0.out) | (with_reducible refine Kd.C_alloc ?_ _) | (with_reducible refine Kd.C_drewN ?_ _) | (with_reducible refine Kd.C_drew ?_) | exact HR259_0.out)) 0 p260 q260
                                                cases e260
                                                have qi260 : (0 < (rd_L1 t241 x6_4).length) = True := eq_true (by omega)
                                                (try rw [show ((0 : Int)).toNat = 0 from rfl] at hx260_0)
                                                (try rw [Addr.add_zero'] at hx260_0)
                                                replace p260 := eq_true p260
                                                replace q260 := eq_true q260
                                                have p261 : 0 ≤ (x4_1 : Int) := of_decide_eq_true (by first | (with_reducible assumption) | assumption)
                                                have q261 : x4_1 < (t241.length : Int) := of_decide_eq_true (by first | (with_reducible assumption) | assumption)
                                                obtain ⟨ad261, A261_0, c261_0, e261, hx261_0, hl261_0, hi261_0⟩ := at_L1 (Kd.S_reads' HO_3.out).2.2 x4_1 p261 q261
                                                obtain rfl : ad251 = ad261 := (by injection e261)
                                                obtain ⟨ce261, hce261, hMe261, hcc261⟩ := Kd.S_get HO_3.out [] x4_1 p261 (by first | exact q261 | exact of_decide_eq_true (by first | (with_reducible assumption) | assumption) | (have e_ := (Kd.S_reads' HO_3.out).1; omega))
                                                obtain ⟨ve261_0, rfl, ge261_0⟩ := hMe261
                                                have hv261_0 := hcc261 0 _ rfl
                                                rw [Nat.add_zero, show ((Kd.slice 9 Kd.string)).sz = 1 from rfl, Nat.mul_one] at hv261_0
                                                replace hv261_0 := Option.some.inj (hv261_0.symm.trans hx261_0)
                                                rw [hv261_0] at ge261_0
                                                have HL261_0 := Aside0.mk (show Kd.R Kd.string 9 _ _ _ _ (rd_L1 t241 x4_1) from ge261_0)
                                                clear hv261_0 ge261_0
                                                clear hcc261 hce261
                                                have HR261_0 := Aside0.mk hi261_0
                                                have HC261_0 := Aside0.mk hl261_0
                                                clear hi261_0 hl261_0
                                                replace p261 := eq_true p261
                                                replace q261 := eq_true q261
                                                have p262 : 0 ≤ (0 : Int) := (by omega)
                                                have q262 : 0 < ((rd_L1 t241 x4_1).length : Int) := of_decide_eq_true (by first | (with_reducible assumption) | assumption)
                                                obtain ⟨ad262, e262, hx262_0⟩ := Kd.at_string (by repeat (first | (with_reducible exact HR261_0.out) | (with_reducible refine Kd.C_alloc ?_ _) | (with_reducible refine Kd.C_drewN ?_ _) | (with_reducible refine Kd.C_drew ?_) | exact HR261_0.out)) 0 p262 q262
                                                cases e262
                                                have qi262 : (0 < (rd_L1 t241 x4_1).length) = True := eq_true (by omega)
                                                (try rw [show ((0 : Int)).toNat = 0 from rfl] at hx262_0)
                                                (try rw [Addr.add_zero'] at hx262_0)
                                                replace p262 := eq_true p262
                                                replace q262 := eq_true q262
                                                refine start_ (n := 13) (S := fun w' => w'.cell? (ad251.add (x6_4).toNat) = some (.slice (some ad260) (rd_L1 t241 x6_4).length c259_0) ∧ w'.cell? ad260 = some (.string (rdOf ByteArray.empty (rd_L1 t241 x6_4) 0)) ∧ w'.cell? (ad251.add (x4_1).toNat) = some (.slice (some ad262) (rd_L1 t241 x4_1).length c261_0) ∧ w'.cell? ad262 = some (.string (rdOf ByteArray.empty (rd_L1 t241 x4_1) 0))) (ds := []) #[false, false, false, false, false, false, false, false, false, false, false, false, false] (by kernel_rfl) rfl rfl ⟨hx259_0, hx260_0, hx261_0, hx262_0⟩ (fun hHeld => ?_); refine with_tabW boltinglaw15_HeaderParts.tab16 boltinglaw15_HeaderParts.bits16 (fun HT_ HW_ => ?_)
                                                generalize wr.drew = w39 at HO_3 HR251_0 HB HL259_0 HL261_0 HR259_0 HR261_0 hx259_0 hx260_0 hx261_0 hx262_0 hHeld ⊢
                                                refine pure_ (i := 0) (N := some 76) (v := ?_) (a' := ?_) #[true, false, false, false, false, false, false, false, false, false, false, false, false] rfl rfl (any_of HT_.out (by kernel_rfl)) (fun _ _ _ h => h) (Or.inl ⟨by rfl, ?_⟩) ?_ ?_
                                                rotate_left
                                                · intro w'
                                                  go_simp
                                                  with_reducible rfl
                                                rotate_left
                                                · simp only [Act.put, List.setIfInBounds_toArray, List.set_cons_zero, List.set_cons_succ, i64_w, i32_w]
                                                  rfl
                                                refine pure_ (i := 1) (N := some 77) (v := ?_) (a' := ?_) #[true, true, false, false, false, false, false, false, false, false, false, false, false] rfl rfl (any_of HT_.out (by kernel_rfl)) (fun _ _ _ h => h) (Or.inl ⟨by rfl, ?_⟩) ?_ ?_
                                                rotate_left
                                                · intro w'
                                                  go_simp
                                                  with_reducible rfl
                                                rotate_left
                                                · simp only [Act.put, List.setIfInBounds_toArray, List.set_cons_zero, List.set_cons_succ, i64_w, i32_w]
                                                  rfl
                                                refine pure_ (i := 2) (N := some 78) (v := ?_) (a' := ?_) #[true, true, true, false, false, false, false, false, false, false, false, false, false] rfl rfl (any_of HT_.out (by kernel_rfl)) (fun _ _ _ h => h) (Or.inl ⟨by rfl, ?_⟩) ?_ ?_
                                                rotate_left
                                                · intro w'
                                                  go_simp
                                                  with_reducible rfl
                                                rotate_left
                                                · simp only [Act.put, List.setIfInBounds_toArray, List.set_cons_zero, List.set_cons_succ, i64_w, i32_w]
                                                  rfl
                                                refine pure_ (i := 6) (N := some 82) (v := ?_) (a' := ?_) #[true, true, true, false, false, false, true, false, false, false, false, false, false] rfl rfl (any_of HT_.out (by kernel_rfl)) (fun _ _ _ h => h) (Or.inl ⟨by rfl, ?_⟩) ?_ ?_
                                                rotate_left
                                                · intro w'
                                                  go_simp
                                                  with_reducible rfl
                                                rotate_left
                                                · simp only [Act.put, List.setIfInBounds_toArray, List.set_cons_zero, List.set_cons_succ, i64_w, i32_w]
                                                  rfl
                                                refine pure_ (i := 7) (N := some 83) (v := ?_) (a' := ?_) #[true, true, true, false, false, false, true, true, false, false, false, false, false] rfl rfl (any_of HT_.out (by kernel_rfl)) (fun _ _ _ h => h) (Or.inl ⟨by rfl, ?_⟩) ?_ ?_
                                                rotate_left
                                                · intro w'
                                                  go_simp
                                                  with_reducible rfl
                                                rotate_left
                                                · simp only [Act.put, List.setIfInBounds_toArray, List.set_cons_zero, List.set_cons_succ, i64_w, i32_w]
                                                  rfl
                                                refine pure_ (i := 8) (N := some 84) (v := ?_) (a' := ?_) #[true, true, true, false, false, false, true, true, true, false, false, false, false] rfl rfl (any_of HT_.out (by kernel_rfl)) (fun _ _ _ h => h) (Or.inl ⟨by rfl, ?_⟩) ?_ ?_
                                                rotate_left
                                                · intro w'
                                                  go_simp
                                                  with_reducible rfl
                                                rotate_left
                                                · simp only [Act.put, List.setIfInBounds_toArray, List.set_cons_zero, List.set_cons_succ, i64_w, i32_w]
                                                  rfl
                                                refine take_ (i := 3) (N := some 79) (v := ?_) (a' := ?_) #[true, true, true, true, false, false, true, true, true, false, false, false, false] rfl rfl (take_ofW HT_.out HW_.out (by kernel_rfl)) (fun _ _ _ h => h) (Or.inl ⟨by rfl, ?_⟩) hHeld ?_ ?_
                                                rotate_left
                                                · rintro w' ⟨s0, s1, s2, s3⟩
                                                  go_simp
                                                  with_reducible rfl
                                                rotate_left
                                                · simp only [Act.put, List.setIfInBounds_toArray, List.set_cons_zero, List.set_cons_succ, i64_w, i32_w]
                                                  rfl
                                                refine pure_ (i := 4) (N := some 80) (v := ?_) (a' := ?_) #[true, true, true, true, true, false, true, true, true, false, false, false, false] rfl rfl (any_of HT_.out (by kernel_rfl)) (fun _ _ _ h => h) (Or.inl ⟨by rfl, ?_⟩) ?_ ?_
                                                rotate_left
                                                · intro w'
                                                  go_simp
                                                  with_reducible rfl
                                                rotate_left
                                                · simp only [Act.put, List.setIfInBounds_toArray, List.set_cons_zero, List.set_cons_succ, i64_w, i32_w]
                                                  rfl
                                                refine take_ (i := 5) (N := some 81) (v := ?_) (a' := ?_) #[true, true, true, true, true, true, true, true, true, false, false, false, false] rfl rfl (take_ofW HT_.out HW_.out (by kernel_rfl)) (fun _ _ _ h => h) (Or.inl ⟨by rfl, ?_⟩) hHeld ?_ ?_
                                                rotate_left
                                                · rintro w' ⟨s0, s1, s2, s3⟩
                                                  go_simp
                                                  with_reducible rfl
                                                rotate_left
                                                · simp only [Act.put, List.setIfInBounds_toArray, List.set_cons_zero, List.set_cons_succ, i64_w, i32_w]
                                                  rfl
                                                refine take_ (i := 9) (N := some 85) (v := ?_) (a' := ?_) #[true, true, true, true, true, true, true, true, true, true, false, false, false] rfl rfl (take_ofW HT_.out HW_.out (by kernel_rfl)) (fun _ _ _ h => h) (Or.inl ⟨by rfl, ?_⟩) hHeld ?_ ?_
                                                rotate_left
                                                · rintro w' ⟨s0, s1, s2, s3⟩
                                                  go_simp
                                                  with_reducible rfl
                                                rotate_left
                                                · simp only [Act.put, List.setIfInBounds_toArray, List.set_cons_zero, List.set_cons_succ, i64_w, i32_w]
                                                  rfl
                                                refine pure_ (i := 10) (N := some 86) (v := ?_) (a' := ?_) #[true, true, true, true, true, true, true, true, true, true, true, false, false] rfl rfl (any_of HT_.out (by kernel_rfl)) (fun _ _ _ h => h) (Or.inl ⟨by rfl, ?_⟩) ?_ ?_
                                                rotate_left
                                                · intro w'
                                                  go_simp
                                                  with_reducible rfl
                                                rotate_left
                                                · simp only [Act.put, List.setIfInBounds_toArray, List.set_cons_zero, List.set_cons_succ, i64_w, i32_w]
                                                  rfl
                                                refine take_ (i := 11) (N := some 87) (v := ?_) (a' := ?_) #[true, true, true, true, true, true, true, true, true, true, true, true, false] rfl rfl (take_ofW HT_.out HW_.out (by kernel_rfl)) (fun _ _ _ h => h) (Or.inl ⟨by rfl, ?_⟩) hHeld ?_ ?_
                                                rotate_left
                                                · rintro w' ⟨s0, s1, s2, s3⟩
                                                  go_simp
                                                  with_reducible rfl
                                                rotate_left
                                                · simp only [Act.put, List.setIfInBounds_toArray, List.set_cons_zero, List.set_cons_succ, i64_w, i32_w]
                                                  rfl
                                                refine pure_ (i := 12) (N := some 88) (v := ?_) (a' := ?_) #[true, true, true, true, true, true, true, true, true, true, true, true, true] rfl rfl (any_of HT_.out (by kernel_rfl)) (fun _ _ _ h => h) (Or.inl ⟨by rfl, ?_⟩) ?_ ?_
                                                rotate_left
                                                · intro w'
                                                  go_simp
                                                  with_reducible rfl
                                                rotate_left
                                                · simp only [Act.put, List.setIfInBounds_toArray, List.set_cons_zero, List.set_cons_succ, i64_w, i32_w]
                                                  rfl
                                                refine done_ (done_of HT_.out (by kernel_rfl)) ?_
                                                try go_wp2
                                                go_roundg k4
                                                case measure => have := HK1.out; have := HJ8.out; have := HK3.out; have := HK4.out; omega
                                                case rel => exact ⟨(wrap64 (x6_4 + 1)), (by first | rfl | (simp; done) | (simp [*]; done)), H', ⟨by have := HK1.out; have := HJ8.out; have := HK3.out; have := HK4.out; omega⟩, ⟨by (with_reducible repeat (first | apply Kd.S_alloc | apply Kd.S_drewN | apply Kd.S_drew)); exact HO_3.out⟩, ⟨by repeat (first | (with_reducible exact HR251_0.out) | (with_reducible refine Kd.C_alloc ?_ _) | (with_reducible refine Kd.C_drewN ?_ _) | (with_reducible refine Kd.C_drew ?_) | exact HR251_0.out)⟩, ⟨by repeat (first | (with_reducible first | exact HB.out | apply below_alloc | apply pw_below_drewN | apply below_drew1) | exact HB.out)⟩⟩
                                            · rw [if_neg c36] at H
                                              exact absurd H (by simp)
                                          · rw [if_neg c35] at H
                                            exact absurd H (by simp)
                                        · rw [if_neg c34] at H
                                          exact absurd H (by simp)
                                      · rw [if_neg c33] at H
                                        exact absurd H (by simp)
                                    · rw [if_neg c32] at H
                                      exact absurd H (by simp)
                                  · rw [if_neg c31] at H
                                    exact absurd H (by simp)
                                · rw [if_neg c30] at H
                                  have c30b0 : decide (x6_4 < x4_1) = false := decide_eq_false c30
                                  clear c30
                                  have H' := Aside0.mk H
                                  clear H
                                  go_wp2
                                  go_roundg k4
                                  case measure => have := HK1.out; have := HJ8.out; have := HK3.out; have := HK4.out; omega
                                  case rel => exact ⟨(wrap64 (x4_1 + 1)), (by first | rfl | (simp; done) | (simp [*]; done)), H', ⟨by have := HK1.out; have := HJ8.out; have := HK3.out; have := HK4.out; omega⟩, ⟨by (with_reducible repeat (first | apply Kd.S_alloc | apply Kd.S_drewN | apply Kd.S_drew)); exact HO_3.out⟩, ⟨by repeat (first | (with_reducible first | exact HB.out | apply below_alloc | apply pw_below_drewN | apply below_drew1) | exact HB.out)⟩⟩
                        · rw [if_neg c20] at H
                          exact absurd H (by simp)
                      · rw [if_neg c19] at H
                        exact absurd H (by simp)
          · rw [if_neg c8] at H
            have c8b0 : decide (x4_1 < (t241.length : Int)) = false := decide_eq_false c8
            clear c8
            replace H := Option.bind_eq_some_iff.mp H
            obtain ⟨t244, A400, H⟩ := H
            replace H : (some t244) = some r := H
            have A40 := Aside0.mk A400
            clear A400
            obtain rfl := Option.some.inj H
            obtain ⟨Ao41, co41, eo41⟩ := Kd.S_slice HO_3.out
            subst eo41
            go_wp2_with (first | ((with_reducible refine gate_callee (f := 16) rfl ?_); refine goesL_ (some 89) rfl rfl Tryd.func16 (by kernel_rfl) rfl #[] rfl (by (try simp only [List.map_toArray, List.map_cons, List.map_nil]); first | done | rfl | (simp only [List.length_drop, List.length_take]; rfl)) ?_; (with_reducible refine (boltinglaw15_fixed.calls k1  t244 _ A40.out).mono ?_); rintro e w42 ⟨rfl, hb⟩; refine ⟨_, rfl, ?_⟩; have n0_ := Aside0.mk (Kd.S_below (by (with_reducible repeat (first | apply Kd.S_alloc | apply Kd.S_drewN | apply Kd.S_drew)); exact HO_3.out) hb); have n1_ := Aside0.mk (below_step (by repeat (first | (with_reducible first | exact HB.out | apply below_alloc | apply pw_below_drewN | apply below_drew1) | exact HB.out)) hb); clear HO_3; clear HB; have HO_3 := n0_; have HB := n1_; clear n0_ n1_; (try clear hb); (try clear hb2); (try clear hk); (try clear hi)))
            go_ret
            exact ⟨by first | rfl | (simp [errW_none, errW_some] <;> rfl) | (simp only [← hji2]; first | rfl | (simp [errW_none, errW_some] <;> rfl)) | (simp [*, errW_none, errW_some] <;> rfl), by repeat (first | (with_reducible first | exact HB.out | apply below_alloc | apply pw_below_drewN | apply below_drew1) | exact HB.out)⟩
    · rw [if_neg c4] at H
      exact absurd H (by simp)
  · rw [if_neg c3] at H
    exact absurd H (by simp)

/-- THE ONE PURE STATEMENT of boltinglaw15_HeaderParts: yours. -/
def boltinglaw15_HeaderParts.Pure : Prop := ∀ (a0 : ByteArray), a0.size ≤ 140737488351232 → ∃ k, boltinglaw15_HeaderParts.f k a0 = some true
theorem boltinglaw15_HeaderParts.walk (P : boltinglaw15_HeaderParts.Pure) (a0 : ByteArray) (w : World) (w0 : a0.size ≤ 140737488351232) :
    Calls Tryd.prog 7 #[.string a0] w fun e w' => e = .returned (.bool true) ∧ Below w.heap.size w w' := by
  obtain ⟨k, h⟩ := P a0 w0
  refine (boltinglaw15_HeaderParts.calls k a0 true w h).mono ?_
  rintro e w' ⟨rfl, hd⟩
  exact ⟨rfl, hd⟩

end Go.Proofs.YthblohknnlkidaaDoor.Pr
