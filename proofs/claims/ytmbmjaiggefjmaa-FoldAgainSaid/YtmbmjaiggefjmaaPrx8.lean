-- Written by wip/tools/pr.sh out of Lean's own print of the translation. Not trusted: Lean checks it.
import Derived.Test.YtmbmjaiggefjmaaPrx0
import Derived.Test.YtmbmjaiggefjmaaPrx1
import Derived.Test.YtmbmjaiggefjmaaPrx3
namespace Go.Proofs.Ytmbmjaiggefjmaa.Pr
open Go.RowKit Go.Proofs.YtmbmjaiggefjmaaW.PrintWords Go.Proofs.YtmbmjaiggefjmaaW.PrintLast Go.Proofs.YtmbmjaiggefjmaaW.PrintMore
attribute [local go_sem] max2_int min2_int max_two min_two max_three min_three max_four min_four   -- for this text's walks alone
set_option linter.unusedVariables false
set_option linter.unusedSimpArgs false

/-! ### boltinglaw02_FoldAgain: function 7 -/
def boltinglaw02_FoldAgain.j0 : Nat → ByteArray → ByteArray → ByteArray → Bool → Option (Bool)
  | 0, _, _, _, _ => none
  | k + 1, x0, x3, x4, x45 => if x45 = true then (some false) else (if x3.toList = ([] : List UInt8) then ((fold_Words.f x0).bind fun t206 => (if ((x3.toList == ([] : List UInt8)) == ((t206.length : Int) == 0)) = true then ((fold_Same.f x0 x4).bind fun t209 => (if t209 = true then ((boltinglaw02_fixed.f k).bind fun t210 => (some t210)) else (some false))) else (some false))) else (if 0 < (x3.size : Int) then ((fold_Space.f (bt x3 0)).bind fun t211 => (if t211 = true then (some false) else (if 0 ≤ (wrap64 ((x3.size : Int) - 1)) then (if (wrap64 ((x3.size : Int) - 1)) < (x3.size : Int) then ((fold_Space.f (bt x3 (wrap64 ((x3.size : Int) - 1)))).bind fun t212 => (if t212 = true then (some false) else ((fold_Words.f x0).bind fun t213 => (if ((x3.toList == ([] : List UInt8)) == ((t213.length : Int) == 0)) = true then ((fold_Same.f x0 x4).bind fun t216 => (if t216 = true then ((boltinglaw02_fixed.f k).bind fun t217 => (some t217)) else (some false))) else (some false))))) else (none)) else (none)))) else (none)))
def boltinglaw02_FoldAgain.f (k : Nat) (a0 : ByteArray) : Option (Bool) := if 0 ≤ (mn (a0.size : Int) 1000) then (if (mn (a0.size : Int) 1000) ≤ (a0.size : Int) then ((fold_Trim.f k (a0.extract 0 ((mn (a0.size : Int) 1000) : Int).toNat)).bind fun t195 => ((fold_Lower.f (a0.extract 0 ((mn (a0.size : Int) 1000) : Int).toNat)).bind fun t196 => ((fold_Trim.f k t195).bind fun t197 => (if t197.toList = t195.toList then ((fold_Lower.f t196).bind fun t198 => (if t198.toList = t196.toList then (if (t196.size : Int) = ((a0.extract 0 ((mn (a0.size : Int) 1000) : Int).toNat).size : Int) then ((fold_Words.f t195).bind fun t199 => ((fold_Words.f (a0.extract 0 ((mn (a0.size : Int) 1000) : Int).toNat)).bind fun t202 => ((boltingref02_Equal.f k t199 t202).bind fun t205 => (if t205 = true then (boltinglaw02_FoldAgain.j0 k (a0.extract 0 ((mn (a0.size : Int) 1000) : Int).toNat) t195 t196 (decide ((t195.size : Int) > ((a0.extract 0 ((mn (a0.size : Int) 1000) : Int).toNat).size : Int)))) else (boltinglaw02_FoldAgain.j0 k (a0.extract 0 ((mn (a0.size : Int) 1000) : Int).toNat) t195 t196 true))))) else (boltinglaw02_FoldAgain.j0 k (a0.extract 0 ((mn (a0.size : Int) 1000) : Int).toNat) t195 t196 true)) else (boltinglaw02_FoldAgain.j0 k (a0.extract 0 ((mn (a0.size : Int) 1000) : Int).toNat) t195 t196 true))) else (boltinglaw02_FoldAgain.j0 k (a0.extract 0 ((mn (a0.size : Int) 1000) : Int).toNat) t195 t196 true))))) else (none)) else (none)
theorem boltinglaw02_FoldAgain.mono_l : ∀ k, (∀ y0 y1 y2 y3, LeO (boltinglaw02_FoldAgain.j0 k y0 y1 y2 y3) (boltinglaw02_FoldAgain.j0 (k + 1) y0 y1 y2 y3))
  | 0 => fun _ _ _ _ r h => by simp [boltinglaw02_FoldAgain.j0] at h
  | k + 1 => by
    have ih0 := boltinglaw02_FoldAgain.mono_l k
    · intro y0 y1 y2 y3
      unfold boltinglaw02_FoldAgain.j0
      repeat' first
      | (with_reducible exact ih0 _ _ _ _)
      | (with_reducible exact boltinglaw02_fixed.mono _)
      | (with_reducible exact boltingref02_Equal.mono _ _ _)
      | (with_reducible exact fold_Trim.mono _ _)
      | (with_reducible exact LeO.refl _)
      | (with_reducible exact LeO.none _)
      | (with_reducible refine LeO.ite ?_ ?_)
      | (with_reducible refine LeO.bind ?_ (fun _ => ?_))
      | exact ih0 _ _ _ _
      | exact boltinglaw02_fixed.mono _
      | exact boltingref02_Equal.mono _ _ _
      | exact fold_Trim.mono _ _
      | exact LeO.none _
      | refine LeO.ite ?_ ?_
      | refine LeO.bind ?_ (fun _ => ?_)
theorem boltinglaw02_FoldAgain.mono : ∀ a0 k, LeO (boltinglaw02_FoldAgain.f k a0) (boltinglaw02_FoldAgain.f (k + 1) a0) := by
  intro a0 k
  have ih0 := boltinglaw02_FoldAgain.mono_l k
  unfold boltinglaw02_FoldAgain.f
  repeat' first
      | (with_reducible exact ih0 _ _ _ _)
      | (with_reducible exact boltinglaw02_fixed.mono _)
      | (with_reducible exact boltingref02_Equal.mono _ _ _)
      | (with_reducible exact fold_Trim.mono _ _)
      | (with_reducible exact LeO.refl _)
      | (with_reducible exact LeO.none _)
      | (with_reducible refine LeO.ite ?_ ?_)
      | (with_reducible refine LeO.bind ?_ (fun _ => ?_))
      | exact ih0 _ _ _ _
      | exact boltinglaw02_fixed.mono _
      | exact boltingref02_Equal.mono _ _ _
      | exact fold_Trim.mono _ _
      | exact LeO.none _
      | refine LeO.ite ?_ ?_
      | refine LeO.bind ?_ (fun _ => ?_)
set_option maxHeartbeats 8000000 in
set_option maxRecDepth 100000 in
theorem boltinglaw02_FoldAgain.calls (k : Nat) (a0 : ByteArray) (r : Bool) (w : World) (h : boltinglaw02_FoldAgain.f k a0 = some r) :
    Calls Try.prog 7 #[.string a0] w fun e w' => e = .returned (.bool r) ∧ Below w.heap.size w w' := by
  have HB := Aside0.mk (Below.refl w.heap.size w)
  have H : (if 0 ≤ (mn (a0.size : Int) 1000) then (if (mn (a0.size : Int) 1000) ≤ (a0.size : Int) then ((fold_Trim.f k (a0.extract 0 ((mn (a0.size : Int) 1000) : Int).toNat)).bind fun t195 => ((fold_Lower.f (a0.extract 0 ((mn (a0.size : Int) 1000) : Int).toNat)).bind fun t196 => ((fold_Trim.f k t195).bind fun t197 => (if t197.toList = t195.toList then ((fold_Lower.f t196).bind fun t198 => (if t198.toList = t196.toList then (if (t196.size : Int) = ((a0.extract 0 ((mn (a0.size : Int) 1000) : Int).toNat).size : Int) then ((fold_Words.f t195).bind fun t199 => ((fold_Words.f (a0.extract 0 ((mn (a0.size : Int) 1000) : Int).toNat)).bind fun t202 => ((boltingref02_Equal.f k t199 t202).bind fun t205 => (if t205 = true then (boltinglaw02_FoldAgain.j0 k (a0.extract 0 ((mn (a0.size : Int) 1000) : Int).toNat) t195 t196 (decide ((t195.size : Int) > ((a0.extract 0 ((mn (a0.size : Int) 1000) : Int).toNat).size : Int)))) else (boltinglaw02_FoldAgain.j0 k (a0.extract 0 ((mn (a0.size : Int) 1000) : Int).toNat) t195 t196 true))))) else (boltinglaw02_FoldAgain.j0 k (a0.extract 0 ((mn (a0.size : Int) 1000) : Int).toNat) t195 t196 true)) else (boltinglaw02_FoldAgain.j0 k (a0.extract 0 ((mn (a0.size : Int) 1000) : Int).toNat) t195 t196 true))) else (boltinglaw02_FoldAgain.j0 k (a0.extract 0 ((mn (a0.size : Int) 1000) : Int).toNat) t195 t196 true))))) else (none)) else (none)) = some r := h
  clear h
  obtain ⟨ji2, hji2⟩ : ∃ j_ : Int, (mn (a0.size : Int) 1000) = j_ := ⟨_, rfl⟩
  replace H : (if 0 ≤ (ji2) then (if (ji2) ≤ (a0.size : Int) then ((fold_Trim.f k (a0.extract 0 ((ji2) : Int).toNat)).bind fun t195 => ((fold_Lower.f (a0.extract 0 ((ji2) : Int).toNat)).bind fun t196 => ((fold_Trim.f k t195).bind fun t197 => (if t197.toList = t195.toList then ((fold_Lower.f t196).bind fun t198 => (if t198.toList = t196.toList then (if (t196.size : Int) = ((a0.extract 0 ((ji2) : Int).toNat).size : Int) then ((fold_Words.f t195).bind fun t199 => ((fold_Words.f (a0.extract 0 ((ji2) : Int).toNat)).bind fun t202 => ((boltingref02_Equal.f k t199 t202).bind fun t205 => (if t205 = true then (boltinglaw02_FoldAgain.j0 k (a0.extract 0 ((ji2) : Int).toNat) t195 t196 (decide ((t195.size : Int) > ((a0.extract 0 ((ji2) : Int).toNat).size : Int)))) else (boltinglaw02_FoldAgain.j0 k (a0.extract 0 ((ji2) : Int).toNat) t195 t196 true))))) else (boltinglaw02_FoldAgain.j0 k (a0.extract 0 ((ji2) : Int).toNat) t195 t196 true)) else (boltinglaw02_FoldAgain.j0 k (a0.extract 0 ((ji2) : Int).toNat) t195 t196 true))) else (boltinglaw02_FoldAgain.j0 k (a0.extract 0 ((ji2) : Int).toNat) t195 t196 true))))) else (none)) else (none)) = some r := by first | (rw [hji2] at H; exact H) | (simp only [hji2] at H ⊢; exact H)
  (try (have hji2h : ji2 ≤ 1000 := by (rw [← hji2]; unfold mn; (repeat' split) <;> omega)))
  (try (have hji2g : ji2 ≤ 64 := by omega))
  (try (have hji2l : 0 ≤ ji2 := by (rw [← hji2]; unfold mn; (repeat' split) <;> omega)))
  (try (have hji2m : 0 ≤ ji2 := by omega))
  have hji2_ : (if 1000 < (a0.size : Int) then 1000 else (a0.size : Int)) = ji2 := hji2
  by_cases c3 : 0 ≤ (ji2)
  · rw [if_pos c3] at H
    have c3b0 := eq_true c3
    have c3b1 : decide (0 ≤ (ji2)) = true := decide_eq_true c3
    clear c3
    by_cases c4 : (ji2) ≤ (a0.size : Int)
    · rw [if_pos c4] at H
      have c4b0 := eq_true c4
      have c4b1 : decide ((ji2) ≤ (a0.size : Int)) = true := decide_eq_true c4
      clear c4
      obtain ⟨sx5, hsx5⟩ : ∃ s_ : ByteArray, (a0.extract 0 ((ji2) : Int).toNat) = s_ := ⟨_, rfl⟩
      replace H : ((fold_Trim.f k sx5).bind fun t195 => ((fold_Lower.f sx5).bind fun t196 => ((fold_Trim.f k t195).bind fun t197 => (if t197.toList = t195.toList then ((fold_Lower.f t196).bind fun t198 => (if t198.toList = t196.toList then (if (t196.size : Int) = (sx5.size : Int) then ((fold_Words.f t195).bind fun t199 => ((fold_Words.f sx5).bind fun t202 => ((boltingref02_Equal.f k t199 t202).bind fun t205 => (if t205 = true then (boltinglaw02_FoldAgain.j0 k sx5 t195 t196 (decide ((t195.size : Int) > (sx5.size : Int)))) else (boltinglaw02_FoldAgain.j0 k sx5 t195 t196 true))))) else (boltinglaw02_FoldAgain.j0 k sx5 t195 t196 true)) else (boltinglaw02_FoldAgain.j0 k sx5 t195 t196 true))) else (boltinglaw02_FoldAgain.j0 k sx5 t195 t196 true))))) = some r := by first | (rw [hsx5] at H; exact H) | (simp only [hsx5] at H ⊢; exact H) | exact H
      replace H := Option.bind_eq_some_iff.mp H
      obtain ⟨t195, A60, H⟩ := H
      replace H : ((fold_Lower.f sx5).bind fun t196 => ((fold_Trim.f k t195).bind fun t197 => (if t197.toList = t195.toList then ((fold_Lower.f t196).bind fun t198 => (if t198.toList = t196.toList then (if (t196.size : Int) = (sx5.size : Int) then ((fold_Words.f t195).bind fun t199 => ((fold_Words.f sx5).bind fun t202 => ((boltingref02_Equal.f k t199 t202).bind fun t205 => (if t205 = true then (boltinglaw02_FoldAgain.j0 k sx5 t195 t196 (decide ((t195.size : Int) > (sx5.size : Int)))) else (boltinglaw02_FoldAgain.j0 k sx5 t195 t196 true))))) else (boltinglaw02_FoldAgain.j0 k sx5 t195 t196 true)) else (boltinglaw02_FoldAgain.j0 k sx5 t195 t196 true))) else (boltinglaw02_FoldAgain.j0 k sx5 t195 t196 true)))) = some r := H
      have A6 := Aside0.mk A60
      clear A60
      replace H := Option.bind_eq_some_iff.mp H
      obtain ⟨t196, A70, H⟩ := H
      replace H : ((fold_Trim.f k t195).bind fun t197 => (if t197.toList = t195.toList then ((fold_Lower.f t196).bind fun t198 => (if t198.toList = t196.toList then (if (t196.size : Int) = (sx5.size : Int) then ((fold_Words.f t195).bind fun t199 => ((fold_Words.f sx5).bind fun t202 => ((boltingref02_Equal.f k t199 t202).bind fun t205 => (if t205 = true then (boltinglaw02_FoldAgain.j0 k sx5 t195 t196 (decide ((t195.size : Int) > (sx5.size : Int)))) else (boltinglaw02_FoldAgain.j0 k sx5 t195 t196 true))))) else (boltinglaw02_FoldAgain.j0 k sx5 t195 t196 true)) else (boltinglaw02_FoldAgain.j0 k sx5 t195 t196 true))) else (boltinglaw02_FoldAgain.j0 k sx5 t195 t196 true))) = some r := H
      have A7 := Aside0.mk A70
      clear A70
      have HC8 := Aside0.mk H
      clear H
      go_enter Try.func7, Try.ntmps7
      go_upto_region 3 with (first | ((with_reducible refine gate_callee (f := 21) rfl ?_); refine goesL_ (some 11) rfl rfl Try.func21 (by kernel_rfl) rfl #[.string sx5] rfl (by (try simp only [List.map_toArray, List.map_cons, List.map_nil]); first | done | rfl | (simp only [List.length_drop, List.length_take]; rfl)) ?_; (with_reducible refine (fold_Trim.calls k sx5 t195 _ A6.out).mono ?_); rintro e w' ⟨rfl, ⟨nd, rfl⟩⟩; refine ⟨_, rfl, ?_⟩) | ((with_reducible refine gate_callee (f := 11) rfl ?_); refine goesL_ (some 13) rfl rfl Try.func11 (by kernel_rfl) rfl #[.string sx5] rfl (by (try simp only [List.map_toArray, List.map_cons, List.map_nil]); first | done | rfl | (simp only [List.length_drop, List.length_take]; rfl)) ?_; (with_reducible refine (fold_Lower.calls sx5 t196 _ A7.out).mono ?_); rintro e w9 ⟨rfl, hb⟩; refine ⟨_, rfl, ?_⟩; have n0_ := Aside0.mk (below_step (by repeat (first | (with_reducible first | exact HB.out | apply below_alloc | apply pw_below_drewN | apply below_drew1) | exact HB.out)) hb); clear HB; have HB := n0_; clear n0_; (try clear hb); (try clear hb2); (try clear hk); (try clear hi)))
      (try simp only [Act.put, List.setIfInBounds_toArray, List.set_cons_zero, List.set_cons_succ])
      go_cut [45] (fun v45 wc => ∃ (kq : Nat) (x45_7 : Bool), v45 = .bool x45_7 ∧ Aside0 (boltinglaw02_FoldAgain.j0 kq sx5 t195 t196 x45_7 = some r) ∧ Aside0 (kq ≤ k) ∧ Aside0 (Below w.heap.size w wc))
      case first =>
        have H := HC8.out
        clear HC8
        replace H := Option.bind_eq_some_iff.mp H
        obtain ⟨t197, A100, H⟩ := H
        replace H : (if t197.toList = t195.toList then ((fold_Lower.f t196).bind fun t198 => (if t198.toList = t196.toList then (if (t196.size : Int) = (sx5.size : Int) then ((fold_Words.f t195).bind fun t199 => ((fold_Words.f sx5).bind fun t202 => ((boltingref02_Equal.f k t199 t202).bind fun t205 => (if t205 = true then (boltinglaw02_FoldAgain.j0 k sx5 t195 t196 (decide ((t195.size : Int) > (sx5.size : Int)))) else (boltinglaw02_FoldAgain.j0 k sx5 t195 t196 true))))) else (boltinglaw02_FoldAgain.j0 k sx5 t195 t196 true)) else (boltinglaw02_FoldAgain.j0 k sx5 t195 t196 true))) else (boltinglaw02_FoldAgain.j0 k sx5 t195 t196 true)) = some r := H
        have A10 := Aside0.mk A100
        clear A100
        by_cases c11 : t197.toList = t195.toList
        · rw [if_pos c11] at H
          have c11b0 : (t197.toList == t195.toList) = true := beq_iff_eq.mpr c11
          have c11b1 : (t197.toList != t195.toList) = false := bne_eq_false_iff_eq.mpr c11
          clear c11
          (first | rw [c11b0] | (simp only [i64_w, i32_w]; rw [c11b0]) | skip)
          replace H := Option.bind_eq_some_iff.mp H
          obtain ⟨t198, A120, H⟩ := H
          replace H : (if t198.toList = t196.toList then (if (t196.size : Int) = (sx5.size : Int) then ((fold_Words.f t195).bind fun t199 => ((fold_Words.f sx5).bind fun t202 => ((boltingref02_Equal.f k t199 t202).bind fun t205 => (if t205 = true then (boltinglaw02_FoldAgain.j0 k sx5 t195 t196 (decide ((t195.size : Int) > (sx5.size : Int)))) else (boltinglaw02_FoldAgain.j0 k sx5 t195 t196 true))))) else (boltinglaw02_FoldAgain.j0 k sx5 t195 t196 true)) else (boltinglaw02_FoldAgain.j0 k sx5 t195 t196 true)) = some r := H
          have A12 := Aside0.mk A120
          clear A120
          by_cases c13 : t198.toList = t196.toList
          · rw [if_pos c13] at H
            have c13b0 : (t198.toList == t196.toList) = true := beq_iff_eq.mpr c13
            have c13b1 : (t198.toList != t196.toList) = false := bne_eq_false_iff_eq.mpr c13
            clear c13
            by_cases c14 : (t196.size : Int) = (sx5.size : Int)
            · rw [if_pos c14] at H
              have c14b0 : ((t196.size : Int) == (sx5.size : Int)) = true := beq_iff_eq.mpr c14
              have c14b1 : ((t196.size : Int) != (sx5.size : Int)) = false := bne_eq_false_iff_eq.mpr c14
              have c14b2 : (t196.size == sx5.size) = true := by first | simpa using c14 | (simp at c14 ⊢; omega)
              clear c14
              replace H := Option.bind_eq_some_iff.mp H
              obtain ⟨t199, A150, H⟩ := H
              replace H : ((fold_Words.f sx5).bind fun t202 => ((boltingref02_Equal.f k t199 t202).bind fun t205 => (if t205 = true then (boltinglaw02_FoldAgain.j0 k sx5 t195 t196 (decide ((t195.size : Int) > (sx5.size : Int)))) else (boltinglaw02_FoldAgain.j0 k sx5 t195 t196 true)))) = some r := H
              have A15 := Aside0.mk A150
              clear A150
              replace H := Option.bind_eq_some_iff.mp H
              obtain ⟨t202, A160, H⟩ := H
              replace H : ((boltingref02_Equal.f k t199 t202).bind fun t205 => (if t205 = true then (boltinglaw02_FoldAgain.j0 k sx5 t195 t196 (decide ((t195.size : Int) > (sx5.size : Int)))) else (boltinglaw02_FoldAgain.j0 k sx5 t195 t196 true))) = some r := H
              have A16 := Aside0.mk A160
              clear A160
              replace H := Option.bind_eq_some_iff.mp H
              obtain ⟨t205, A170, H⟩ := H
              replace H : (if t205 = true then (boltinglaw02_FoldAgain.j0 k sx5 t195 t196 (decide ((t195.size : Int) > (sx5.size : Int)))) else (boltinglaw02_FoldAgain.j0 k sx5 t195 t196 true)) = some r := H
              have A17 := Aside0.mk A170
              clear A170
              by_cases c18 : t205 = true
              · subst c18
                have H1 : (boltinglaw02_FoldAgain.j0 k sx5 t195 t196 (decide ((t195.size : Int) > (sx5.size : Int)))) = some r := by rw [if_pos rfl] at H; exact H
                clear H
                have H := H1
                clear H1
                have H' := Aside0.mk H
                clear H
                go_wp2_with (first | ((with_reducible refine gate_callee (f := 21) rfl ?_); refine goesL_ (some 15) rfl rfl Try.func21 (by kernel_rfl) rfl #[.string t195] rfl (by (try simp only [List.map_toArray, List.map_cons, List.map_nil]); first | done | rfl | (simp only [List.length_drop, List.length_take]; rfl)) ?_; (with_reducible refine (fold_Trim.calls k t195 t197 _ A10.out).mono ?_); rintro e w' ⟨rfl, ⟨nd, rfl⟩⟩; refine ⟨_, rfl, ?_⟩) | (go_at_call 11; (with_reducible refine (fold_Lower.calls t196 t198 _ A12.out).mono ?_); rintro e w19 ⟨rfl, hb⟩; have n0_ := Aside0.mk (below_step (by repeat (first | (with_reducible first | exact HB.out | apply below_alloc | apply pw_below_drewN | apply below_drew1) | exact HB.out)) hb); clear HB; have HB := n0_; clear n0_; (try clear hb); (try clear hb2); (try clear hk); (try clear hi)) | ((fail_if_success (have z_ := HO201)); go_at_call 18; (with_reducible refine (fold_Words.calls t195 t199 _ A15.out).mono ?_); rintro e w20 ⟨v200, rfl, ho0, hb⟩; have n0_ := Aside0.mk (Kd.R_lower ho0 (below_size (by repeat (first | (with_reducible first | exact HB.out | apply below_alloc | apply pw_below_drewN | apply below_drew1) | exact HB.out)))); have n1_ := Aside0.mk (below_step (by repeat (first | (with_reducible first | exact HB.out | apply below_alloc | apply pw_below_drewN | apply below_drew1) | exact HB.out)) hb); clear HB; have HO201 := n0_; have HB := n1_; clear n0_ n1_; (try clear hb); (try clear hb2); (try clear hk); (try clear hi); (try clear ho0)) | ((fail_if_success (have z_ := HO204)); go_at_call 18; (with_reducible refine (fold_Words.calls sx5 t202 _ A16.out).mono ?_); rintro e w21 ⟨v203, rfl, ho0, hb⟩; have n0_ := Aside0.mk (Kd.R_elder' (by (with_reducible repeat (first | apply Kd.R_alloc | apply Kd.R_drewN | apply Kd.R_drew)); exact HO201.out) (Kd.R_base ho0) hb); have n1_ := Aside0.mk (Kd.R_lower (Kd.R_new' ho0 (Kd.R_lt (by (with_reducible repeat (first | apply Kd.R_alloc | apply Kd.R_drewN | apply Kd.R_drew)); exact HO201.out))) (below_size (by repeat (first | (with_reducible first | exact HB.out | apply below_alloc | apply pw_below_drewN | apply below_drew1) | exact HB.out)))); have n2_ := Aside0.mk (below_step (by repeat (first | (with_reducible first | exact HB.out | apply below_alloc | apply pw_below_drewN | apply below_drew1) | exact HB.out)) hb); clear HO201; clear HB; have HO201 := n0_; have HO204 := n1_; have HB := n2_; clear n0_ n1_ n2_; (try clear hb); (try clear hb2); (try clear hk); (try clear hi); (try clear ho0); obtain ⟨Ao22, co22, eo22⟩ := Kd.R_slice HO201.out; subst eo22; obtain ⟨Ao23, co23, eo23⟩ := Kd.R_slice HO204.out; subst eo23) | (go_at_call 19; (with_reducible refine (boltingref02_Equal.calls k _ _ t199 _ _ t202 true _ ?side1 ?side2 ?side3 ?side4 A17.out).mono ?_); (case side1 => repeat (first | exact (Kd.R_reads' HO201.out).2.2 | (with_reducible refine Kd.C_alloc ?_ _) | (with_reducible refine Kd.C_drewN ?_ _) | (with_reducible refine Kd.C_drew ?_))); (case side2 => exact (Kd.R_reads' HO201.out).2.1); (case side3 => repeat (first | exact (Kd.R_reads' HO204.out).2.2 | (with_reducible refine Kd.C_alloc ?_ _) | (with_reducible refine Kd.C_drewN ?_ _) | (with_reducible refine Kd.C_drew ?_))); (case side4 => exact (Kd.R_reads' HO204.out).2.1); rintro e w' ⟨rfl, ⟨nd, rfl⟩⟩))
                go_meet
                case rel => exact ⟨_, (decide ((t195.size : Int) > (sx5.size : Int))), (by first | rfl | (simp; done) | (simp [*]; done)), H', ⟨by first | omega | exact Nat.le_refl _⟩, ⟨by repeat (first | (with_reducible first | exact HB.out | apply below_alloc | apply pw_below_drewN | apply below_drew1) | exact HB.out)⟩⟩
              · replace c18 := Bool.eq_false_iff.mpr c18
                subst c18
                have H1 : (boltinglaw02_FoldAgain.j0 k sx5 t195 t196 true) = some r := by rw [if_neg (show ¬ (false = true) by decide)] at H; exact H
                clear H
                have H := H1
                clear H1
                have H' := Aside0.mk H
                clear H
                go_wp2_with (first | ((with_reducible refine gate_callee (f := 21) rfl ?_); refine goesL_ (some 15) rfl rfl Try.func21 (by kernel_rfl) rfl #[.string t195] rfl (by (try simp only [List.map_toArray, List.map_cons, List.map_nil]); first | done | rfl | (simp only [List.length_drop, List.length_take]; rfl)) ?_; (with_reducible refine (fold_Trim.calls k t195 t197 _ A10.out).mono ?_); rintro e w' ⟨rfl, ⟨nd, rfl⟩⟩; refine ⟨_, rfl, ?_⟩) | (go_at_call 11; (with_reducible refine (fold_Lower.calls t196 t198 _ A12.out).mono ?_); rintro e w24 ⟨rfl, hb⟩; have n0_ := Aside0.mk (below_step (by repeat (first | (with_reducible first | exact HB.out | apply below_alloc | apply pw_below_drewN | apply below_drew1) | exact HB.out)) hb); clear HB; have HB := n0_; clear n0_; (try clear hb); (try clear hb2); (try clear hk); (try clear hi)) | ((fail_if_success (have z_ := HO201)); go_at_call 18; (with_reducible refine (fold_Words.calls t195 t199 _ A15.out).mono ?_); rintro e w25 ⟨v200, rfl, ho0, hb⟩; have n0_ := Aside0.mk (Kd.R_lower ho0 (below_size (by repeat (first | (with_reducible first | exact HB.out | apply below_alloc | apply pw_below_drewN | apply below_drew1) | exact HB.out)))); have n1_ := Aside0.mk (below_step (by repeat (first | (with_reducible first | exact HB.out | apply below_alloc | apply pw_below_drewN | apply below_drew1) | exact HB.out)) hb); clear HB; have HO201 := n0_; have HB := n1_; clear n0_ n1_; (try clear hb); (try clear hb2); (try clear hk); (try clear hi); (try clear ho0)) | ((fail_if_success (have z_ := HO204)); go_at_call 18; (with_reducible refine (fold_Words.calls sx5 t202 _ A16.out).mono ?_); rintro e w26 ⟨v203, rfl, ho0, hb⟩; have n0_ := Aside0.mk (Kd.R_elder' (by (with_reducible repeat (first | apply Kd.R_alloc | apply Kd.R_drewN | apply Kd.R_drew)); exact HO201.out) (Kd.R_base ho0) hb); have n1_ := Aside0.mk (Kd.R_lower (Kd.R_new' ho0 (Kd.R_lt (by (with_reducible repeat (first | apply Kd.R_alloc | apply Kd.R_drewN | apply Kd.R_drew)); exact HO201.out))) (below_size (by repeat (first | (with_reducible first | exact HB.out | apply below_alloc | apply pw_below_drewN | apply below_drew1) | exact HB.out)))); have n2_ := Aside0.mk (below_step (by repeat (first | (with_reducible first | exact HB.out | apply below_alloc | apply pw_below_drewN | apply below_drew1) | exact HB.out)) hb); clear HO201; clear HB; have HO201 := n0_; have HO204 := n1_; have HB := n2_; clear n0_ n1_ n2_; (try clear hb); (try clear hb2); (try clear hk); (try clear hi); (try clear ho0); obtain ⟨Ao27, co27, eo27⟩ := Kd.R_slice HO201.out; subst eo27; obtain ⟨Ao28, co28, eo28⟩ := Kd.R_slice HO204.out; subst eo28) | (go_at_call 19; (with_reducible refine (boltingref02_Equal.calls k _ _ t199 _ _ t202 false _ ?side1 ?side2 ?side3 ?side4 A17.out).mono ?_); (case side1 => repeat (first | exact (Kd.R_reads' HO201.out).2.2 | (with_reducible refine Kd.C_alloc ?_ _) | (with_reducible refine Kd.C_drewN ?_ _) | (with_reducible refine Kd.C_drew ?_))); (case side2 => exact (Kd.R_reads' HO201.out).2.1); (case side3 => repeat (first | exact (Kd.R_reads' HO204.out).2.2 | (with_reducible refine Kd.C_alloc ?_ _) | (with_reducible refine Kd.C_drewN ?_ _) | (with_reducible refine Kd.C_drew ?_))); (case side4 => exact (Kd.R_reads' HO204.out).2.1); rintro e w' ⟨rfl, ⟨nd, rfl⟩⟩))
                go_meet
                case rel => exact ⟨_, (true), (by first | rfl | (simp; done) | (simp [*]; done)), H', ⟨by first | omega | exact Nat.le_refl _⟩, ⟨by repeat (first | (with_reducible first | exact HB.out | apply below_alloc | apply pw_below_drewN | apply below_drew1) | exact HB.out)⟩⟩
            · rw [if_neg c14] at H
              have c14b0 : ((t196.size : Int) == (sx5.size : Int)) = false := beq_eq_false_iff_ne.mpr c14
              have c14b1 : ((t196.size : Int) != (sx5.size : Int)) = true := bne_iff_ne.mpr c14
              have c14b2 : (t196.size == sx5.size) = false := by first | simpa using c14 | (simp at c14 ⊢; omega)
              have H' := Aside0.mk H
              clear H
              go_wp2_with (first | ((with_reducible refine gate_callee (f := 21) rfl ?_); refine goesL_ (some 15) rfl rfl Try.func21 (by kernel_rfl) rfl #[.string t195] rfl (by (try simp only [List.map_toArray, List.map_cons, List.map_nil]); first | done | rfl | (simp only [List.length_drop, List.length_take]; rfl)) ?_; (with_reducible refine (fold_Trim.calls k t195 t197 _ A10.out).mono ?_); rintro e w' ⟨rfl, ⟨nd, rfl⟩⟩; refine ⟨_, rfl, ?_⟩) | (go_at_call 11; (with_reducible refine (fold_Lower.calls t196 t198 _ A12.out).mono ?_); rintro e w29 ⟨rfl, hb⟩; have n0_ := Aside0.mk (below_step (by repeat (first | (with_reducible first | exact HB.out | apply below_alloc | apply pw_below_drewN | apply below_drew1) | exact HB.out)) hb); clear HB; have HB := n0_; clear n0_; (try clear hb); (try clear hb2); (try clear hk); (try clear hi)))
              go_meet
              case rel => exact ⟨_, (true), (by first | rfl | (simp; done) | (simp [*]; done)), H', ⟨by first | omega | exact Nat.le_refl _⟩, ⟨by repeat (first | (with_reducible first | exact HB.out | apply below_alloc | apply pw_below_drewN | apply below_drew1) | exact HB.out)⟩⟩
          · rw [if_neg c13] at H
            have c13b0 : (t198.toList == t196.toList) = false := beq_eq_false_iff_ne.mpr c13
            have c13b1 : (t198.toList != t196.toList) = true := bne_iff_ne.mpr c13
            have H' := Aside0.mk H
            clear H
            go_wp2_with (first | ((with_reducible refine gate_callee (f := 21) rfl ?_); refine goesL_ (some 15) rfl rfl Try.func21 (by kernel_rfl) rfl #[.string t195] rfl (by (try simp only [List.map_toArray, List.map_cons, List.map_nil]); first | done | rfl | (simp only [List.length_drop, List.length_take]; rfl)) ?_; (with_reducible refine (fold_Trim.calls k t195 t197 _ A10.out).mono ?_); rintro e w' ⟨rfl, ⟨nd, rfl⟩⟩; refine ⟨_, rfl, ?_⟩) | (go_at_call 11; (with_reducible refine (fold_Lower.calls t196 t198 _ A12.out).mono ?_); rintro e w30 ⟨rfl, hb⟩; have n0_ := Aside0.mk (below_step (by repeat (first | (with_reducible first | exact HB.out | apply below_alloc | apply pw_below_drewN | apply below_drew1) | exact HB.out)) hb); clear HB; have HB := n0_; clear n0_; (try clear hb); (try clear hb2); (try clear hk); (try clear hi)))
            go_meet
            case rel => exact ⟨_, (true), (by first | rfl | (simp; done) | (simp [*]; done)), H', ⟨by first | omega | exact Nat.le_refl _⟩, ⟨by repeat (first | (with_reducible first | exact HB.out | apply below_alloc | apply pw_below_drewN | apply below_drew1) | exact HB.out)⟩⟩
        · rw [if_neg c11] at H
          have c11b0 : (t197.toList == t195.toList) = false := beq_eq_false_iff_ne.mpr c11
          have c11b1 : (t197.toList != t195.toList) = true := bne_iff_ne.mpr c11
          (first | rw [c11b0] | (simp only [i64_w, i32_w]; rw [c11b0]) | skip)
          have H' := Aside0.mk H
          clear H
          go_wp2_with (first | ((with_reducible refine gate_callee (f := 21) rfl ?_); refine goesL_ (some 15) rfl rfl Try.func21 (by kernel_rfl) rfl #[.string t195] rfl (by (try simp only [List.map_toArray, List.map_cons, List.map_nil]); first | done | rfl | (simp only [List.length_drop, List.length_take]; rfl)) ?_; (with_reducible refine (fold_Trim.calls k t195 t197 _ A10.out).mono ?_); rintro e w' ⟨rfl, ⟨nd, rfl⟩⟩; refine ⟨_, rfl, ?_⟩))
          go_meet
          case rel => exact ⟨_, (true), (by first | rfl | (simp; done) | (simp [*]; done)), H', ⟨by first | omega | exact Nat.le_refl _⟩, ⟨by repeat (first | (with_reducible first | exact HB.out | apply below_alloc | apply pw_below_drewN | apply below_drew1) | exact HB.out)⟩⟩
      case rest =>
        clear HC8
        try clear c1
        try clear c2
        try clear p2
        try clear c3
        try clear c3b0
        try clear c3b1
        try clear c4
        try clear c4b0
        try clear c4b1
        try clear c7
        try clear c11
        try clear c11b0
        try clear c11b1
        try clear c13
        try clear c13b0
        try clear c13b1
        try clear c14
        try clear c14b0
        try clear c14b1
        try clear c14b2
        try clear c18
        try clear c21
        obtain ⟨kq, x45_7, rfl, HA, HJ7, HB⟩ := hcut
        cases kq with
        | zero => exact absurd HA.out (by simp [boltinglaw02_FoldAgain.j0])
        | succ kj7 =>
          have H := HA.out
          clear HA
          simp only [boltinglaw02_FoldAgain.j0] at H
          by_cases c31 : x45_7 = true
          · subst c31
            have H1 : (some false) = some r := by rw [if_pos rfl] at H; exact H
            clear H
            have H := H1
            clear H1
            obtain rfl := Option.some.inj H
            go_wp2
            go_ret
            exact ⟨by first | rfl | (simp [errW_none, errW_some] <;> rfl) | (simp only [← hji2]; first | rfl | (simp [errW_none, errW_some] <;> rfl)) | (simp [*, errW_none, errW_some] <;> rfl), by repeat (first | (with_reducible first | exact HB.out | apply below_alloc | apply pw_below_drewN | apply below_drew1) | exact HB.out)⟩
          · replace c31 := Bool.eq_false_iff.mpr c31
            subst c31
            have H1 : (if t195.toList = ([] : List UInt8) then ((fold_Words.f sx5).bind fun t206 => (if ((t195.toList == ([] : List UInt8)) == ((t206.length : Int) == 0)) = true then ((fold_Same.f sx5 t196).bind fun t209 => (if t209 = true then ((boltinglaw02_fixed.f kj7).bind fun t210 => (some t210)) else (some false))) else (some false))) else (if 0 < (t195.size : Int) then ((fold_Space.f (bt t195 0)).bind fun t211 => (if t211 = true then (some false) else (if 0 ≤ (wrap64 ((t195.size : Int) - 1)) then (if (wrap64 ((t195.size : Int) - 1)) < (t195.size : Int) then ((fold_Space.f (bt t195 (wrap64 ((t195.size : Int) - 1)))).bind fun t212 => (if t212 = true then (some false) else ((fold_Words.f sx5).bind fun t213 => (if ((t195.toList == ([] : List UInt8)) == ((t213.length : Int) == 0)) = true then ((fold_Same.f sx5 t196).bind fun t216 => (if t216 = true then ((boltinglaw02_fixed.f kj7).bind fun t217 => (some t217)) else (some false))) else (some false))))) else (none)) else (none)))) else (none))) = some r := by rw [if_neg (show ¬ (false = true) by decide)] at H; exact H
            clear H
            have H := H1
            clear H1
            by_cases c32 : t195.toList = ([] : List UInt8)
            · rw [if_pos c32] at H
              have c32b0 : (t195.toList == ([] : List UInt8)) = true := beq_iff_eq.mpr c32
              have c32b1 : (t195.toList != ([] : List UInt8)) = false := bne_eq_false_iff_eq.mpr c32
              clear c32
              replace H := Option.bind_eq_some_iff.mp H
              obtain ⟨t206, A330, H⟩ := H
              replace H : (if ((t195.toList == ([] : List UInt8)) == ((t206.length : Int) == 0)) = true then ((fold_Same.f sx5 t196).bind fun t209 => (if t209 = true then ((boltinglaw02_fixed.f kj7).bind fun t210 => (some t210)) else (some false))) else (some false)) = some r := H
              have A33 := Aside0.mk A330
              clear A330
              by_cases c34 : ((t195.toList == ([] : List UInt8)) == ((t206.length : Int) == 0)) = true
              · rw [if_pos c34] at H
                have c34b0 : ((t195.toList == ([] : List UInt8)) == ((t206.length : Int) == 0)) = true := c34
                (try (have c34b1 : decide ((t195.toList == ([] : List UInt8)) = ((t206.length : Int) == 0)) = true := by simpa using c34))
                (first | (have c34z : (t206 = []) = True := by simpa [show (t195.toList == ([] : List UInt8)) = true from by assumption] using c34) | (have c34z : (t206 = []) = False := by simpa [show (t195.toList == ([] : List UInt8)) = true from by assumption] using c34) | (have c34z : (t206 = []) = True := by simpa [show (t195.toList == ([] : List UInt8)) = false from by assumption] using c34) | (have c34z : (t206 = []) = False := by simpa [show (t195.toList == ([] : List UInt8)) = false from by assumption] using c34) | skip)
                (try (have c34b2 : ((t195.toList == ([] : List UInt8)) == ((t206.length : Int) == 0)) = true := by simpa using c34))
                clear c34
                replace H := Option.bind_eq_some_iff.mp H
                obtain ⟨t209, A350, H⟩ := H
                replace H : (if t209 = true then ((boltinglaw02_fixed.f kj7).bind fun t210 => (some t210)) else (some false)) = some r := H
                have A35 := Aside0.mk A350
                clear A350
                by_cases c36 : t209 = true
                · subst c36
                  have H1 : ((boltinglaw02_fixed.f kj7).bind fun t210 => (some t210)) = some r := by rw [if_pos rfl] at H; exact H
                  clear H
                  have H := H1
                  clear H1
                  replace H := Option.bind_eq_some_iff.mp H
                  obtain ⟨t210, A370, H⟩ := H
                  replace H : (some t210) = some r := H
                  have A37 := Aside0.mk A370
                  clear A370
                  obtain rfl := Option.some.inj H
                  go_wp2_with (first | ((fail_if_success (have z_ := HO208)); go_at_call 18; (with_reducible refine (fold_Words.calls sx5 t206 _ A33.out).mono ?_); rintro e w38 ⟨v207, rfl, ho0, hb⟩; have n0_ := Aside0.mk (Kd.R_lower ho0 (below_size (by repeat (first | (with_reducible first | exact HB.out | apply below_alloc | apply pw_below_drewN | apply below_drew1) | exact HB.out)))); have n1_ := Aside0.mk (below_step (by repeat (first | (with_reducible first | exact HB.out | apply below_alloc | apply pw_below_drewN | apply below_drew1) | exact HB.out)) hb); clear HB; have HO208 := n0_; have HB := n1_; clear n0_ n1_; (try clear hb); (try clear hb2); (try clear hk); (try clear hi); (try clear ho0); obtain ⟨Ao39, co39, eo39⟩ := Kd.R_slice HO208.out; subst eo39) | (go_at_call 13; (with_reducible refine (fold_Same.calls sx5 t196 true _ A35.out).mono ?_); rintro e w40 ⟨rfl, hb⟩; have n0_ := Aside0.mk (Kd.R_below (by (with_reducible repeat (first | apply Kd.R_alloc | apply Kd.R_drewN | apply Kd.R_drew)); exact HO208.out) hb); have n1_ := Aside0.mk (below_step (by repeat (first | (with_reducible first | exact HB.out | apply below_alloc | apply pw_below_drewN | apply below_drew1) | exact HB.out)) hb); clear HO208; clear HB; have HO208 := n0_; have HB := n1_; clear n0_ n1_; (try clear hb); (try clear hb2); (try clear hk); (try clear hi)) | (go_at_call 10; (with_reducible refine (boltinglaw02_fixed.calls kj7  t210 _ A37.out).mono ?_); rintro e w41 ⟨rfl, hb⟩; have n0_ := Aside0.mk (Kd.R_below (by (with_reducible repeat (first | apply Kd.R_alloc | apply Kd.R_drewN | apply Kd.R_drew)); exact HO208.out) hb); have n1_ := Aside0.mk (below_step (by repeat (first | (with_reducible first | exact HB.out | apply below_alloc | apply pw_below_drewN | apply below_drew1) | exact HB.out)) hb); clear HO208; clear HB; have HO208 := n0_; have HB := n1_; clear n0_ n1_; (try clear hb); (try clear hb2); (try clear hk); (try clear hi)))
                  go_ret
                  exact ⟨by first | rfl | (simp [errW_none, errW_some] <;> rfl) | (simp only [← hji2]; first | rfl | (simp [errW_none, errW_some] <;> rfl)) | (simp [*, errW_none, errW_some] <;> rfl), by repeat (first | (with_reducible first | exact HB.out | apply below_alloc | apply pw_below_drewN | apply below_drew1) | exact HB.out)⟩
                · replace c36 := Bool.eq_false_iff.mpr c36
                  subst c36
                  have H1 : (some false) = some r := by rw [if_neg (show ¬ (false = true) by decide)] at H; exact H
                  clear H
                  have H := H1
                  clear H1
                  obtain rfl := Option.some.inj H
                  go_wp2_with (first | ((fail_if_success (have z_ := HO208)); go_at_call 18; (with_reducible refine (fold_Words.calls sx5 t206 _ A33.out).mono ?_); rintro e w42 ⟨v207, rfl, ho0, hb⟩; have n0_ := Aside0.mk (Kd.R_lower ho0 (below_size (by repeat (first | (with_reducible first | exact HB.out | apply below_alloc | apply pw_below_drewN | apply below_drew1) | exact HB.out)))); have n1_ := Aside0.mk (below_step (by repeat (first | (with_reducible first | exact HB.out | apply below_alloc | apply pw_below_drewN | apply below_drew1) | exact HB.out)) hb); clear HB; have HO208 := n0_; have HB := n1_; clear n0_ n1_; (try clear hb); (try clear hb2); (try clear hk); (try clear hi); (try clear ho0); obtain ⟨Ao43, co43, eo43⟩ := Kd.R_slice HO208.out; subst eo43) | (go_at_call 13; (with_reducible refine (fold_Same.calls sx5 t196 false _ A35.out).mono ?_); rintro e w44 ⟨rfl, hb⟩; have n0_ := Aside0.mk (Kd.R_below (by (with_reducible repeat (first | apply Kd.R_alloc | apply Kd.R_drewN | apply Kd.R_drew)); exact HO208.out) hb); have n1_ := Aside0.mk (below_step (by repeat (first | (with_reducible first | exact HB.out | apply below_alloc | apply pw_below_drewN | apply below_drew1) | exact HB.out)) hb); clear HO208; clear HB; have HO208 := n0_; have HB := n1_; clear n0_ n1_; (try clear hb); (try clear hb2); (try clear hk); (try clear hi)))
                  go_ret
                  exact ⟨by first | rfl | (simp [errW_none, errW_some] <;> rfl) | (simp only [← hji2]; first | rfl | (simp [errW_none, errW_some] <;> rfl)) | (simp [*, errW_none, errW_some] <;> rfl), by repeat (first | (with_reducible first | exact HB.out | apply below_alloc | apply pw_below_drewN | apply below_drew1) | exact HB.out)⟩
              · rw [if_neg c34] at H
                have c34b0 : ((t195.toList == ([] : List UInt8)) == ((t206.length : Int) == 0)) = false := by simpa using c34
                (try (have c34b1 : decide ((t195.toList == ([] : List UInt8)) = ((t206.length : Int) == 0)) = false := by simpa using c34))
                (first | (have c34z : (t206 = []) = True := by simpa [show (t195.toList == ([] : List UInt8)) = true from by assumption] using c34) | (have c34z : (t206 = []) = False := by simpa [show (t195.toList == ([] : List UInt8)) = true from by assumption] using c34) | (have c34z : (t206 = []) = True := by simpa [show (t195.toList == ([] : List UInt8)) = false from by assumption] using c34) | (have c34z : (t206 = []) = False := by simpa [show (t195.toList == ([] : List UInt8)) = false from by assumption] using c34) | skip)
                (try (have c34b2 : ((t195.toList == ([] : List UInt8)) == ((t206.length : Int) == 0)) = false := by simpa using c34))
                (try (have c34b3 : ¬ ((t195.toList == ([] : List UInt8)) = ((t206.length : Int) == 0)) := by simpa using c34))
                clear c34
                obtain rfl := Option.some.inj H
                go_wp2_with (first | ((fail_if_success (have z_ := HO208)); go_at_call 18; (with_reducible refine (fold_Words.calls sx5 t206 _ A33.out).mono ?_); rintro e w45 ⟨v207, rfl, ho0, hb⟩; have n0_ := Aside0.mk (Kd.R_lower ho0 (below_size (by repeat (first | (with_reducible first | exact HB.out | apply below_alloc | apply pw_below_drewN | apply below_drew1) | exact HB.out)))); have n1_ := Aside0.mk (below_step (by repeat (first | (with_reducible first | exact HB.out | apply below_alloc | apply pw_below_drewN | apply below_drew1) | exact HB.out)) hb); clear HB; have HO208 := n0_; have HB := n1_; clear n0_ n1_; (try clear hb); (try clear hb2); (try clear hk); (try clear hi); (try clear ho0); obtain ⟨Ao46, co46, eo46⟩ := Kd.R_slice HO208.out; subst eo46))
                go_ret
                exact ⟨by first | rfl | (simp [errW_none, errW_some] <;> rfl) | (simp only [← hji2]; first | rfl | (simp [errW_none, errW_some] <;> rfl)) | (simp [*, errW_none, errW_some] <;> rfl), by repeat (first | (with_reducible first | exact HB.out | apply below_alloc | apply pw_below_drewN | apply below_drew1) | exact HB.out)⟩
            · rw [if_neg c32] at H
              have c32b0 : (t195.toList == ([] : List UInt8)) = false := beq_eq_false_iff_ne.mpr c32
              have c32b1 : (t195.toList != ([] : List UInt8)) = true := bne_iff_ne.mpr c32
              by_cases c47 : 0 < (t195.size : Int)
              · rw [if_pos c47] at H
                have c47b0 : decide (0 < (t195.size : Int)) = true := decide_eq_true c47
                have c47b1 : decide (0 < t195.size) = true := decide_eq_true (by omega)
                clear c47
                replace H := Option.bind_eq_some_iff.mp H
                obtain ⟨t211, A490, H⟩ := H
                replace H : (if t211 = true then (some false) else (if 0 ≤ (wrap64 ((t195.size : Int) - 1)) then (if (wrap64 ((t195.size : Int) - 1)) < (t195.size : Int) then ((fold_Space.f (bt t195 (wrap64 ((t195.size : Int) - 1)))).bind fun t212 => (if t212 = true then (some false) else ((fold_Words.f sx5).bind fun t213 => (if ((t195.toList == ([] : List UInt8)) == ((t213.length : Int) == 0)) = true then ((fold_Same.f sx5 t196).bind fun t216 => (if t216 = true then ((boltinglaw02_fixed.f kj7).bind fun t217 => (some t217)) else (some false))) else (some false))))) else (none)) else (none))) = some r := H
                have A49 := Aside0.mk A490
                clear A490
                by_cases c50 : t211 = true
                · subst c50
                  have H1 : (some false) = some r := by rw [if_pos rfl] at H; exact H
                  clear H
                  have H := H1
                  clear H1
                  obtain rfl := Option.some.inj H
                  have p48 : 0 ≤ (0 : Int) := (by omega)
                  have q48 : 0 < t195.size := (by have : (0 : Int) < (t195.size : Int) := of_decide_eq_true (by first | (with_reducible assumption) | assumption); omega)
                  have hx48 : ∀ h : 0 < t195.size, ((t195[0]'h).toNat : Int) = bt t195 0 := bt_at t195 0
                  clear p48
                  have qi48 : (0 < (t195.size : Int)) = True := eq_true (of_decide_eq_true (by first | (with_reducible assumption) | assumption))
                  replace q48 := eq_true q48
                  go_wp2_with (first | (go_at_call 14; (with_reducible refine (fold_Space.calls (bt t195 0) true _ A49.out).mono ?_); rintro e w' ⟨rfl, ⟨nd, rfl⟩⟩))
                  go_ret
                  exact ⟨by first | rfl | (simp [errW_none, errW_some] <;> rfl) | (simp only [← hji2]; first | rfl | (simp [errW_none, errW_some] <;> rfl)) | (simp [*, errW_none, errW_some] <;> rfl), by repeat (first | (with_reducible first | exact HB.out | apply below_alloc | apply pw_below_drewN | apply below_drew1) | exact HB.out)⟩
                · replace c50 := Bool.eq_false_iff.mpr c50
                  subst c50
                  have H1 : (if 0 ≤ (wrap64 ((t195.size : Int) - 1)) then (if (wrap64 ((t195.size : Int) - 1)) < (t195.size : Int) then ((fold_Space.f (bt t195 (wrap64 ((t195.size : Int) - 1)))).bind fun t212 => (if t212 = true then (some false) else ((fold_Words.f sx5).bind fun t213 => (if ((t195.toList == ([] : List UInt8)) == ((t213.length : Int) == 0)) = true then ((fold_Same.f sx5 t196).bind fun t216 => (if t216 = true then ((boltinglaw02_fixed.f kj7).bind fun t217 => (some t217)) else (some false))) else (some false))))) else (none)) else (none)) = some r := by rw [if_neg (show ¬ (false = true) by decide)] at H; exact H
                  clear H
                  have H := H1
                  clear H1
                  obtain ⟨ji51, hji51⟩ : ∃ j_ : Int, (wrap64 ((t195.size : Int) - 1)) = j_ := ⟨_, rfl⟩
                  replace H : (if 0 ≤ (ji51) then (if (ji51) < (t195.size : Int) then ((fold_Space.f (bt t195 (ji51))).bind fun t212 => (if t212 = true then (some false) else ((fold_Words.f sx5).bind fun t213 => (if ((t195.toList == ([] : List UInt8)) == ((t213.length : Int) == 0)) = true then ((fold_Same.f sx5 t196).bind fun t216 => (if t216 = true then ((boltinglaw02_fixed.f kj7).bind fun t217 => (some t217)) else (some false))) else (some false))))) else (none)) else (none)) = some r := by first | (rw [hji51] at H; exact H) | (simp only [hji51] at H ⊢; exact H)
                  (try rw [hji51] at A49)
                  have hji51w : (IntKind.i64.wrap ((t195.size : Int) - 1)) = ji51 := (i64_w _).trans hji51
                  by_cases c52 : 0 ≤ (ji51)
                  · rw [if_pos c52] at H
                    have c52b0 : decide (0 ≤ (ji51)) = true := decide_eq_true c52
                    clear c52
                    by_cases c53 : (ji51) < (t195.size : Int)
                    · rw [if_pos c53] at H
                      have c53b0 : decide ((ji51) < (t195.size : Int)) = true := decide_eq_true c53
                      clear c53
                      replace H := Option.bind_eq_some_iff.mp H
                      obtain ⟨t212, A550, H⟩ := H
                      replace H : (if t212 = true then (some false) else ((fold_Words.f sx5).bind fun t213 => (if ((t195.toList == ([] : List UInt8)) == ((t213.length : Int) == 0)) = true then ((fold_Same.f sx5 t196).bind fun t216 => (if t216 = true then ((boltinglaw02_fixed.f kj7).bind fun t217 => (some t217)) else (some false))) else (some false)))) = some r := H
                      have A55 := Aside0.mk A550
                      clear A550
                      by_cases c56 : t212 = true
                      · subst c56
                        have H1 : (some false) = some r := by rw [if_pos rfl] at H; exact H
                        clear H
                        have H := H1
                        clear H1
                        obtain rfl := Option.some.inj H
                        have p48 : 0 ≤ (0 : Int) := (by omega)
                        have q48 : 0 < t195.size := (by have : (0 : Int) < (t195.size : Int) := of_decide_eq_true (by first | (with_reducible assumption) | assumption); omega)
                        have hx48 : ∀ h : 0 < t195.size, ((t195[0]'h).toNat : Int) = bt t195 0 := bt_at t195 0
                        clear p48
                        have qi48 : (0 < (t195.size : Int)) = True := eq_true (of_decide_eq_true (by first | (with_reducible assumption) | assumption))
                        replace q48 := eq_true q48
                        go_wp2_with (first | (go_at_call 14; (with_reducible refine (fold_Space.calls (bt t195 0) false _ A49.out).mono ?_); rintro e w' ⟨rfl, ⟨nd, rfl⟩⟩; have p54 : 0 ≤ ((ji51) : Int) := of_decide_eq_true (by first | (with_reducible assumption) | assumption); have q54 : (ji51) < (t195.size : Int) := of_decide_eq_true (by first | (with_reducible assumption) | assumption); have hx54 := bt_at t195 (ji51); replace p54 := eq_true p54; replace q54 := eq_true q54) | (go_at_call 14; (with_reducible refine (fold_Space.calls (bt t195 (ji51)) true _ A55.out).mono ?_); rintro e w' ⟨rfl, ⟨nd, rfl⟩⟩))
                        go_ret
                        exact ⟨by first | rfl | (simp [errW_none, errW_some] <;> rfl) | (simp only [← hji2, ← hji51]; first | rfl | (simp [errW_none, errW_some] <;> rfl)) | (simp [*, errW_none, errW_some] <;> rfl), by repeat (first | (with_reducible first | exact HB.out | apply below_alloc | apply pw_below_drewN | apply below_drew1) | exact HB.out)⟩
                      · replace c56 := Bool.eq_false_iff.mpr c56
                        subst c56
                        have H1 : ((fold_Words.f sx5).bind fun t213 => (if ((t195.toList == ([] : List UInt8)) == ((t213.length : Int) == 0)) = true then ((fold_Same.f sx5 t196).bind fun t216 => (if t216 = true then ((boltinglaw02_fixed.f kj7).bind fun t217 => (some t217)) else (some false))) else (some false))) = some r := by rw [if_neg (show ¬ (false = true) by decide)] at H; exact H
                        clear H
                        have H := H1
                        clear H1
                        replace H := Option.bind_eq_some_iff.mp H
                        obtain ⟨t213, A570, H⟩ := H
                        replace H : (if ((t195.toList == ([] : List UInt8)) == ((t213.length : Int) == 0)) = true then ((fold_Same.f sx5 t196).bind fun t216 => (if t216 = true then ((boltinglaw02_fixed.f kj7).bind fun t217 => (some t217)) else (some false))) else (some false)) = some r := H
                        have A57 := Aside0.mk A570
                        clear A570
                        by_cases c58 : ((t195.toList == ([] : List UInt8)) == ((t213.length : Int) == 0)) = true
                        · rw [if_pos c58] at H
                          have c58b0 : ((t195.toList == ([] : List UInt8)) == ((t213.length : Int) == 0)) = true := c58
                          (try (have c58b1 : decide ((t195.toList == ([] : List UInt8)) = ((t213.length : Int) == 0)) = true := by simpa using c58))
                          (first | (have c58z : (t213 = []) = True := by simpa [show (t195.toList == ([] : List UInt8)) = true from by assumption] using c58) | (have c58z : (t213 = []) = False := by simpa [show (t195.toList == ([] : List UInt8)) = true from by assumption] using c58) | (have c58z : (t213 = []) = True := by simpa [show (t195.toList == ([] : List UInt8)) = false from by assumption] using c58) | (have c58z : (t213 = []) = False := by simpa [show (t195.toList == ([] : List UInt8)) = false from by assumption] using c58) | skip)
                          (try (have c58b2 : ((t195.toList == ([] : List UInt8)) == ((t213.length : Int) == 0)) = true := by simpa using c58))
                          clear c58
                          replace H := Option.bind_eq_some_iff.mp H
                          obtain ⟨t216, A590, H⟩ := H
                          replace H : (if t216 = true then ((boltinglaw02_fixed.f kj7).bind fun t217 => (some t217)) else (some false)) = some r := H
                          have A59 := Aside0.mk A590
                          clear A590
                          by_cases c60 : t216 = true
                          · subst c60
                            have H1 : ((boltinglaw02_fixed.f kj7).bind fun t217 => (some t217)) = some r := by rw [if_pos rfl] at H; exact H
                            clear H
                            have H := H1
                            clear H1
                            replace H := Option.bind_eq_some_iff.mp H
                            obtain ⟨t217, A610, H⟩ := H
                            replace H : (some t217) = some r := H
                            have A61 := Aside0.mk A610
                            clear A610
                            obtain rfl := Option.some.inj H
                            have p48 : 0 ≤ (0 : Int) := (by omega)
                            have q48 : 0 < t195.size := (by have : (0 : Int) < (t195.size : Int) := of_decide_eq_true (by first | (with_reducible assumption) | assumption); omega)
                            have hx48 : ∀ h : 0 < t195.size, ((t195[0]'h).toNat : Int) = bt t195 0 := bt_at t195 0
                            clear p48
                            have qi48 : (0 < (t195.size : Int)) = True := eq_true (of_decide_eq_true (by first | (with_reducible assumption) | assumption))
                            replace q48 := eq_true q48
                            go_wp2_with (first | (go_at_call 14; (with_reducible refine (fold_Space.calls (bt t195 0) false _ A49.out).mono ?_); rintro e w' ⟨rfl, ⟨nd, rfl⟩⟩; have p54 : 0 ≤ ((ji51) : Int) := of_decide_eq_true (by first | (with_reducible assumption) | assumption); have q54 : (ji51) < (t195.size : Int) := of_decide_eq_true (by first | (with_reducible assumption) | assumption); have hx54 := bt_at t195 (ji51); replace p54 := eq_true p54; replace q54 := eq_true q54) | (go_at_call 14; (with_reducible refine (fold_Space.calls (bt t195 (ji51)) false _ A55.out).mono ?_); rintro e w' ⟨rfl, ⟨nd, rfl⟩⟩) | ((fail_if_success (have z_ := HO215)); go_at_call 18; (with_reducible refine (fold_Words.calls sx5 t213 _ A57.out).mono ?_); rintro e w62 ⟨v214, rfl, ho0, hb⟩; have n0_ := Aside0.mk (Kd.R_lower ho0 (below_size (by repeat (first | (with_reducible first | exact HB.out | apply below_alloc | apply pw_below_drewN | apply below_drew1) | exact HB.out)))); have n1_ := Aside0.mk (below_step (by repeat (first | (with_reducible first | exact HB.out | apply below_alloc | apply pw_below_drewN | apply below_drew1) | exact HB.out)) hb); clear HB; have HO215 := n0_; have HB := n1_; clear n0_ n1_; (try clear hb); (try clear hb2); (try clear hk); (try clear hi); (try clear ho0); obtain ⟨Ao63, co63, eo63⟩ := Kd.R_slice HO215.out; subst eo63) | (go_at_call 13; (with_reducible refine (fold_Same.calls sx5 t196 true _ A59.out).mono ?_); rintro e w64 ⟨rfl, hb⟩; have n0_ := Aside0.mk (Kd.R_below (by (with_reducible repeat (first | apply Kd.R_alloc | apply Kd.R_drewN | apply Kd.R_drew)); exact HO215.out) hb); have n1_ := Aside0.mk (below_step (by repeat (first | (with_reducible first | exact HB.out | apply below_alloc | apply pw_below_drewN | apply below_drew1) | exact HB.out)) hb); clear HO215; clear HB; have HO215 := n0_; have HB := n1_; clear n0_ n1_; (try clear hb); (try clear hb2); (try clear hk); (try clear hi)) | (go_at_call 10; (with_reducible refine (boltinglaw02_fixed.calls kj7  t217 _ A61.out).mono ?_); rintro e w65 ⟨rfl, hb⟩; have n0_ := Aside0.mk (Kd.R_below (by (with_reducible repeat (first | apply Kd.R_alloc | apply Kd.R_drewN | apply Kd.R_drew)); exact HO215.out) hb); have n1_ := Aside0.mk (below_step (by repeat (first | (with_reducible first | exact HB.out | apply below_alloc | apply pw_below_drewN | apply below_drew1) | exact HB.out)) hb); clear HO215; clear HB; have HO215 := n0_; have HB := n1_; clear n0_ n1_; (try clear hb); (try clear hb2); (try clear hk); (try clear hi)))
                            go_ret
                            exact ⟨by first | rfl | (simp [errW_none, errW_some] <;> rfl) | (simp only [← hji2, ← hji51]; first | rfl | (simp [errW_none, errW_some] <;> rfl)) | (simp [*, errW_none, errW_some] <;> rfl), by repeat (first | (with_reducible first | exact HB.out | apply below_alloc | apply pw_below_drewN | apply below_drew1) | exact HB.out)⟩
                          · replace c60 := Bool.eq_false_iff.mpr c60
                            subst c60
                            have H1 : (some false) = some r := by rw [if_neg (show ¬ (false = true) by decide)] at H; exact H
                            clear H
                            have H := H1
                            clear H1
                            obtain rfl := Option.some.inj H
                            have p48 : 0 ≤ (0 : Int) := (by omega)
                            have q48 : 0 < t195.size := (by have : (0 : Int) < (t195.size : Int) := of_decide_eq_true (by first | (with_reducible assumption) | assumption); omega)
                            have hx48 : ∀ h : 0 < t195.size, ((t195[0]'h).toNat : Int) = bt t195 0 := bt_at t195 0
                            clear p48
                            have qi48 : (0 < (t195.size : Int)) = True := eq_true (of_decide_eq_true (by first | (with_reducible assumption) | assumption))
                            replace q48 := eq_true q48
                            go_wp2_with (first | (go_at_call 14; (with_reducible refine (fold_Space.calls (bt t195 0) false _ A49.out).mono ?_); rintro e w' ⟨rfl, ⟨nd, rfl⟩⟩; have p54 : 0 ≤ ((ji51) : Int) := of_decide_eq_true (by first | (with_reducible assumption) | assumption); have q54 : (ji51) < (t195.size : Int) := of_decide_eq_true (by first | (with_reducible assumption) | assumption); have hx54 := bt_at t195 (ji51); replace p54 := eq_true p54; replace q54 := eq_true q54) | (go_at_call 14; (with_reducible refine (fold_Space.calls (bt t195 (ji51)) false _ A55.out).mono ?_); rintro e w' ⟨rfl, ⟨nd, rfl⟩⟩) | ((fail_if_success (have z_ := HO215)); go_at_call 18; (with_reducible refine (fold_Words.calls sx5 t213 _ A57.out).mono ?_); rintro e w66 ⟨v214, rfl, ho0, hb⟩; have n0_ := Aside0.mk (Kd.R_lower ho0 (below_size (by repeat (first | (with_reducible first | exact HB.out | apply below_alloc | apply pw_below_drewN | apply below_drew1) | exact HB.out)))); have n1_ := Aside0.mk (below_step (by repeat (first | (with_reducible first | exact HB.out | apply below_alloc | apply pw_below_drewN | apply below_drew1) | exact HB.out)) hb); clear HB; have HO215 := n0_; have HB := n1_; clear n0_ n1_; (try clear hb); (try clear hb2); (try clear hk); (try clear hi); (try clear ho0); obtain ⟨Ao67, co67, eo67⟩ := Kd.R_slice HO215.out; subst eo67) | (go_at_call 13; (with_reducible refine (fold_Same.calls sx5 t196 false _ A59.out).mono ?_); rintro e w68 ⟨rfl, hb⟩; have n0_ := Aside0.mk (Kd.R_below (by (with_reducible repeat (first | apply Kd.R_alloc | apply Kd.R_drewN | apply Kd.R_drew)); exact HO215.out) hb); have n1_ := Aside0.mk (below_step (by repeat (first | (with_reducible first | exact HB.out | apply below_alloc | apply pw_below_drewN | apply below_drew1) | exact HB.out)) hb); clear HO215; clear HB; have HO215 := n0_; have HB := n1_; clear n0_ n1_; (try clear hb); (try clear hb2); (try clear hk); (try clear hi)))
                            go_ret
                            exact ⟨by first | rfl | (simp [errW_none, errW_some] <;> rfl) | (simp only [← hji2, ← hji51]; first | rfl | (simp [errW_none, errW_some] <;> rfl)) | (simp [*, errW_none, errW_some] <;> rfl), by repeat (first | (with_reducible first | exact HB.out | apply below_alloc | apply pw_below_drewN | apply below_drew1) | exact HB.out)⟩
                        · rw [if_neg c58] at H
                          have c58b0 : ((t195.toList == ([] : List UInt8)) == ((t213.length : Int) == 0)) = false := by simpa using c58
                          (try (have c58b1 : decide ((t195.toList == ([] : List UInt8)) = ((t213.length : Int) == 0)) = false := by simpa using c58))
                          (first | (have c58z : (t213 = []) = True := by simpa [show (t195.toList == ([] : List UInt8)) = true from by assumption] using c58) | (have c58z : (t213 = []) = False := by simpa [show (t195.toList == ([] : List UInt8)) = true from by assumption] using c58) | (have c58z : (t213 = []) = True := by simpa [show (t195.toList == ([] : List UInt8)) = false from by assumption] using c58) | (have c58z : (t213 = []) = False := by simpa [show (t195.toList == ([] : List UInt8)) = false from by assumption] using c58) | skip)
                          (try (have c58b2 : ((t195.toList == ([] : List UInt8)) == ((t213.length : Int) == 0)) = false := by simpa using c58))
                          (try (have c58b3 : ¬ ((t195.toList == ([] : List UInt8)) = ((t213.length : Int) == 0)) := by simpa using c58))
                          clear c58
                          obtain rfl := Option.some.inj H
                          have p48 : 0 ≤ (0 : Int) := (by omega)
                          have q48 : 0 < t195.size := (by have : (0 : Int) < (t195.size : Int) := of_decide_eq_true (by first | (with_reducible assumption) | assumption); omega)
                          have hx48 : ∀ h : 0 < t195.size, ((t195[0]'h).toNat : Int) = bt t195 0 := bt_at t195 0
                          clear p48
                          have qi48 : (0 < (t195.size : Int)) = True := eq_true (of_decide_eq_true (by first | (with_reducible assumption) | assumption))
                          replace q48 := eq_true q48
                          go_wp2_with (first | (go_at_call 14; (with_reducible refine (fold_Space.calls (bt t195 0) false _ A49.out).mono ?_); rintro e w' ⟨rfl, ⟨nd, rfl⟩⟩; have p54 : 0 ≤ ((ji51) : Int) := of_decide_eq_true (by first | (with_reducible assumption) | assumption); have q54 : (ji51) < (t195.size : Int) := of_decide_eq_true (by first | (with_reducible assumption) | assumption); have hx54 := bt_at t195 (ji51); replace p54 := eq_true p54; replace q54 := eq_true q54) | (go_at_call 14; (with_reducible refine (fold_Space.calls (bt t195 (ji51)) false _ A55.out).mono ?_); rintro e w' ⟨rfl, ⟨nd, rfl⟩⟩) | ((fail_if_success (have z_ := HO215)); go_at_call 18; (with_reducible refine (fold_Words.calls sx5 t213 _ A57.out).mono ?_); rintro e w69 ⟨v214, rfl, ho0, hb⟩; have n0_ := Aside0.mk (Kd.R_lower ho0 (below_size (by repeat (first | (with_reducible first | exact HB.out | apply below_alloc | apply pw_below_drewN | apply below_drew1) | exact HB.out)))); have n1_ := Aside0.mk (below_step (by repeat (first | (with_reducible first | exact HB.out | apply below_alloc | apply pw_below_drewN | apply below_drew1) | exact HB.out)) hb); clear HB; have HO215 := n0_; have HB := n1_; clear n0_ n1_; (try clear hb); (try clear hb2); (try clear hk); (try clear hi); (try clear ho0); obtain ⟨Ao70, co70, eo70⟩ := Kd.R_slice HO215.out; subst eo70))
                          go_ret
                          exact ⟨by first | rfl | (simp [errW_none, errW_some] <;> rfl) | (simp only [← hji2, ← hji51]; first | rfl | (simp [errW_none, errW_some] <;> rfl)) | (simp [*, errW_none, errW_some] <;> rfl), by repeat (first | (with_reducible first | exact HB.out | apply below_alloc | apply pw_below_drewN | apply below_drew1) | exact HB.out)⟩
                    · rw [if_neg c53] at H
                      exact absurd H (by simp)
                  · rw [if_neg c52] at H
                    exact absurd H (by simp)
              · rw [if_neg c47] at H
                exact absurd H (by simp)
    · rw [if_neg c4] at H
      exact absurd H (by simp)
  · rw [if_neg c3] at H
    exact absurd H (by simp)

/-- THE ONE PURE STATEMENT of boltinglaw02_FoldAgain: yours. -/
def boltinglaw02_FoldAgain.Pure : Prop := ∀ (a0 : ByteArray), a0.size ≤ 140737488351232 → ∃ k, boltinglaw02_FoldAgain.f k a0 = some true
theorem boltinglaw02_FoldAgain.walk (P : boltinglaw02_FoldAgain.Pure) (a0 : ByteArray) (w : World) (w0 : a0.size ≤ 140737488351232) :
    Calls Try.prog 7 #[.string a0] w fun e w' => e = .returned (.bool true) ∧ Below w.heap.size w w' := by
  obtain ⟨k, h⟩ := P a0 w0
  refine (boltinglaw02_FoldAgain.calls k a0 true w h).mono ?_
  rintro e w' ⟨rfl, hd⟩
  exact ⟨rfl, hd⟩

end Go.Proofs.Ytmbmjaiggefjmaa.Pr
