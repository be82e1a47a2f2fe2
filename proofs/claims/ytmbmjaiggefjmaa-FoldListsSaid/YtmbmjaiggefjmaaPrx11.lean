-- Written by wip/tools/pr.sh out of Lean's own print of the translation. Not trusted: Lean checks it.
import Derived.Test.YtmbmjaiggefjmaaPrx0
import Derived.Test.YtmbmjaiggefjmaaPrx1
import Derived.Test.YtmbmjaiggefjmaaPrx2
import Derived.Test.YtmbmjaiggefjmaaPrx3
import Derived.Test.YtmbmjaiggefjmaaPrx10
namespace Go.Proofs.Ytmbmjaiggefjmaa.Pr
open Go.RowKit Go.Proofs.YtmbmjaiggefjmaaW.PrintWords Go.Proofs.YtmbmjaiggefjmaaW.PrintLast Go.Proofs.YtmbmjaiggefjmaaW.PrintMore
attribute [local go_sem] max2_int min2_int max_two min_two max_three min_three max_four min_four   -- for this text's walks alone
set_option linter.unusedVariables false
set_option linter.unusedSimpArgs false

/-! ### boltinglaw02_FoldLists: function 5 -/
mutual
def boltinglaw02_FoldLists.j0 : Nat → List ByteArray → ByteArray → List ByteArray → List ByteArray → List ByteArray → Bool → Option (Bool)
  | 0, _, _, _, _, _, _ => none
  | k + 1, x0, x2, x7, x8, x9, x44 => if x44 = true then (some false) else ((boltingref02_Sorted.f k x0).bind fun t312 => ((fold_Find.f t312 x2).bind fun bt315 => ((boltingref02_Sorted.f k x0).bind fun t317 => ((boltingref02_Below.f k t317 x2).bind fun t320 => (if bt315.1 = t320 then ((boltingref02_Has.f k x0 x2).bind fun t321 => (boltinglaw02_FoldLists.j1 k x0 x7 x8 x9 (bt315.2 != t321))) else (boltinglaw02_FoldLists.j1 k x0 x7 x8 x9 true))))))
def boltinglaw02_FoldLists.j1 : Nat → List ByteArray → List ByteArray → List ByteArray → List ByteArray → Bool → Option (Bool)
  | 0, _, _, _, _, _ => none
  | k + 1, x0, x7, x8, x9, x64 => if x64 = true then (some false) else (boltinglaw02_FoldLists.l0 k x0 x7 x8 x9 0)
def boltinglaw02_FoldLists.l0 : Nat → List ByteArray → List ByteArray → List ByteArray → List ByteArray → Int → Option (Bool)
  | 0, _, _, _, _, _ => none
  | k + 1, x0, x7, x8, x9, x12 => if x12 < (x8.length : Int) then (if 0 ≤ x12 then (boltinglaw02_FoldLists.l0 k x0 x7 (x8.set (x12 : Int).toNat (⟨#[]⟩ : ByteArray)) x9 (wrap64 (x12 + 1))) else (none)) else (boltinglaw02_FoldLists.l1 k x0 x7 x9 0)
def boltinglaw02_FoldLists.l1 : Nat → List ByteArray → List ByteArray → List ByteArray → Int → Option (Bool)
  | 0, _, _, _, _ => none
  | k + 1, x0, x7, x9, x13 => if x13 < (x9.length : Int) then (if 0 ≤ x13 then (boltinglaw02_FoldLists.l1 k x0 x7 (x9.set (x13 : Int).toNat (⟨#[]⟩ : ByteArray)) (wrap64 (x13 + 1))) else (none)) else ((boltingref02_Equal.f k x0 x7).bind fun t324 => (if t324 = true then ((boltinglaw02_fixed.f k).bind fun t325 => (some t325)) else (some false)))
end
def boltinglaw02_FoldLists.f (k : Nat) (l0 : List ByteArray) (l1 : List ByteArray) (a2 : ByteArray) : Option (Bool) := if 0 ≤ (mn (l0.length : Int) 60) then (if (mn (l0.length : Int) 60) ≤ (l0.length : Int) then ((some (l0.take ((mn (l0.length : Int) 60) : Int).toNat : List ByteArray)).bind fun y284 => (if 0 ≤ (mn (l1.length : Int) 60) then (if (mn (l1.length : Int) 60) ≤ (l1.length : Int) then ((some (l1.take ((mn (l1.length : Int) 60) : Int).toNat : List ByteArray)).bind fun y288 => ((some (([] : List ByteArray) : List ByteArray)).bind fun y292 => (if y292.length + y284.length < 8796093022208 then ((some (y292 ++ y284 : List ByteArray)).bind fun y295 => ((fold_Sorted.f y284).bind fun t298 => ((fold_Minus.f k y284 y288).bind fun t301 => ((boltingref02_Sorted.f k y284).bind fun t304 => ((boltingref02_Equal.f k t298 t304).bind fun t307 => (if t307 = true then ((boltingref02_Minus.f k y284 y288).bind fun t308 => ((boltingref02_Equal.f k t301 t308).bind fun t311 => (boltinglaw02_FoldLists.j0 k y284 a2 y295 t298 t301 (!t311)))) else (boltinglaw02_FoldLists.j0 k y284 a2 y295 t298 t301 true))))))) else (none)))) else (none)) else (none))) else (none)) else (none)
theorem boltinglaw02_FoldLists.mono_l : ∀ k, (∀ y0 y1 y2 y3 y4 y5, LeO (boltinglaw02_FoldLists.j0 k y0 y1 y2 y3 y4 y5) (boltinglaw02_FoldLists.j0 (k + 1) y0 y1 y2 y3 y4 y5)) ∧ (∀ y0 y1 y2 y3 y4, LeO (boltinglaw02_FoldLists.j1 k y0 y1 y2 y3 y4) (boltinglaw02_FoldLists.j1 (k + 1) y0 y1 y2 y3 y4)) ∧ (∀ y0 y1 y2 y3 y4, LeO (boltinglaw02_FoldLists.l0 k y0 y1 y2 y3 y4) (boltinglaw02_FoldLists.l0 (k + 1) y0 y1 y2 y3 y4)) ∧ (∀ y0 y1 y2 y3, LeO (boltinglaw02_FoldLists.l1 k y0 y1 y2 y3) (boltinglaw02_FoldLists.l1 (k + 1) y0 y1 y2 y3))
  | 0 => ⟨fun _ _ _ _ _ _ r h => by simp [boltinglaw02_FoldLists.j0] at h, fun _ _ _ _ _ r h => by simp [boltinglaw02_FoldLists.j1] at h, fun _ _ _ _ _ r h => by simp [boltinglaw02_FoldLists.l0] at h, fun _ _ _ _ r h => by simp [boltinglaw02_FoldLists.l1] at h⟩
  | k + 1 => by
    obtain ⟨ih0, ih1, ih2, ih3⟩ := boltinglaw02_FoldLists.mono_l k
    refine ⟨?_, ?_, ?_, ?_⟩
    · intro y0 y1 y2 y3 y4 y5
      unfold boltinglaw02_FoldLists.j0
      repeat' first
      | (with_reducible exact ih0 _ _ _ _ _ _)
      | (with_reducible exact ih1 _ _ _ _ _)
      | (with_reducible exact ih2 _ _ _ _ _)
      | (with_reducible exact ih3 _ _ _ _)
      | (with_reducible exact boltinglaw02_fixed.mono _)
      | (with_reducible exact boltingref02_Below.mono _ _ _)
      | (with_reducible exact boltingref02_Equal.mono _ _ _)
      | (with_reducible exact boltingref02_Has.mono _ _ _)
      | (with_reducible exact boltingref02_Minus.mono _ _ _)
      | (with_reducible exact boltingref02_Sorted.mono _ _)
      | (with_reducible exact fold_Minus.mono _ _ _)
      | (with_reducible exact LeO.refl _)
      | (with_reducible exact LeO.none _)
      | (with_reducible refine LeO.ite ?_ ?_)
      | (with_reducible refine LeO.bind ?_ (fun _ => ?_))
      | exact ih0 _ _ _ _ _ _
      | exact ih1 _ _ _ _ _
      | exact ih2 _ _ _ _ _
      | exact ih3 _ _ _ _
      | exact boltinglaw02_fixed.mono _
      | exact boltingref02_Below.mono _ _ _
      | exact boltingref02_Equal.mono _ _ _
      | exact boltingref02_Has.mono _ _ _
      | exact boltingref02_Minus.mono _ _ _
      | exact boltingref02_Sorted.mono _ _
      | exact fold_Minus.mono _ _ _
      | exact LeO.none _
      | refine LeO.ite ?_ ?_
      | refine LeO.bind ?_ (fun _ => ?_)
    · intro y0 y1 y2 y3 y4
      unfold boltinglaw02_FoldLists.j1
      repeat' first
      | (with_reducible exact ih0 _ _ _ _ _ _)
      | (with_reducible exact ih1 _ _ _ _ _)
      | (with_reducible exact ih2 _ _ _ _ _)
      | (with_reducible exact ih3 _ _ _ _)
      | (with_reducible exact boltinglaw02_fixed.mono _)
      | (with_reducible exact boltingref02_Below.mono _ _ _)
      | (with_reducible exact boltingref02_Equal.mono _ _ _)
      | (with_reducible exact boltingref02_Has.mono _ _ _)
      | (with_reducible exact boltingref02_Minus.mono _ _ _)
      | (with_reducible exact boltingref02_Sorted.mono _ _)
      | (with_reducible exact fold_Minus.mono _ _ _)
      | (with_reducible exact LeO.refl _)
      | (with_reducible exact LeO.none _)
      | (with_reducible refine LeO.ite ?_ ?_)
      | (with_reducible refine LeO.bind ?_ (fun _ => ?_))
      | exact ih0 _ _ _ _ _ _
      | exact ih1 _ _ _ _ _
      | exact ih2 _ _ _ _ _
      | exact ih3 _ _ _ _
      | exact boltinglaw02_fixed.mono _
      | exact boltingref02_Below.mono _ _ _
      | exact boltingref02_Equal.mono _ _ _
      | exact boltingref02_Has.mono _ _ _
      | exact boltingref02_Minus.mono _ _ _
      | exact boltingref02_Sorted.mono _ _
      | exact fold_Minus.mono _ _ _
      | exact LeO.none _
      | refine LeO.ite ?_ ?_
      | refine LeO.bind ?_ (fun _ => ?_)
    · intro y0 y1 y2 y3 y4
      unfold boltinglaw02_FoldLists.l0
      repeat' first
      | (with_reducible exact ih0 _ _ _ _ _ _)
      | (with_reducible exact ih1 _ _ _ _ _)
      | (with_reducible exact ih2 _ _ _ _ _)
      | (with_reducible exact ih3 _ _ _ _)
      | (with_reducible exact boltinglaw02_fixed.mono _)
      | (with_reducible exact boltingref02_Below.mono _ _ _)
      | (with_reducible exact boltingref02_Equal.mono _ _ _)
      | (with_reducible exact boltingref02_Has.mono _ _ _)
      | (with_reducible exact boltingref02_Minus.mono _ _ _)
      | (with_reducible exact boltingref02_Sorted.mono _ _)
      | (with_reducible exact fold_Minus.mono _ _ _)
      | (with_reducible exact LeO.refl _)
      | (with_reducible exact LeO.none _)
      | (with_reducible refine LeO.ite ?_ ?_)
      | (with_reducible refine LeO.bind ?_ (fun _ => ?_))
      | exact ih0 _ _ _ _ _ _
      | exact ih1 _ _ _ _ _
      | exact ih2 _ _ _ _ _
      | exact ih3 _ _ _ _
      | exact boltinglaw02_fixed.mono _
      | exact boltingref02_Below.mono _ _ _
      | exact boltingref02_Equal.mono _ _ _
      | exact boltingref02_Has.mono _ _ _
      | exact boltingref02_Minus.mono _ _ _
      | exact boltingref02_Sorted.mono _ _
      | exact fold_Minus.mono _ _ _
      | exact LeO.none _
      | refine LeO.ite ?_ ?_
      | refine LeO.bind ?_ (fun _ => ?_)
    · intro y0 y1 y2 y3
      unfold boltinglaw02_FoldLists.l1
      repeat' first
      | (with_reducible exact ih0 _ _ _ _ _ _)
      | (with_reducible exact ih1 _ _ _ _ _)
      | (with_reducible exact ih2 _ _ _ _ _)
      | (with_reducible exact ih3 _ _ _ _)
      | (with_reducible exact boltinglaw02_fixed.mono _)
      | (with_reducible exact boltingref02_Below.mono _ _ _)
      | (with_reducible exact boltingref02_Equal.mono _ _ _)
      | (with_reducible exact boltingref02_Has.mono _ _ _)
      | (with_reducible exact boltingref02_Minus.mono _ _ _)
      | (with_reducible exact boltingref02_Sorted.mono _ _)
      | (with_reducible exact fold_Minus.mono _ _ _)
      | (with_reducible exact LeO.refl _)
      | (with_reducible exact LeO.none _)
      | (with_reducible refine LeO.ite ?_ ?_)
      | (with_reducible refine LeO.bind ?_ (fun _ => ?_))
      | exact ih0 _ _ _ _ _ _
      | exact ih1 _ _ _ _ _
      | exact ih2 _ _ _ _ _
      | exact ih3 _ _ _ _
      | exact boltinglaw02_fixed.mono _
      | exact boltingref02_Below.mono _ _ _
      | exact boltingref02_Equal.mono _ _ _
      | exact boltingref02_Has.mono _ _ _
      | exact boltingref02_Minus.mono _ _ _
      | exact boltingref02_Sorted.mono _ _
      | exact fold_Minus.mono _ _ _
      | exact LeO.none _
      | refine LeO.ite ?_ ?_
      | refine LeO.bind ?_ (fun _ => ?_)
theorem boltinglaw02_FoldLists.mono : ∀ a0 a1 a2 k, LeO (boltinglaw02_FoldLists.f k a0 a1 a2) (boltinglaw02_FoldLists.f (k + 1) a0 a1 a2) := by
  intro a0 a1 a2 k
  obtain ⟨ih0, ih1, ih2, ih3⟩ := boltinglaw02_FoldLists.mono_l k
  unfold boltinglaw02_FoldLists.f
  repeat' first
      | (with_reducible exact ih0 _ _ _ _ _ _)
      | (with_reducible exact ih1 _ _ _ _ _)
      | (with_reducible exact ih2 _ _ _ _ _)
      | (with_reducible exact ih3 _ _ _ _)
      | (with_reducible exact boltinglaw02_fixed.mono _)
      | (with_reducible exact boltingref02_Below.mono _ _ _)
      | (with_reducible exact boltingref02_Equal.mono _ _ _)
      | (with_reducible exact boltingref02_Has.mono _ _ _)
      | (with_reducible exact boltingref02_Minus.mono _ _ _)
      | (with_reducible exact boltingref02_Sorted.mono _ _)
      | (with_reducible exact fold_Minus.mono _ _ _)
      | (with_reducible exact LeO.refl _)
      | (with_reducible exact LeO.none _)
      | (with_reducible refine LeO.ite ?_ ?_)
      | (with_reducible refine LeO.bind ?_ (fun _ => ?_))
      | exact ih0 _ _ _ _ _ _
      | exact ih1 _ _ _ _ _
      | exact ih2 _ _ _ _ _
      | exact ih3 _ _ _ _
      | exact boltinglaw02_fixed.mono _
      | exact boltingref02_Below.mono _ _ _
      | exact boltingref02_Equal.mono _ _ _
      | exact boltingref02_Has.mono _ _ _
      | exact boltingref02_Minus.mono _ _ _
      | exact boltingref02_Sorted.mono _ _
      | exact fold_Minus.mono _ _ _
      | exact LeO.none _
      | refine LeO.ite ?_ ?_
      | refine LeO.bind ?_ (fun _ => ?_)
set_option maxHeartbeats 8000000 in
set_option maxRecDepth 100000 in
theorem boltinglaw02_FoldLists.calls (k : Nat) (A0 : Option Addr) (c0 : Nat) (l0 : List ByteArray) (A1 : Option Addr) (c1 : Nat) (l1 : List ByteArray) (a2 : ByteArray) (r : Bool) (w : World) (hr0 : Kd.C Kd.string w A0 l0.length l0) (hc0 : l0.length ≤ c0) (hr1 : Kd.C Kd.string w A1 l1.length l1) (hc1 : l1.length ≤ c1) (h : boltinglaw02_FoldLists.f k l0 l1 a2 = some r) :
    Calls Try.prog 5 #[.slice A0 l0.length c0, .slice A1 l1.length c1, .string a2] w fun e w' => e = .returned (.bool r) ∧ Below w.heap.size w w' := by
  have HR0 := Aside0.mk hr0
  have HC0 := Aside0.mk hc0
  clear hr0 hc0
  have HR1 := Aside0.mk hr1
  have HC1 := Aside0.mk hc1
  clear hr1 hc1
  have HB := Aside0.mk (Below.refl w.heap.size w)
  have H : (if 0 ≤ (mn (l0.length : Int) 60) then (if (mn (l0.length : Int) 60) ≤ (l0.length : Int) then ((some (l0.take ((mn (l0.length : Int) 60) : Int).toNat : List ByteArray)).bind fun y284 => (if 0 ≤ (mn (l1.length : Int) 60) then (if (mn (l1.length : Int) 60) ≤ (l1.length : Int) then ((some (l1.take ((mn (l1.length : Int) 60) : Int).toNat : List ByteArray)).bind fun y288 => ((some (([] : List ByteArray) : List ByteArray)).bind fun y292 => (if y292.length + y284.length < 8796093022208 then ((some (y292 ++ y284 : List ByteArray)).bind fun y295 => ((fold_Sorted.f y284).bind fun t298 => ((fold_Minus.f k y284 y288).bind fun t301 => ((boltingref02_Sorted.f k y284).bind fun t304 => ((boltingref02_Equal.f k t298 t304).bind fun t307 => (if t307 = true then ((boltingref02_Minus.f k y284 y288).bind fun t308 => ((boltingref02_Equal.f k t301 t308).bind fun t311 => (boltinglaw02_FoldLists.j0 k y284 a2 y295 t298 t301 (!t311)))) else (boltinglaw02_FoldLists.j0 k y284 a2 y295 t298 t301 true))))))) else (none)))) else (none)) else (none))) else (none)) else (none)) = some r := h
  clear h
  obtain ⟨ji4, hji4⟩ : ∃ j_ : Int, (mn (l0.length : Int) 60) = j_ := ⟨_, rfl⟩
  replace H : (if 0 ≤ (ji4) then (if (ji4) ≤ (l0.length : Int) then ((some (l0.take ((ji4) : Int).toNat : List ByteArray)).bind fun y284 => (if 0 ≤ (mn (l1.length : Int) 60) then (if (mn (l1.length : Int) 60) ≤ (l1.length : Int) then ((some (l1.take ((mn (l1.length : Int) 60) : Int).toNat : List ByteArray)).bind fun y288 => ((some (([] : List ByteArray) : List ByteArray)).bind fun y292 => (if y292.length + y284.length < 8796093022208 then ((some (y292 ++ y284 : List ByteArray)).bind fun y295 => ((fold_Sorted.f y284).bind fun t298 => ((fold_Minus.f k y284 y288).bind fun t301 => ((boltingref02_Sorted.f k y284).bind fun t304 => ((boltingref02_Equal.f k t298 t304).bind fun t307 => (if t307 = true then ((boltingref02_Minus.f k y284 y288).bind fun t308 => ((boltingref02_Equal.f k t301 t308).bind fun t311 => (boltinglaw02_FoldLists.j0 k y284 a2 y295 t298 t301 (!t311)))) else (boltinglaw02_FoldLists.j0 k y284 a2 y295 t298 t301 true))))))) else (none)))) else (none)) else (none))) else (none)) else (none)) = some r := by first | (rw [hji4] at H; exact H) | (simp only [hji4] at H ⊢; exact H)
  (try (have hji4h : ji4 ≤ 60 := by (rw [← hji4]; unfold mn; (repeat' split) <;> omega)))
  (try (have hji4g : ji4 ≤ 64 := by omega))
  (try (have hji4l : 0 ≤ ji4 := by (rw [← hji4]; unfold mn; (repeat' split) <;> omega)))
  (try (have hji4m : 0 ≤ ji4 := by omega))
  have hji4_ : (if 60 < (l0.length : Int) then 60 else (l0.length : Int)) = ji4 := hji4
  by_cases c5 : 0 ≤ (ji4)
  · rw [if_pos c5] at H
    have c5b0 := eq_true c5
    have c5b1 : decide (0 ≤ (ji4)) = true := decide_eq_true c5
    clear c5
    by_cases c6 : (ji4) ≤ (l0.length : Int)
    · rw [if_pos c6] at H
      have c6b0 := eq_true c6
      have c6b1 : decide ((ji4) ≤ (l0.length : Int)) = true := decide_eq_true c6
      clear c6
      obtain ⟨y284, hy284⟩ : ∃ y_ : List ByteArray, y_ = (l0.take ((ji4) : Int).toNat) := ⟨_, rfl⟩
      replace H : (if 0 ≤ (mn (l1.length : Int) 60) then (if (mn (l1.length : Int) 60) ≤ (l1.length : Int) then ((some (l1.take ((mn (l1.length : Int) 60) : Int).toNat : List ByteArray)).bind fun y288 => ((some (([] : List ByteArray) : List ByteArray)).bind fun y292 => (if y292.length + y284.length < 8796093022208 then ((some (y292 ++ y284 : List ByteArray)).bind fun y295 => ((fold_Sorted.f y284).bind fun t298 => ((fold_Minus.f k y284 y288).bind fun t301 => ((boltingref02_Sorted.f k y284).bind fun t304 => ((boltingref02_Equal.f k t298 t304).bind fun t307 => (if t307 = true then ((boltingref02_Minus.f k y284 y288).bind fun t308 => ((boltingref02_Equal.f k t301 t308).bind fun t311 => (boltinglaw02_FoldLists.j0 k y284 a2 y295 t298 t301 (!t311)))) else (boltinglaw02_FoldLists.j0 k y284 a2 y295 t298 t301 true))))))) else (none)))) else (none)) else (none)) = some r := by first | (rw [hy284]; with_reducible exact H) | (have H2_ := (Option.bind_some _ _).symm.trans H; rw [hy284]; with_reducible exact H2_) | (have H2_ := (Option.bind_some _ _).symm.trans H; with_reducible exact H2_) | with_reducible exact H | (rw [hy284]; exact H) | exact H
      have Ny284 := Aside0.mk hy284
      clear hy284
      obtain ⟨ji7, hji7⟩ : ∃ j_ : Int, (mn (l1.length : Int) 60) = j_ := ⟨_, rfl⟩
      replace H : (if 0 ≤ (ji7) then (if (ji7) ≤ (l1.length : Int) then ((some (l1.take ((ji7) : Int).toNat : List ByteArray)).bind fun y288 => ((some (([] : List ByteArray) : List ByteArray)).bind fun y292 => (if y292.length + y284.length < 8796093022208 then ((some (y292 ++ y284 : List ByteArray)).bind fun y295 => ((fold_Sorted.f y284).bind fun t298 => ((fold_Minus.f k y284 y288).bind fun t301 => ((boltingref02_Sorted.f k y284).bind fun t304 => ((boltingref02_Equal.f k t298 t304).bind fun t307 => (if t307 = true then ((boltingref02_Minus.f k y284 y288).bind fun t308 => ((boltingref02_Equal.f k t301 t308).bind fun t311 => (boltinglaw02_FoldLists.j0 k y284 a2 y295 t298 t301 (!t311)))) else (boltinglaw02_FoldLists.j0 k y284 a2 y295 t298 t301 true))))))) else (none)))) else (none)) else (none)) = some r := by first | (rw [hji7] at H; exact H) | (simp only [hji7] at H ⊢; exact H)
      (try (have hji7h : ji7 ≤ 60 := by (rw [← hji7]; unfold mn; (repeat' split) <;> omega)))
      (try (have hji7g : ji7 ≤ 64 := by omega))
      (try (have hji7l : 0 ≤ ji7 := by (rw [← hji7]; unfold mn; (repeat' split) <;> omega)))
      (try (have hji7m : 0 ≤ ji7 := by omega))
      have hji7_ : (if 60 < (l1.length : Int) then 60 else (l1.length : Int)) = ji7 := hji7
      by_cases c8 : 0 ≤ (ji7)
      · rw [if_pos c8] at H
        have c8b0 := eq_true c8
        have c8b1 : decide (0 ≤ (ji7)) = true := decide_eq_true c8
        clear c8
        by_cases c9 : (ji7) ≤ (l1.length : Int)
        · rw [if_pos c9] at H
          have c9b0 := eq_true c9
          have c9b1 : decide ((ji7) ≤ (l1.length : Int)) = true := decide_eq_true c9
          clear c9
          obtain ⟨y288, hy288⟩ : ∃ y_ : List ByteArray, y_ = (l1.take ((ji7) : Int).toNat) := ⟨_, rfl⟩
          replace H : ((some (([] : List ByteArray) : List ByteArray)).bind fun y292 => (if y292.length + y284.length < 8796093022208 then ((some (y292 ++ y284 : List ByteArray)).bind fun y295 => ((fold_Sorted.f y284).bind fun t298 => ((fold_Minus.f k y284 y288).bind fun t301 => ((boltingref02_Sorted.f k y284).bind fun t304 => ((boltingref02_Equal.f k t298 t304).bind fun t307 => (if t307 = true then ((boltingref02_Minus.f k y284 y288).bind fun t308 => ((boltingref02_Equal.f k t301 t308).bind fun t311 => (boltinglaw02_FoldLists.j0 k y284 a2 y295 t298 t301 (!t311)))) else (boltinglaw02_FoldLists.j0 k y284 a2 y295 t298 t301 true))))))) else (none))) = some r := by first | (rw [hy288]; with_reducible exact H) | (have H2_ := (Option.bind_some _ _).symm.trans H; rw [hy288]; with_reducible exact H2_) | (have H2_ := (Option.bind_some _ _).symm.trans H; with_reducible exact H2_) | with_reducible exact H | (rw [hy288]; exact H) | exact H
          have Ny288 := Aside0.mk hy288
          clear hy288
          obtain ⟨y292, hy292⟩ : ∃ y_ : List ByteArray, y_ = (([] : List ByteArray)) := ⟨_, rfl⟩
          replace H : (if y292.length + y284.length < 8796093022208 then ((some (y292 ++ y284 : List ByteArray)).bind fun y295 => ((fold_Sorted.f y284).bind fun t298 => ((fold_Minus.f k y284 y288).bind fun t301 => ((boltingref02_Sorted.f k y284).bind fun t304 => ((boltingref02_Equal.f k t298 t304).bind fun t307 => (if t307 = true then ((boltingref02_Minus.f k y284 y288).bind fun t308 => ((boltingref02_Equal.f k t301 t308).bind fun t311 => (boltinglaw02_FoldLists.j0 k y284 a2 y295 t298 t301 (!t311)))) else (boltinglaw02_FoldLists.j0 k y284 a2 y295 t298 t301 true))))))) else (none)) = some r := by first | (rw [hy292]; with_reducible exact H) | (have H2_ := (Option.bind_some _ _).symm.trans H; rw [hy292]; with_reducible exact H2_) | (have H2_ := (Option.bind_some _ _).symm.trans H; with_reducible exact H2_) | with_reducible exact H | (rw [hy292]; exact H) | exact H
          have Ny292 := Aside0.mk hy292
          clear hy292
          by_cases c10 : y292.length + y284.length < 8796093022208
          · rw [if_pos c10] at H
            have LMc10 := Aside0.mk c10
            clear c10
            obtain ⟨y295, hy295⟩ : ∃ y_ : List ByteArray, y_ = (y292 ++ y284) := ⟨_, rfl⟩
            replace H : ((fold_Sorted.f y284).bind fun t298 => ((fold_Minus.f k y284 y288).bind fun t301 => ((boltingref02_Sorted.f k y284).bind fun t304 => ((boltingref02_Equal.f k t298 t304).bind fun t307 => (if t307 = true then ((boltingref02_Minus.f k y284 y288).bind fun t308 => ((boltingref02_Equal.f k t301 t308).bind fun t311 => (boltinglaw02_FoldLists.j0 k y284 a2 y295 t298 t301 (!t311)))) else (boltinglaw02_FoldLists.j0 k y284 a2 y295 t298 t301 true)))))) = some r := by first | (rw [hy295]; with_reducible exact H) | (have H2_ := (Option.bind_some _ _).symm.trans H; rw [hy295]; with_reducible exact H2_) | (have H2_ := (Option.bind_some _ _).symm.trans H; with_reducible exact H2_) | with_reducible exact H | (rw [hy295]; exact H) | exact H
            have Ny295 := Aside0.mk hy295
            clear hy295
            replace H := Option.bind_eq_some_iff.mp H
            obtain ⟨t298, A110, H⟩ := H
            replace H : ((fold_Minus.f k y284 y288).bind fun t301 => ((boltingref02_Sorted.f k y284).bind fun t304 => ((boltingref02_Equal.f k t298 t304).bind fun t307 => (if t307 = true then ((boltingref02_Minus.f k y284 y288).bind fun t308 => ((boltingref02_Equal.f k t301 t308).bind fun t311 => (boltinglaw02_FoldLists.j0 k y284 a2 y295 t298 t301 (!t311)))) else (boltinglaw02_FoldLists.j0 k y284 a2 y295 t298 t301 true))))) = some r := H
            have A11 := Aside0.mk A110
            clear A110
            replace H := Option.bind_eq_some_iff.mp H
            obtain ⟨t301, A120, H⟩ := H
            replace H : ((boltingref02_Sorted.f k y284).bind fun t304 => ((boltingref02_Equal.f k t298 t304).bind fun t307 => (if t307 = true then ((boltingref02_Minus.f k y284 y288).bind fun t308 => ((boltingref02_Equal.f k t301 t308).bind fun t311 => (boltinglaw02_FoldLists.j0 k y284 a2 y295 t298 t301 (!t311)))) else (boltinglaw02_FoldLists.j0 k y284 a2 y295 t298 t301 true)))) = some r := H
            have A12 := Aside0.mk A120
            clear A120
            have HC13 := Aside0.mk H
            clear H
            have q14 : ((ji4) : Int) ≤ ((l0.length : Int) : Int) := of_decide_eq_true (by first | (with_reducible assumption) | assumption)
            obtain ⟨i014, hi014, _, hsz14, _⟩ := info_parts info9
            have hroom14 : l0.length ≤ c0 := HC0.out
            have hC14 : Kd.C Kd.string _ A0 l0.length l0 := HR0.out
            have hcut14 := cut_to (P := Try.prog) 27 9 .i64 Try.underlying27 hi014 A0 l0.length c0 (ji4) (of_decide_eq_true (by first | (with_reducible assumption) | assumption)) q14 hroom14
            have hr14 := Kd.C_take (m := ((ji4) : Int).toNat) hC14 (by omega)
            have hy14 : y284.length = ((ji4) : Int).toNat := (by rw [Ny284.out, List.length_take]; omega)
            rw [← Ny284.out] at hr14
            rw [← hy14] at hcut14
            have HR287 := Aside0.mk hr14
            have HC287 := Aside0.mk (show y284.length ≤ c0 from by omega)
            clear hr14 hC14 hroom14 hi014 hsz14
            have KY14 := Aside0.mk hy14
            clear hy14
            replace q14 := eq_true q14
            have q15 : ((ji7) : Int) ≤ ((l1.length : Int) : Int) := of_decide_eq_true (by first | (with_reducible assumption) | assumption)
            obtain ⟨i015, hi015, _, hsz15, _⟩ := info_parts info9
            have hroom15 : l1.length ≤ c1 := HC1.out
            have hC15 : Kd.C Kd.string _ A1 l1.length l1 := HR1.out
            have hcut15 := cut_to (P := Try.prog) 27 9 .i64 Try.underlying27 hi015 A1 l1.length c1 (ji7) (of_decide_eq_true (by first | (with_reducible assumption) | assumption)) q15 hroom15
            have hr15 := Kd.C_take (m := ((ji7) : Int).toNat) hC15 (by omega)
            have hy15 : y288.length = ((ji7) : Int).toNat := (by rw [Ny288.out, List.length_take]; omega)
            rw [← Ny288.out] at hr15
            rw [← hy15] at hcut15
            have HR291 := Aside0.mk hr15
            have HC291 := Aside0.mk (show y288.length ≤ c1 from by omega)
            clear hr15 hC15 hroom15 hi015 hsz15
            have KY15 := Aside0.mk hy15
            clear hy15
            replace q15 := eq_true q15
            go_enter Try.func5, Try.ntmps5
            go_upto_region 6 with (first | ((with_reducible refine gate_dst (N := 24) rfl ?_); refine Kd.R_lit Kd.string _ 9 ?hg (N := 24) ?hd (xs := ([] : List ByteArray)) (inner := []) (ok := fun _ => True) (okp := fun _ => True) ?hr ?hp (fun _ hk => hk) trivial (Below.refl _ _) (Nat.le_refl _) (by simp) ?_; (case hd => rfl); (case hg => rfl); (case hr => first | (go_simp; done) | (go_simp; rfl)); (case hp => exact (Reps.none _ _)); intro v293 w16 ho17 hb hg_ hnew_; clear hg_ hnew_; (first | rw [← Ny292.out] at ho17 | (simp only [Int.reduceToNat] at ho17; rw [← Ny292.out] at ho17)); have n0_ := Aside0.mk (Kd.R_lower ho17 (below_size (by repeat (first | (with_reducible first | exact HB.out | apply below_alloc | apply pw_below_drewN | apply below_drew1) | exact HB.out)))); have n1_ := Aside0.mk (below_step (by repeat (first | (with_reducible first | exact HB.out | apply below_alloc | apply pw_below_drewN | apply below_drew1) | exact HB.out)) hb); clear HB; have HO294 := n0_; have HB := n1_; clear n0_ n1_; clear hb ho17) | ((with_reducible refine gate_builtin (b := .append) (xs := #[.tmp 24, .tmp 25]) rfl ?_); at_builtin; refine Kd.R_append_rows Kd.string (w0 := w) w.heap.size rfl (.tmp 24) (.tmp 25) 27 9 (.string ⟨#[]⟩) 16 rfl Try.underlying27 info9 rfl (by decide) (by omega) v293 y292 y284 _ _ _ (fun _ => True) (fun _ => False) rfl rfl ?aO ?aR (fun _ _ h => h) (fun _ h => h.elim) ?aF ?aB ?aS ?aL ?_; (case aR => repeat (first | exact (Kd.C_below HR287.out HB.out) | (with_reducible refine Kd.C_alloc ?_ _) | (with_reducible refine Kd.C_drewN ?_ _) | (with_reducible refine Kd.C_drew ?_))); (case aB => exact (by repeat (first | (with_reducible first | exact HB.out | apply below_alloc | apply pw_below_drewN | apply below_drew1) | exact HB.out))); (case aF => exact (fun _ _ => trivial)); (case aO => exact (by (with_reducible repeat (first | apply Kd.R_alloc | apply Kd.R_drewN | apply Kd.R_drew)); exact HO294.out)); (case aS => exact (below_size (by repeat (first | (with_reducible first | exact HB.out | apply below_alloc | apply pw_below_drewN | apply below_drew1) | exact HB.out)))); (case aL => have := LMc10.out; omega); intro v296 w18 ho hb hg hat; rw [← Ny295.out] at ho; have n0_ := Aside0.mk (hb); have n1_ := Aside0.mk (ho); clear HB; clear HO294; have HB := n0_; have HO297 := n1_; clear n0_ n1_; clear ho hb hg hat) | ((fail_if_success (have z_ := HO300)); (with_reducible refine gate_callee (f := 23) rfl ?_); refine goesL_ (some 28) rfl rfl Try.func23 (by kernel_rfl) rfl #[.slice A0 y284.length c0] rfl (by (try simp only [List.map_toArray, List.map_cons, List.map_nil]); first | done | rfl | (simp only [List.length_drop, List.length_take]; rfl)) ?_; (with_reducible refine (fold_Sorted.calls _ _ y284 t298 _ ?side1 ?side2 A11.out).mono ?_); (case side1 => repeat (first | exact (Kd.C_below HR287.out HB.out) | (with_reducible refine Kd.C_alloc ?_ _) | (with_reducible refine Kd.C_drewN ?_ _) | (with_reducible refine Kd.C_drew ?_))); (case side2 => exact HC287.out); rintro e w19 ⟨v299, rfl, ho0, hb⟩; refine ⟨_, rfl, ?_⟩; have n0_ := Aside0.mk (Kd.R_elder' (by (with_reducible repeat (first | apply Kd.R_alloc | apply Kd.R_drewN | apply Kd.R_drew)); exact HO297.out) (Kd.R_base ho0) hb); have n1_ := Aside0.mk (Kd.R_lower (Kd.R_new' ho0 (Kd.R_lt (by (with_reducible repeat (first | apply Kd.R_alloc | apply Kd.R_drewN | apply Kd.R_drew)); exact HO297.out))) (below_size (by repeat (first | (with_reducible first | exact HB.out | apply below_alloc | apply pw_below_drewN | apply below_drew1) | exact HB.out)))); have n2_ := Aside0.mk (below_step (by repeat (first | (with_reducible first | exact HB.out | apply below_alloc | apply pw_below_drewN | apply below_drew1) | exact HB.out)) hb); clear HO297; clear HB; have HO297 := n0_; have HO300 := n1_; have HB := n2_; clear n0_ n1_ n2_; (try clear hb); (try clear hb2); (try clear hk); (try clear hi); (try clear ho0)) | ((fail_if_success (have z_ := HO303)); (with_reducible refine gate_callee (f := 24) rfl ?_); refine goesL_ (some 31) rfl rfl Try.func24 (by kernel_rfl) rfl #[.slice A0 y284.length c0, .slice A1 y288.length c1] rfl (by (try simp only [List.map_toArray, List.map_cons, List.map_nil]); first | done | rfl | (simp only [List.length_drop, List.length_take]; rfl)) ?_; (with_reducible refine (fold_Minus.calls k _ _ y284 _ _ y288 t301 _ ?side1 ?side2 ?side3 ?side4 A12.out).mono ?_); (case side1 => repeat (first | exact (Kd.C_below HR287.out HB.out) | (with_reducible refine Kd.C_alloc ?_ _) | (with_reducible refine Kd.C_drewN ?_ _) | (with_reducible refine Kd.C_drew ?_))); (case side2 => exact HC287.out); (case side3 => repeat (first | exact (Kd.C_below HR291.out HB.out) | (with_reducible refine Kd.C_alloc ?_ _) | (with_reducible refine Kd.C_drewN ?_ _) | (with_reducible refine Kd.C_drew ?_))); (case side4 => exact HC291.out); rintro e w20 ⟨v302, rfl, ho0, hb⟩; refine ⟨_, rfl, ?_⟩; have n0_ := Aside0.mk (Kd.R_elder' (by (with_reducible repeat (first | apply Kd.R_alloc | apply Kd.R_drewN | apply Kd.R_drew)); exact HO297.out) (Kd.R_base ho0) hb); have n1_ := Aside0.mk (Kd.R_elder' (by (with_reducible repeat (first | apply Kd.R_alloc | apply Kd.R_drewN | apply Kd.R_drew)); exact HO300.out) (Kd.R_base ho0) hb); have n2_ := Aside0.mk (Kd.R_lower (Kd.R_new' (Kd.R_new' ho0 (Kd.R_lt (by (with_reducible repeat (first | apply Kd.R_alloc | apply Kd.R_drewN | apply Kd.R_drew)); exact HO297.out))) (Kd.R_lt (by (with_reducible repeat (first | apply Kd.R_alloc | apply Kd.R_drewN | apply Kd.R_drew)); exact HO300.out))) (below_size (by repeat (first | (with_reducible first | exact HB.out | apply below_alloc | apply pw_below_drewN | apply below_drew1) | exact HB.out)))); have n3_ := Aside0.mk (below_step (by repeat (first | (with_reducible first | exact HB.out | apply below_alloc | apply pw_below_drewN | apply below_drew1) | exact HB.out)) hb); clear HO297; clear HO300; clear HB; have HO297 := n0_; have HO300 := n1_; have HO303 := n2_; have HB := n3_; clear n0_ n1_ n2_ n3_; (try clear hb); (try clear hb2); (try clear hk); (try clear hi); (try clear ho0)))
            (try simp only [Act.put, List.setIfInBounds_toArray, List.set_cons_zero, List.set_cons_succ])
            go_cut [44] (fun v44 wc => ∃ (kq : Nat) (x44_12 : Bool), v44 = .bool x44_12 ∧ Aside0 (boltinglaw02_FoldLists.j0 kq y284 a2 y295 t298 t301 x44_12 = some r) ∧ Aside0 (kq ≤ k) ∧ Aside0 (Kd.R Kd.string 9 wc w.heap.size (fun k_ => some k_ ≠ (v299 : Value).ownBlock ∧ some k_ ≠ (v302 : Value).ownBlock) v296 y295) ∧ Aside0 (Kd.R Kd.string 9 wc w.heap.size (fun k_ => some k_ ≠ (v296 : Value).ownBlock ∧ some k_ ≠ (v302 : Value).ownBlock) v299 t298) ∧ Aside0 (Kd.R Kd.string 9 wc w.heap.size (fun k_ => some k_ ≠ (v296 : Value).ownBlock ∧ some k_ ≠ (v299 : Value).ownBlock) v302 t301) ∧ Aside0 (Below w.heap.size w wc))
            case first =>
              have H := HC13.out
              clear HC13
              replace H := Option.bind_eq_some_iff.mp H
              obtain ⟨t304, A210, H⟩ := H
              replace H : ((boltingref02_Equal.f k t298 t304).bind fun t307 => (if t307 = true then ((boltingref02_Minus.f k y284 y288).bind fun t308 => ((boltingref02_Equal.f k t301 t308).bind fun t311 => (boltinglaw02_FoldLists.j0 k y284 a2 y295 t298 t301 (!t311)))) else (boltinglaw02_FoldLists.j0 k y284 a2 y295 t298 t301 true))) = some r := H
              have A21 := Aside0.mk A210
              clear A210
              replace H := Option.bind_eq_some_iff.mp H
              obtain ⟨t307, A220, H⟩ := H
              replace H : (if t307 = true then ((boltingref02_Minus.f k y284 y288).bind fun t308 => ((boltingref02_Equal.f k t301 t308).bind fun t311 => (boltinglaw02_FoldLists.j0 k y284 a2 y295 t298 t301 (!t311)))) else (boltinglaw02_FoldLists.j0 k y284 a2 y295 t298 t301 true)) = some r := H
              have A22 := Aside0.mk A220
              clear A220
              by_cases c23 : t307 = true
              · subst c23
                have H1 : ((boltingref02_Minus.f k y284 y288).bind fun t308 => ((boltingref02_Equal.f k t301 t308).bind fun t311 => (boltinglaw02_FoldLists.j0 k y284 a2 y295 t298 t301 (!t311)))) = some r := by rw [if_pos rfl] at H; exact H
                clear H
                have H := H1
                clear H1
                replace H := Option.bind_eq_some_iff.mp H
                obtain ⟨t308, A240, H⟩ := H
                replace H : ((boltingref02_Equal.f k t301 t308).bind fun t311 => (boltinglaw02_FoldLists.j0 k y284 a2 y295 t298 t301 (!t311))) = some r := H
                have A24 := Aside0.mk A240
                clear A240
                replace H := Option.bind_eq_some_iff.mp H
                obtain ⟨t311, A250, H⟩ := H
                replace H : (boltinglaw02_FoldLists.j0 k y284 a2 y295 t298 t301 (!t311)) = some r := H
                have A25 := Aside0.mk A250
                clear A250
                have H' := Aside0.mk H
                clear H
                go_wp2_with (first | ((fail_if_success (have z_ := HO306)); (with_reducible refine gate_callee (f := 25) rfl ?_); refine goesL_ (some 34) rfl rfl Try.func25 (by kernel_rfl) rfl #[.slice A0 y284.length c0] rfl (by (try simp only [List.map_toArray, List.map_cons, List.map_nil]); first | done | rfl | (simp only [List.length_drop, List.length_take]; rfl)) ?_; (with_reducible refine (boltingref02_Sorted.calls k _ _ y284 t304 _ ?side1 ?side2 A21.out).mono ?_); (case side1 => repeat (first | exact (Kd.C_below HR287.out HB.out) | (with_reducible refine Kd.C_alloc ?_ _) | (with_reducible refine Kd.C_drewN ?_ _) | (with_reducible refine Kd.C_drew ?_))); (case side2 => exact HC287.out); rintro e w26 ⟨v305, rfl, ho0, hb⟩; refine ⟨_, rfl, ?_⟩; have n0_ := Aside0.mk (Kd.R_elder' (by (with_reducible repeat (first | apply Kd.R_alloc | apply Kd.R_drewN | apply Kd.R_drew)); exact HO297.out) (Kd.R_base ho0) hb); have n1_ := Aside0.mk (Kd.R_elder' (by (with_reducible repeat (first | apply Kd.R_alloc | apply Kd.R_drewN | apply Kd.R_drew)); exact HO300.out) (Kd.R_base ho0) hb); have n2_ := Aside0.mk (Kd.R_elder' (by (with_reducible repeat (first | apply Kd.R_alloc | apply Kd.R_drewN | apply Kd.R_drew)); exact HO303.out) (Kd.R_base ho0) hb); have n3_ := Aside0.mk (Kd.R_lower (Kd.R_new' (Kd.R_new' (Kd.R_new' ho0 (Kd.R_lt (by (with_reducible repeat (first | apply Kd.R_alloc | apply Kd.R_drewN | apply Kd.R_drew)); exact HO297.out))) (Kd.R_lt (by (with_reducible repeat (first | apply Kd.R_alloc | apply Kd.R_drewN | apply Kd.R_drew)); exact HO300.out))) (Kd.R_lt (by (with_reducible repeat (first | apply Kd.R_alloc | apply Kd.R_drewN | apply Kd.R_drew)); exact HO303.out))) (below_size (by repeat (first | (with_reducible first | exact HB.out | apply below_alloc | apply pw_below_drewN | apply below_drew1) | exact HB.out)))); have n4_ := Aside0.mk (below_step (by repeat (first | (with_reducible first | exact HB.out | apply below_alloc | apply pw_below_drewN | apply below_drew1) | exact HB.out)) hb); clear HO297; clear HO300; clear HO303; clear HB; have HO297 := n0_; have HO300 := n1_; have HO303 := n2_; have HO306 := n3_; have HB := n4_; clear n0_ n1_ n2_ n3_ n4_; (try clear hb); (try clear hb2); (try clear hk); (try clear hi); (try clear ho0); obtain ⟨Ao27, co27, eo27⟩ := Kd.R_slice HO300.out; subst eo27; obtain ⟨Ao28, co28, eo28⟩ := Kd.R_slice HO306.out; subst eo28) | ((with_reducible refine gate_callee (f := 19) rfl ?_); refine goesL_ (some 35) rfl rfl Try.func19 (by kernel_rfl) rfl #[.slice Ao27 t298.length co27, .slice Ao28 t304.length co28] rfl (by (try simp only [List.map_toArray, List.map_cons, List.map_nil]); first | done | rfl | (simp only [List.length_drop, List.length_take]; rfl)) ?_; (with_reducible refine (boltingref02_Equal.calls k _ _ t298 _ _ t304 true _ ?side1 ?side2 ?side3 ?side4 A22.out).mono ?_); (case side1 => repeat (first | exact (Kd.R_reads' HO300.out).2.2 | (with_reducible refine Kd.C_alloc ?_ _) | (with_reducible refine Kd.C_drewN ?_ _) | (with_reducible refine Kd.C_drew ?_))); (case side2 => exact (Kd.R_reads' HO300.out).2.1); (case side3 => repeat (first | exact (Kd.R_reads' HO306.out).2.2 | (with_reducible refine Kd.C_alloc ?_ _) | (with_reducible refine Kd.C_drewN ?_ _) | (with_reducible refine Kd.C_drew ?_))); (case side4 => exact (Kd.R_reads' HO306.out).2.1); rintro e w' ⟨rfl, ⟨nd, rfl⟩⟩; refine ⟨_, rfl, ?_⟩) | ((fail_if_success (have z_ := HO310)); go_at_call 26; (with_reducible refine (boltingref02_Minus.calls k _ _ y284 _ _ y288 t308 _ ?side1 ?side2 ?side3 ?side4 A24.out).mono ?_); (case side1 => repeat (first | exact (Kd.C_below HR287.out (by repeat (first | (with_reducible first | exact HB.out | apply below_alloc | apply pw_below_drewN | apply below_drew1) | exact HB.out))) | (with_reducible refine Kd.C_alloc ?_ _) | (with_reducible refine Kd.C_drewN ?_ _) | (with_reducible refine Kd.C_drew ?_))); (case side2 => exact HC287.out); (case side3 => repeat (first | exact (Kd.C_below HR291.out (by repeat (first | (with_reducible first | exact HB.out | apply below_alloc | apply pw_below_drewN | apply below_drew1) | exact HB.out))) | (with_reducible refine Kd.C_alloc ?_ _) | (with_reducible refine Kd.C_drewN ?_ _) | (with_reducible refine Kd.C_drew ?_))); (case side4 => exact HC291.out); rintro e w29 ⟨v309, rfl, ho0, hb⟩; have n0_ := Aside0.mk (Kd.R_elder' (by (with_reducible repeat (first | apply Kd.R_alloc | apply Kd.R_drewN | apply Kd.R_drew)); exact HO297.out) (Kd.R_base ho0) hb); have n1_ := Aside0.mk (Kd.R_elder' (by (with_reducible repeat (first | apply Kd.R_alloc | apply Kd.R_drewN | apply Kd.R_drew)); exact HO300.out) (Kd.R_base ho0) hb); have n2_ := Aside0.mk (Kd.R_elder' (by (with_reducible repeat (first | apply Kd.R_alloc | apply Kd.R_drewN | apply Kd.R_drew)); exact HO303.out) (Kd.R_base ho0) hb); have n3_ := Aside0.mk (Kd.R_elder' (by (with_reducible repeat (first | apply Kd.R_alloc | apply Kd.R_drewN | apply Kd.R_drew)); exact HO306.out) (Kd.R_base ho0) hb); have n4_ := Aside0.mk (Kd.R_lower (Kd.R_new' (Kd.R_new' (Kd.R_new' (Kd.R_new' ho0 (Kd.R_lt (by (with_reducible repeat (first | apply Kd.R_alloc | apply Kd.R_drewN | apply Kd.R_drew)); exact HO297.out))) (Kd.R_lt (by (with_reducible repeat (first | apply Kd.R_alloc | apply Kd.R_drewN | apply Kd.R_drew)); exact HO300.out))) (Kd.R_lt (by (with_reducible repeat (first | apply Kd.R_alloc | apply Kd.R_drewN | apply Kd.R_drew)); exact HO303.out))) (Kd.R_lt (by (with_reducible repeat (first | apply Kd.R_alloc | apply Kd.R_drewN | apply Kd.R_drew)); exact HO306.out))) (below_size (by repeat (first | (with_reducible first | exact HB.out | apply below_alloc | apply pw_below_drewN | apply below_drew1) | exact HB.out)))); have n5_ := Aside0.mk (below_step (by repeat (first | (with_reducible first | exact HB.out | apply below_alloc | apply pw_below_drewN | apply below_drew1) | exact HB.out)) hb); clear HO297; clear HO300; clear HO303; clear HO306; clear HB; have HO297 := n0_; have HO300 := n1_; have HO303 := n2_; have HO306 := n3_; have HO310 := n4_; have HB := n5_; clear n0_ n1_ n2_ n3_ n4_ n5_; (try clear hb); (try clear hb2); (try clear hk); (try clear hi); (try clear ho0); obtain ⟨Ao30, co30, eo30⟩ := Kd.R_slice HO303.out; subst eo30; obtain ⟨Ao31, co31, eo31⟩ := Kd.R_slice HO310.out; subst eo31) | (go_at_call 19; (with_reducible refine (boltingref02_Equal.calls k _ _ t301 _ _ t308 t311 _ ?side1 ?side2 ?side3 ?side4 A25.out).mono ?_); (case side1 => repeat (first | exact (Kd.R_reads' HO303.out).2.2 | (with_reducible refine Kd.C_alloc ?_ _) | (with_reducible refine Kd.C_drewN ?_ _) | (with_reducible refine Kd.C_drew ?_))); (case side2 => exact (Kd.R_reads' HO303.out).2.1); (case side3 => repeat (first | exact (Kd.R_reads' HO310.out).2.2 | (with_reducible refine Kd.C_alloc ?_ _) | (with_reducible refine Kd.C_drewN ?_ _) | (with_reducible refine Kd.C_drew ?_))); (case side4 => exact (Kd.R_reads' HO310.out).2.1); rintro e w' ⟨rfl, ⟨nd, rfl⟩⟩))
                go_meet
                case rel => exact ⟨_, (!t311), (by first | rfl | (simp; done) | (simp [*]; done)), H', ⟨by first | omega | exact Nat.le_refl _⟩, ⟨by (with_reducible repeat (first | apply Kd.R_alloc | apply Kd.R_drewN | apply Kd.R_drew)); exact Kd.R_mono HO297.out (fun _ hk => ⟨hk.1.1.1.2, hk.1.1.2⟩)⟩, ⟨by (with_reducible repeat (first | apply Kd.R_alloc | apply Kd.R_drewN | apply Kd.R_drew)); exact Kd.R_mono HO300.out (fun _ hk => ⟨hk.1.1.1.2, hk.1.1.2⟩)⟩, ⟨by (with_reducible repeat (first | apply Kd.R_alloc | apply Kd.R_drewN | apply Kd.R_drew)); exact Kd.R_mono HO303.out (fun _ hk => ⟨hk.1.1.1.2, hk.1.1.2⟩)⟩, ⟨by repeat (first | (with_reducible first | exact HB.out | apply below_alloc | apply pw_below_drewN | apply below_drew1) | exact HB.out)⟩⟩
              · replace c23 := Bool.eq_false_iff.mpr c23
                subst c23
                have H1 : (boltinglaw02_FoldLists.j0 k y284 a2 y295 t298 t301 true) = some r := by rw [if_neg (show ¬ (false = true) by decide)] at H; exact H
                clear H
                have H := H1
                clear H1
                have H' := Aside0.mk H
                clear H
                go_wp2_with (first | ((fail_if_success (have z_ := HO306)); (with_reducible refine gate_callee (f := 25) rfl ?_); refine goesL_ (some 34) rfl rfl Try.func25 (by kernel_rfl) rfl #[.slice A0 y284.length c0] rfl (by (try simp only [List.map_toArray, List.map_cons, List.map_nil]); first | done | rfl | (simp only [List.length_drop, List.length_take]; rfl)) ?_; (with_reducible refine (boltingref02_Sorted.calls k _ _ y284 t304 _ ?side1 ?side2 A21.out).mono ?_); (case side1 => repeat (first | exact (Kd.C_below HR287.out HB.out) | (with_reducible refine Kd.C_alloc ?_ _) | (with_reducible refine Kd.C_drewN ?_ _) | (with_reducible refine Kd.C_drew ?_))); (case side2 => exact HC287.out); rintro e w32 ⟨v305, rfl, ho0, hb⟩; refine ⟨_, rfl, ?_⟩; have n0_ := Aside0.mk (Kd.R_elder' (by (with_reducible repeat (first | apply Kd.R_alloc | apply Kd.R_drewN | apply Kd.R_drew)); exact HO297.out) (Kd.R_base ho0) hb); have n1_ := Aside0.mk (Kd.R_elder' (by (with_reducible repeat (first | apply Kd.R_alloc | apply Kd.R_drewN | apply Kd.R_drew)); exact HO300.out) (Kd.R_base ho0) hb); have n2_ := Aside0.mk (Kd.R_elder' (by (with_reducible repeat (first | apply Kd.R_alloc | apply Kd.R_drewN | apply Kd.R_drew)); exact HO303.out) (Kd.R_base ho0) hb); have n3_ := Aside0.mk (Kd.R_lower (Kd.R_new' (Kd.R_new' (Kd.R_new' ho0 (Kd.R_lt (by (with_reducible repeat (first | apply Kd.R_alloc | apply Kd.R_drewN | apply Kd.R_drew)); exact HO297.out))) (Kd.R_lt (by (with_reducible repeat (first | apply Kd.R_alloc | apply Kd.R_drewN | apply Kd.R_drew)); exact HO300.out))) (Kd.R_lt (by (with_reducible repeat (first | apply Kd.R_alloc | apply Kd.R_drewN | apply Kd.R_drew)); exact HO303.out))) (below_size (by repeat (first | (with_reducible first | exact HB.out | apply below_alloc | apply pw_below_drewN | apply below_drew1) | exact HB.out)))); have n4_ := Aside0.mk (below_step (by repeat (first | (with_reducible first | exact HB.out | apply below_alloc | apply pw_below_drewN | apply below_drew1) | exact HB.out)) hb); clear HO297; clear HO300; clear HO303; clear HB; have HO297 := n0_; have HO300 := n1_; have HO303 := n2_; have HO306 := n3_; have HB := n4_; clear n0_ n1_ n2_ n3_ n4_; (try clear hb); (try clear hb2); (try clear hk); (try clear hi); (try clear ho0); obtain ⟨Ao33, co33, eo33⟩ := Kd.R_slice HO300.out; subst eo33; obtain ⟨Ao34, co34, eo34⟩ := Kd.R_slice HO306.out; subst eo34) | ((with_reducible refine gate_callee (f := 19) rfl ?_); refine goesL_ (some 35) rfl rfl Try.func19 (by kernel_rfl) rfl #[.slice Ao33 t298.length co33, .slice Ao34 t304.length co34] rfl (by (try simp only [List.map_toArray, List.map_cons, List.map_nil]); first | done | rfl | (simp only [List.length_drop, List.length_take]; rfl)) ?_; (with_reducible refine (boltingref02_Equal.calls k _ _ t298 _ _ t304 false _ ?side1 ?side2 ?side3 ?side4 A22.out).mono ?_); (case side1 => repeat (first | exact (Kd.R_reads' HO300.out).2.2 | (with_reducible refine Kd.C_alloc ?_ _) | (with_reducible refine Kd.C_drewN ?_ _) | (with_reducible refine Kd.C_drew ?_))); (case side2 => exact (Kd.R_reads' HO300.out).2.1); (case side3 => repeat (first | exact (Kd.R_reads' HO306.out).2.2 | (with_reducible refine Kd.C_alloc ?_ _) | (with_reducible refine Kd.C_drewN ?_ _) | (with_reducible refine Kd.C_drew ?_))); (case side4 => exact (Kd.R_reads' HO306.out).2.1); rintro e w' ⟨rfl, ⟨nd, rfl⟩⟩; refine ⟨_, rfl, ?_⟩))
                go_meet
                case rel => exact ⟨_, (true), (by first | rfl | (simp; done) | (simp [*]; done)), H', ⟨by first | omega | exact Nat.le_refl _⟩, ⟨by (with_reducible repeat (first | apply Kd.R_alloc | apply Kd.R_drewN | apply Kd.R_drew)); exact Kd.R_mono HO297.out (fun _ hk => ⟨hk.1.1.2, hk.1.2⟩)⟩, ⟨by (with_reducible repeat (first | apply Kd.R_alloc | apply Kd.R_drewN | apply Kd.R_drew)); exact Kd.R_mono HO300.out (fun _ hk => ⟨hk.1.1.2, hk.1.2⟩)⟩, ⟨by (with_reducible repeat (first | apply Kd.R_alloc | apply Kd.R_drewN | apply Kd.R_drew)); exact Kd.R_mono HO303.out (fun _ hk => ⟨hk.1.1.2, hk.1.2⟩)⟩, ⟨by repeat (first | (with_reducible first | exact HB.out | apply below_alloc | apply pw_below_drewN | apply below_drew1) | exact HB.out)⟩⟩
            case rest =>
              clear HC13
              try clear c1
              try clear q1
              try clear c2
              try clear p2
              try clear c5
              try clear c5b0
              try clear c5b1
              try clear c6
              try clear c6b0
              try clear c6b1
              try clear c8
              try clear c8b0
              try clear c8b1
              try clear c9
              try clear c9b0
              try clear c9b1
              try clear c10
              try clear q14
              try clear q15
              try clear c19
              try clear c23
              try clear c24
              try clear c25
              try clear q14
              try clear q15
              obtain ⟨kq, x44_12, rfl, HA, HJ12, HO_7, HO_8, HO_9, HB⟩ := hcut
              cases kq with
              | zero => exact absurd HA.out (by simp [boltinglaw02_FoldLists.j0])
              | succ kj12 =>
                have H := HA.out
                clear HA
                simp only [boltinglaw02_FoldLists.j0] at H
                by_cases c35 : x44_12 = true
                · subst c35
                  have H1 : (some false) = some r := by rw [if_pos rfl] at H; exact H
                  clear H
                  have H := H1
                  clear H1
                  obtain rfl := Option.some.inj H
                  go_wp2
                  go_ret
                  exact ⟨by first | rfl | (simp [errW_none, errW_some] <;> rfl) | (simp only [← hji4, ← hji7]; first | rfl | (simp [errW_none, errW_some] <;> rfl)) | (simp [*, errW_none, errW_some] <;> rfl), by repeat (first | (with_reducible first | exact HB.out | apply below_alloc | apply pw_below_drewN | apply below_drew1) | exact HB.out)⟩
                · replace c35 := Bool.eq_false_iff.mpr c35
                  subst c35
                  have H1 : ((boltingref02_Sorted.f kj12 y284).bind fun t312 => ((fold_Find.f t312 a2).bind fun bt315 => ((boltingref02_Sorted.f kj12 y284).bind fun t317 => ((boltingref02_Below.f kj12 t317 a2).bind fun t320 => (if bt315.1 = t320 then ((boltingref02_Has.f kj12 y284 a2).bind fun t321 => (boltinglaw02_FoldLists.j1 kj12 y284 y295 t298 t301 (bt315.2 != t321))) else (boltinglaw02_FoldLists.j1 kj12 y284 y295 t298 t301 true)))))) = some r := by rw [if_neg (show ¬ (false = true) by decide)] at H; exact H
                  clear H
                  have H := H1
                  clear H1
                  replace H := Option.bind_eq_some_iff.mp H
                  obtain ⟨t312, A360, H⟩ := H
                  replace H : ((fold_Find.f t312 a2).bind fun bt315 => ((boltingref02_Sorted.f kj12 y284).bind fun t317 => ((boltingref02_Below.f kj12 t317 a2).bind fun t320 => (if bt315.1 = t320 then ((boltingref02_Has.f kj12 y284 a2).bind fun t321 => (boltinglaw02_FoldLists.j1 kj12 y284 y295 t298 t301 (bt315.2 != t321))) else (boltinglaw02_FoldLists.j1 kj12 y284 y295 t298 t301 true))))) = some r := H
                  have A36 := Aside0.mk A360
                  clear A360
                  replace H := Option.bind_eq_some_iff.mp H
                  obtain ⟨⟨t315, t316⟩, A370, H⟩ := H
                  replace H : ((boltingref02_Sorted.f kj12 y284).bind fun t317 => ((boltingref02_Below.f kj12 t317 a2).bind fun t320 => (if t315 = t320 then ((boltingref02_Has.f kj12 y284 a2).bind fun t321 => (boltinglaw02_FoldLists.j1 kj12 y284 y295 t298 t301 (t316 != t321))) else (boltinglaw02_FoldLists.j1 kj12 y284 y295 t298 t301 true)))) = some r := H
                  have A37 := Aside0.mk A370
                  clear A370
                  have HC38 := Aside0.mk H
                  clear H
                  go_upto_region 9 with (first | ((fail_if_success (have z_ := HO314)); (with_reducible refine gate_callee (f := 25) rfl ?_); refine goesL_ (some 47) rfl rfl Try.func25 (by kernel_rfl) rfl #[.slice A0 y284.length c0] rfl (by (try simp only [List.map_toArray, List.map_cons, List.map_nil]); first | done | rfl | (simp only [List.length_drop, List.length_take]; rfl)) ?_; (with_reducible refine (boltingref02_Sorted.calls kj12 _ _ y284 t312 _ ?side1 ?side2 A36.out).mono ?_); (case side1 => repeat (first | exact (Kd.C_below HR287.out HB.out) | (with_reducible refine Kd.C_alloc ?_ _) | (with_reducible refine Kd.C_drewN ?_ _) | (with_reducible refine Kd.C_drew ?_))); (case side2 => exact HC287.out); rintro e w39 ⟨v313, rfl, ho0, hb⟩; refine ⟨_, rfl, ?_⟩; have n0_ := Aside0.mk (Kd.R_elder' (by (with_reducible repeat (first | apply Kd.R_alloc | apply Kd.R_drewN | apply Kd.R_drew)); exact HO_7.out) (Kd.R_base ho0) hb); have n1_ := Aside0.mk (Kd.R_elder' (by (with_reducible repeat (first | apply Kd.R_alloc | apply Kd.R_drewN | apply Kd.R_drew)); exact HO_8.out) (Kd.R_base ho0) hb); have n2_ := Aside0.mk (Kd.R_elder' (by (with_reducible repeat (first | apply Kd.R_alloc | apply Kd.R_drewN | apply Kd.R_drew)); exact HO_9.out) (Kd.R_base ho0) hb); have n3_ := Aside0.mk (Kd.R_lower (Kd.R_new' (Kd.R_new' (Kd.R_new' ho0 (Kd.R_lt (by (with_reducible repeat (first | apply Kd.R_alloc | apply Kd.R_drewN | apply Kd.R_drew)); exact HO_7.out))) (Kd.R_lt (by (with_reducible repeat (first | apply Kd.R_alloc | apply Kd.R_drewN | apply Kd.R_drew)); exact HO_8.out))) (Kd.R_lt (by (with_reducible repeat (first | apply Kd.R_alloc | apply Kd.R_drewN | apply Kd.R_drew)); exact HO_9.out))) (below_size (by repeat (first | (with_reducible first | exact HB.out | apply below_alloc | apply pw_below_drewN | apply below_drew1) | exact HB.out)))); have n4_ := Aside0.mk (below_step (by repeat (first | (with_reducible first | exact HB.out | apply below_alloc | apply pw_below_drewN | apply below_drew1) | exact HB.out)) hb); clear HO_7; clear HO_8; clear HO_9; clear HB; have HO_7 := n0_; have HO_8 := n1_; have HO_9 := n2_; have HO314 := n3_; have HB := n4_; clear n0_ n1_ n2_ n3_ n4_; (try clear hb); (try clear hb2); (try clear hk); (try clear hi); (try clear ho0); obtain ⟨Ao40, co40, eo40⟩ := Kd.R_slice HO314.out; subst eo40) | ((with_reducible refine gate_callee (f := 27) rfl ?_); refine goesL_ (some 49) rfl rfl Try.func27 (by kernel_rfl) rfl #[.slice Ao40 t312.length co40, .string a2] rfl (by (try simp only [List.map_toArray, List.map_cons, List.map_nil]); first | done | rfl | (simp only [List.length_drop, List.length_take]; rfl)) ?_; (with_reducible refine (fold_Find.calls _ _ t312 a2 t315 t316 _ ?side1 ?side2 A37.out).mono ?_); (case side1 => repeat (first | exact (Kd.R_reads' HO314.out).2.2 | (with_reducible refine Kd.C_alloc ?_ _) | (with_reducible refine Kd.C_drewN ?_ _) | (with_reducible refine Kd.C_drew ?_))); (case side2 => exact (Kd.R_reads' HO314.out).2.1); rintro e w41 ⟨rfl, hb⟩; refine ⟨_, rfl, ?_⟩; have n0_ := Aside0.mk (Kd.R_below (by (with_reducible repeat (first | apply Kd.R_alloc | apply Kd.R_drewN | apply Kd.R_drew)); exact HO_7.out) hb); have n1_ := Aside0.mk (Kd.R_below (by (with_reducible repeat (first | apply Kd.R_alloc | apply Kd.R_drewN | apply Kd.R_drew)); exact HO_8.out) hb); have n2_ := Aside0.mk (Kd.R_below (by (with_reducible repeat (first | apply Kd.R_alloc | apply Kd.R_drewN | apply Kd.R_drew)); exact HO_9.out) hb); have n3_ := Aside0.mk (Kd.R_below (by (with_reducible repeat (first | apply Kd.R_alloc | apply Kd.R_drewN | apply Kd.R_drew)); exact HO314.out) hb); have n4_ := Aside0.mk (below_step (by repeat (first | (with_reducible first | exact HB.out | apply below_alloc | apply pw_below_drewN | apply below_drew1) | exact HB.out)) hb); clear HO_7; clear HO_8; clear HO_9; clear HO314; clear HB; have HO_7 := n0_; have HO_8 := n1_; have HO_9 := n2_; have HO314 := n3_; have HB := n4_; clear n0_ n1_ n2_ n3_ n4_; (try clear hb); (try clear hb2); (try clear hk); (try clear hi)))
                  (try simp only [Act.put, List.setIfInBounds_toArray, List.set_cons_zero, List.set_cons_succ])
                  go_cut [64] (fun v64 wc => ∃ (kq : Nat) (x64_37 : Bool), v64 = .bool x64_37 ∧ Aside0 (boltinglaw02_FoldLists.j1 kq y284 y295 t298 t301 x64_37 = some r) ∧ Aside0 (kq ≤ kj12) ∧ Aside0 (Kd.R Kd.string 9 wc w.heap.size (fun k_ => some k_ ≠ (v299 : Value).ownBlock ∧ some k_ ≠ (v302 : Value).ownBlock) v296 y295) ∧ Aside0 (Kd.R Kd.string 9 wc w.heap.size (fun k_ => some k_ ≠ (v296 : Value).ownBlock ∧ some k_ ≠ (v302 : Value).ownBlock) v299 t298) ∧ Aside0 (Kd.R Kd.string 9 wc w.heap.size (fun k_ => some k_ ≠ (v296 : Value).ownBlock ∧ some k_ ≠ (v299 : Value).ownBlock) v302 t301) ∧ Aside0 (Below w.heap.size w wc))
                  case first =>
                    have H := HC38.out
                    clear HC38
                    replace H := Option.bind_eq_some_iff.mp H
                    obtain ⟨t317, A420, H⟩ := H
                    replace H : ((boltingref02_Below.f kj12 t317 a2).bind fun t320 => (if t315 = t320 then ((boltingref02_Has.f kj12 y284 a2).bind fun t321 => (boltinglaw02_FoldLists.j1 kj12 y284 y295 t298 t301 (t316 != t321))) else (boltinglaw02_FoldLists.j1 kj12 y284 y295 t298 t301 true))) = some r := H
                    have A42 := Aside0.mk A420
                    clear A420
                    replace H := Option.bind_eq_some_iff.mp H
                    obtain ⟨t320, A430, H⟩ := H
                    replace H : (if t315 = t320 then ((boltingref02_Has.f kj12 y284 a2).bind fun t321 => (boltinglaw02_FoldLists.j1 kj12 y284 y295 t298 t301 (t316 != t321))) else (boltinglaw02_FoldLists.j1 kj12 y284 y295 t298 t301 true)) = some r := H
                    have A43 := Aside0.mk A430
                    clear A430
                    by_cases c44 : t315 = t320
                    · rw [if_pos c44] at H
                      have c44b0 : (t315 == t320) = true := beq_iff_eq.mpr c44
                      have c44b1 : (t315 != t320) = false := bne_eq_false_iff_eq.mpr c44
                      clear c44
                      (first | rw [c44b0] | (simp only [i64_w, i32_w]; rw [c44b0]) | skip)
                      replace H := Option.bind_eq_some_iff.mp H
                      obtain ⟨t321, A450, H⟩ := H
                      replace H : (boltinglaw02_FoldLists.j1 kj12 y284 y295 t298 t301 (t316 != t321)) = some r := H
                      have A45 := Aside0.mk A450
                      clear A450
                      have H' := Aside0.mk H
                      clear H
                      go_wp2_with (first | ((fail_if_success (have z_ := HO319)); (with_reducible refine gate_callee (f := 25) rfl ?_); refine goesL_ (some 54) rfl rfl Try.func25 (by kernel_rfl) rfl #[.slice A0 y284.length c0] rfl (by (try simp only [List.map_toArray, List.map_cons, List.map_nil]); first | done | rfl | (simp only [List.length_drop, List.length_take]; rfl)) ?_; (with_reducible refine (boltingref02_Sorted.calls kj12 _ _ y284 t317 _ ?side1 ?side2 A42.out).mono ?_); (case side1 => repeat (first | exact (Kd.C_below HR287.out HB.out) | (with_reducible refine Kd.C_alloc ?_ _) | (with_reducible refine Kd.C_drewN ?_ _) | (with_reducible refine Kd.C_drew ?_))); (case side2 => exact HC287.out); rintro e w46 ⟨v318, rfl, ho0, hb⟩; refine ⟨_, rfl, ?_⟩; have n0_ := Aside0.mk (Kd.R_elder' (by (with_reducible repeat (first | apply Kd.R_alloc | apply Kd.R_drewN | apply Kd.R_drew)); exact HO_7.out) (Kd.R_base ho0) hb); have n1_ := Aside0.mk (Kd.R_elder' (by (with_reducible repeat (first | apply Kd.R_alloc | apply Kd.R_drewN | apply Kd.R_drew)); exact HO_8.out) (Kd.R_base ho0) hb); have n2_ := Aside0.mk (Kd.R_elder' (by (with_reducible repeat (first | apply Kd.R_alloc | apply Kd.R_drewN | apply Kd.R_drew)); exact HO_9.out) (Kd.R_base ho0) hb); have n3_ := Aside0.mk (Kd.R_elder' (by (with_reducible repeat (first | apply Kd.R_alloc | apply Kd.R_drewN | apply Kd.R_drew)); exact HO314.out) (Kd.R_base ho0) hb); have n4_ := Aside0.mk (Kd.R_lower (Kd.R_new' (Kd.R_new' (Kd.R_new' (Kd.R_new' ho0 (Kd.R_lt (by (with_reducible repeat (first | apply Kd.R_alloc | apply Kd.R_drewN | apply Kd.R_drew)); exact HO_7.out))) (Kd.R_lt (by (with_reducible repeat (first | apply Kd.R_alloc | apply Kd.R_drewN | apply Kd.R_drew)); exact HO_8.out))) (Kd.R_lt (by (with_reducible repeat (first | apply Kd.R_alloc | apply Kd.R_drewN | apply Kd.R_drew)); exact HO_9.out))) (Kd.R_lt (by (with_reducible repeat (first | apply Kd.R_alloc | apply Kd.R_drewN | apply Kd.R_drew)); exact HO314.out))) (below_size (by repeat (first | (with_reducible first | exact HB.out | apply below_alloc | apply pw_below_drewN | apply below_drew1) | exact HB.out)))); have n5_ := Aside0.mk (below_step (by repeat (first | (with_reducible first | exact HB.out | apply below_alloc | apply pw_below_drewN | apply below_drew1) | exact HB.out)) hb); clear HO_7; clear HO_8; clear HO_9; clear HO314; clear HB; have HO_7 := n0_; have HO_8 := n1_; have HO_9 := n2_; have HO314 := n3_; have HO319 := n4_; have HB := n5_; clear n0_ n1_ n2_ n3_ n4_ n5_; (try clear hb); (try clear hb2); (try clear hk); (try clear hi); (try clear ho0); obtain ⟨Ao47, co47, eo47⟩ := Kd.R_slice HO319.out; subst eo47) | ((with_reducible refine gate_callee (f := 28) rfl ?_); refine goesL_ (some 56) rfl rfl Try.func28 (by kernel_rfl) rfl #[.slice Ao47 t317.length co47, .string a2] rfl (by (try simp only [List.map_toArray, List.map_cons, List.map_nil]); first | done | rfl | (simp only [List.length_drop, List.length_take]; rfl)) ?_; (with_reducible refine (boltingref02_Below.calls kj12 _ _ t317 a2 t320 _ ?side1 ?side2 A43.out).mono ?_); (case side1 => repeat (first | exact (Kd.R_reads' HO319.out).2.2 | (with_reducible refine Kd.C_alloc ?_ _) | (with_reducible refine Kd.C_drewN ?_ _) | (with_reducible refine Kd.C_drew ?_))); (case side2 => exact (Kd.R_reads' HO319.out).2.1); rintro e w' ⟨rfl, ⟨nd, rfl⟩⟩; refine ⟨_, rfl, ?_⟩) | (go_at_call 29; (with_reducible refine (boltingref02_Has.calls kj12 _ _ y284 a2 t321 _ ?side1 ?side2 A45.out).mono ?_); (case side1 => repeat (first | exact (Kd.C_below HR287.out (by repeat (first | (with_reducible first | exact HB.out | apply below_alloc | apply pw_below_drewN | apply below_drew1) | exact HB.out))) | (with_reducible refine Kd.C_alloc ?_ _) | (with_reducible refine Kd.C_drewN ?_ _) | (with_reducible refine Kd.C_drew ?_))); (case side2 => exact HC287.out); rintro e w' ⟨rfl, ⟨nd, rfl⟩⟩))
                      go_meet
                      case rel => exact ⟨_, ((t316 != t321)), (by first | rfl | (simp; done) | (simp [*]; done)), H', ⟨by have := HJ12.out; first | omega | exact Nat.le_refl _⟩, ⟨by (with_reducible repeat (first | apply Kd.R_alloc | apply Kd.R_drewN | apply Kd.R_drew)); exact Kd.R_mono HO_7.out (fun _ hk => ⟨hk.1.1.1, hk.1.1.2⟩)⟩, ⟨by (with_reducible repeat (first | apply Kd.R_alloc | apply Kd.R_drewN | apply Kd.R_drew)); exact Kd.R_mono HO_8.out (fun _ hk => ⟨hk.1.1.1, hk.1.1.2⟩)⟩, ⟨by (with_reducible repeat (first | apply Kd.R_alloc | apply Kd.R_drewN | apply Kd.R_drew)); exact Kd.R_mono HO_9.out (fun _ hk => ⟨hk.1.1.1, hk.1.1.2⟩)⟩, ⟨by repeat (first | (with_reducible first | exact HB.out | apply below_alloc | apply pw_below_drewN | apply below_drew1) | exact HB.out)⟩⟩
                    · rw [if_neg c44] at H
                      have c44b0 : (t315 == t320) = false := beq_eq_false_iff_ne.mpr c44
                      have c44b1 : (t315 != t320) = true := bne_iff_ne.mpr c44
                      (first | rw [c44b0] | (simp only [i64_w, i32_w]; rw [c44b0]) | skip)
                      have H' := Aside0.mk H
                      clear H
                      go_wp2_with (first | ((fail_if_success (have z_ := HO319)); (with_reducible refine gate_callee (f := 25) rfl ?_); refine goesL_ (some 54) rfl rfl Try.func25 (by kernel_rfl) rfl #[.slice A0 y284.length c0] rfl (by (try simp only [List.map_toArray, List.map_cons, List.map_nil]); first | done | rfl | (simp only [List.length_drop, List.length_take]; rfl)) ?_; (with_reducible refine (boltingref02_Sorted.calls kj12 _ _ y284 t317 _ ?side1 ?side2 A42.out).mono ?_); (case side1 => repeat (first | exact (Kd.C_below HR287.out HB.out) | (with_reducible refine Kd.C_alloc ?_ _) | (with_reducible refine Kd.C_drewN ?_ _) | (with_reducible refine Kd.C_drew ?_))); (case side2 => exact HC287.out); rintro e w48 ⟨v318, rfl, ho0, hb⟩; refine ⟨_, rfl, ?_⟩; have n0_ := Aside0.mk (Kd.R_elder' (by (with_reducible repeat (first | apply Kd.R_alloc | apply Kd.R_drewN | apply Kd.R_drew)); exact HO_7.out) (Kd.R_base ho0) hb); have n1_ := Aside0.mk (Kd.R_elder' (by (with_reducible repeat (first | apply Kd.R_alloc | apply Kd.R_drewN | apply Kd.R_drew)); exact HO_8.out) (Kd.R_base ho0) hb); have n2_ := Aside0.mk (Kd.R_elder' (by (with_reducible repeat (first | apply Kd.R_alloc | apply Kd.R_drewN | apply Kd.R_drew)); exact HO_9.out) (Kd.R_base ho0) hb); have n3_ := Aside0.mk (Kd.R_elder' (by (with_reducible repeat (first | apply Kd.R_alloc | apply Kd.R_drewN | apply Kd.R_drew)); exact HO314.out) (Kd.R_base ho0) hb); have n4_ := Aside0.mk (Kd.R_lower (Kd.R_new' (Kd.R_new' (Kd.R_new' (Kd.R_new' ho0 (Kd.R_lt (by (with_reducible repeat (first | apply Kd.R_alloc | apply Kd.R_drewN | apply Kd.R_drew)); exact HO_7.out))) (Kd.R_lt (by (with_reducible repeat (first | apply Kd.R_alloc | apply Kd.R_drewN | apply Kd.R_drew)); exact HO_8.out))) (Kd.R_lt (by (with_reducible repeat (first | apply Kd.R_alloc | apply Kd.R_drewN | apply Kd.R_drew)); exact HO_9.out))) (Kd.R_lt (by (with_reducible repeat (first | apply Kd.R_alloc | apply Kd.R_drewN | apply Kd.R_drew)); exact HO314.out))) (below_size (by repeat (first | (with_reducible first | exact HB.out | apply below_alloc | apply pw_below_drewN | apply below_drew1) | exact HB.out)))); have n5_ := Aside0.mk (below_step (by repeat (first | (with_reducible first | exact HB.out | apply below_alloc | apply pw_below_drewN | apply below_drew1) | exact HB.out)) hb); clear HO_7; clear HO_8; clear HO_9; clear HO314; clear HB; have HO_7 := n0_; have HO_8 := n1_; have HO_9 := n2_; have HO314 := n3_; have HO319 := n4_; have HB := n5_; clear n0_ n1_ n2_ n3_ n4_ n5_; (try clear hb); (try clear hb2); (try clear hk); (try clear hi); (try clear ho0); obtain ⟨Ao49, co49, eo49⟩ := Kd.R_slice HO319.out; subst eo49) | ((with_reducible refine gate_callee (f := 28) rfl ?_); refine goesL_ (some 56) rfl rfl Try.func28 (by kernel_rfl) rfl #[.slice Ao49 t317.length co49, .string a2] rfl (by (try simp only [List.map_toArray, List.map_cons, List.map_nil]); first | done | rfl | (simp only [List.length_drop, List.length_take]; rfl)) ?_; (with_reducible refine (boltingref02_Below.calls kj12 _ _ t317 a2 t320 _ ?side1 ?side2 A43.out).mono ?_); (case side1 => repeat (first | exact (Kd.R_reads' HO319.out).2.2 | (with_reducible refine Kd.C_alloc ?_ _) | (with_reducible refine Kd.C_drewN ?_ _) | (with_reducible refine Kd.C_drew ?_))); (case side2 => exact (Kd.R_reads' HO319.out).2.1); rintro e w' ⟨rfl, ⟨nd, rfl⟩⟩; refine ⟨_, rfl, ?_⟩))
                      go_meet
                      case rel => exact ⟨_, (true), (by first | rfl | (simp; done) | (simp [*]; done)), H', ⟨by have := HJ12.out; first | omega | exact Nat.le_refl _⟩, ⟨by (with_reducible repeat (first | apply Kd.R_alloc | apply Kd.R_drewN | apply Kd.R_drew)); exact Kd.R_mono HO_7.out (fun _ hk => ⟨hk.1.1.1, hk.1.1.2⟩)⟩, ⟨by (with_reducible repeat (first | apply Kd.R_alloc | apply Kd.R_drewN | apply Kd.R_drew)); exact Kd.R_mono HO_8.out (fun _ hk => ⟨hk.1.1.1, hk.1.1.2⟩)⟩, ⟨by (with_reducible repeat (first | apply Kd.R_alloc | apply Kd.R_drewN | apply Kd.R_drew)); exact Kd.R_mono HO_9.out (fun _ hk => ⟨hk.1.1.1, hk.1.1.2⟩)⟩, ⟨by repeat (first | (with_reducible first | exact HB.out | apply below_alloc | apply pw_below_drewN | apply below_drew1) | exact HB.out)⟩⟩
                  case rest =>
                    clear HC38
                    try clear c1
                    try clear q1
                    try clear c2
                    try clear p2
                    try clear c3
                    try clear c4
                    try clear c5
                    try clear c5b0
                    try clear c5b1
                    try clear c6
                    try clear c6b0
                    try clear c6b1
                    try clear c8
                    try clear c8b0
                    try clear c8b1
                    try clear c9
                    try clear c9b0
                    try clear c9b1
                    try clear c10
                    try clear q14
                    try clear q15
                    try clear c19
                    try clear c23
                    try clear c24
                    try clear c25
                    try clear c27
                    try clear c28
                    try clear c35
                    try clear c44
                    try clear c44b0
                    try clear c44b1
                    try clear p2
                    try clear q1
                    try clear q14
                    try clear q15
                    obtain ⟨kq, x64_37, rfl, HA, HJ37, HO_7, HO_8, HO_9, HB⟩ := hcut
                    cases kq with
                    | zero => exact absurd HA.out (by simp [boltinglaw02_FoldLists.j1])
                    | succ kj37 =>
                      have H := HA.out
                      clear HA
                      simp only [boltinglaw02_FoldLists.j1] at H
                      by_cases c50 : x64_37 = true
                      · subst c50
                        have H1 : (some false) = some r := by rw [if_pos rfl] at H; exact H
                        clear H
                        have H := H1
                        clear H1
                        obtain rfl := Option.some.inj H
                        go_wp2
                        go_ret
                        exact ⟨by first | rfl | (simp [errW_none, errW_some] <;> rfl) | (simp only [← hji4, ← hji7]; first | rfl | (simp [errW_none, errW_some] <;> rfl)) | (simp [*, errW_none, errW_some] <;> rfl), by repeat (first | (with_reducible first | exact HB.out | apply below_alloc | apply pw_below_drewN | apply below_drew1) | exact HB.out)⟩
                      · replace c50 := Bool.eq_false_iff.mpr c50
                        subst c50
                        have H1 : (boltinglaw02_FoldLists.l0 kj37 y284 y295 t298 t301 0) = some r := by rw [if_neg (show ¬ (false = true) by decide)] at H; exact H
                        clear H
                        have H := H1
                        clear H1
                        have H' := Aside0.mk H
                        clear H
                        go_wp2
                        go_loopg [12] kj37 (fun kq v12 w' => ∃ (x8_3 : List ByteArray) (x12_3 : Int), v12 = .int .i64 x12_3 ∧ Aside0 (boltinglaw02_FoldLists.l0 kq y284 y295 x8_3 t301 x12_3 = some r) ∧ Aside0 (kq ≤ kj37) ∧ Aside0 (Kd.R Kd.string 9 w' w.heap.size (fun k_ => some k_ ≠ (v299 : Value).ownBlock ∧ some k_ ≠ (v302 : Value).ownBlock) v296 y295) ∧ Aside0 (Kd.R Kd.string 9 w' w.heap.size (fun k_ => some k_ ≠ (v296 : Value).ownBlock ∧ some k_ ≠ (v302 : Value).ownBlock) v299 x8_3) ∧ Aside0 (Kd.R Kd.string 9 w' w.heap.size (fun k_ => some k_ ≠ (v296 : Value).ownBlock ∧ some k_ ≠ (v299 : Value).ownBlock) v302 t301) ∧ Aside0 (Below w.heap.size w w'))
                        case atStart => exact ⟨(t298), (0), (by first | rfl | (simp; done) | (simp [*]; done)), H', ⟨Nat.le_refl _⟩, ⟨by (with_reducible repeat (first | apply Kd.R_alloc | apply Kd.R_drewN | apply Kd.R_drew)); exact HO_7.out⟩, ⟨by (with_reducible repeat (first | apply Kd.R_alloc | apply Kd.R_drewN | apply Kd.R_drew)); exact HO_8.out⟩, ⟨by (with_reducible repeat (first | apply Kd.R_alloc | apply Kd.R_drewN | apply Kd.R_drew)); exact HO_9.out⟩, ⟨by repeat (first | (with_reducible first | exact HB.out | apply below_alloc | apply pw_below_drewN | apply below_drew1) | exact HB.out)⟩⟩
                        case round =>
                          clear H'
                          try clear c1
                          try clear q1
                          try clear c2
                          try clear p2
                          try clear c3
                          try clear c4
                          try clear c5
                          try clear c5b0
                          try clear c5b1
                          try clear c6
                          try clear c6b0
                          try clear c6b1
                          try clear c8
                          try clear c8b0
                          try clear c8b1
                          try clear c9
                          try clear c9b0
                          try clear c9b1
                          try clear c10
                          try clear q14
                          try clear q15
                          try clear c19
                          try clear c23
                          try clear c24
                          try clear c25
                          try clear c27
                          try clear c28
                          try clear c35
                          try clear c44
                          try clear c44b0
                          try clear c44b1
                          try clear c50
                          try clear p2
                          try clear q1
                          try clear q14
                          try clear q15
                          obtain ⟨x8_3, x12_3, rfl, HA, HK3, HO_7, HO_8, HO_9, HB⟩ := hrel
                          cases gk with
                          | zero => exact absurd HA.out (by simp [boltinglaw02_FoldLists.l0])
                          | succ k3 =>
                            have H := HA.out
                            clear HA
                            simp only [boltinglaw02_FoldLists.l0] at H
                            by_cases c51 : x12_3 < (x8_3.length : Int)
                            · rw [if_pos c51] at H
                              have c51b0 : decide (x12_3 < (x8_3.length : Int)) = true := decide_eq_true c51
                              clear c51
                              by_cases c52 : 0 ≤ x12_3
                              · rw [if_pos c52] at H
                                have c52b0 : decide (0 ≤ x12_3) = true := decide_eq_true c52
                                clear c52
                                obtain ⟨y322, hy322⟩ : ∃ y_ : List ByteArray, y_ = (x8_3.set (x12_3 : Int).toNat (⟨#[]⟩ : ByteArray)) := ⟨_, rfl⟩
                                replace H : (boltinglaw02_FoldLists.l0 k3 y284 y295 y322 t301 (wrap64 (x12_3 + 1))) = some r := by first | (rw [hy322]; with_reducible exact H) | (have H2_ := (Option.bind_some _ _).symm.trans H; rw [hy322]; with_reducible exact H2_) | (have H2_ := (Option.bind_some _ _).symm.trans H; with_reducible exact H2_) | with_reducible exact H | (rw [hy322]; exact H) | exact H
                                have Ny322 := Aside0.mk hy322
                                clear hy322
                                have H' := Aside0.mk H
                                clear H
                                obtain ⟨Ao54, co54, eo54⟩ := Kd.R_slice HO_8.out
                                subst eo54
                                have p53 : 0 ≤ (x12_3 : Int) := of_decide_eq_true (by first | (with_reducible assumption) | assumption)
                                have q53 : (x12_3 : Int) < ((x8_3.length : Int) : Int) := of_decide_eq_true (by first | (with_reducible assumption) | assumption)
                                obtain ⟨go53, co53, eo53, gb53, gl53, cl53, HG53⟩ := Kd.R_form HO_8.out (by omega)
                                (first | cases eo53 | (injection eo53 with ea_ en_ ec_; (first | subst ea_ | (injection ea_ with ea_; subst ea_)); subst ec_; clear en_))
                                have GB53 := Aside0.mk gb53
                                have GG53 := Aside0.mk HG53
                                clear gb53 gl53 HG53
                                obtain ⟨hx53_0, hf53_0⟩ := Kd.R_celln (⟨#[]⟩ : ByteArray) HO_8.out (x12_3 : Int) p53 q53
                                replace p53 := eq_true p53
                                replace q53 := eq_true q53
                                have HP55 := Kd.R_putg HO_8.out (x12_3 : Int) (⟨#[]⟩ : ByteArray)
                                go_wp2_with (first | ((with_reducible refine gate_store (t := 9) (p := 73) rfl ?_); refine store_event (t := 9) (p := 73) (v := ?vo_w56) (w1 := (wr.setCell ⟨go53, (x12_3 : Int).toNat, none⟩ (.string (⟨#[]⟩ : ByteArray)))) ?hg ?ho ?hn ?hr ?_; (case ho => rfl); (case hg => rfl); (case hn => rfl); (case hr => first | (go_simp; done) | (go_simp; rfl)); intro w56 hw; have hg : wr.grownBy w56 (some go53) := (by rw [hw]; exact HP55.2); have hp_ : Kd.R Kd.string 9 w56 w.heap.size (fun k_ => some k_ ≠ (v296 : Value).ownBlock ∧ some k_ ≠ (v302 : Value).ownBlock) (.slice (some ⟨go53, 0, none⟩) x8_3.length co54) y322 := (by rw [hw, Ny322.out]; exact HP55.1); clear HP55; have n0_ := Aside0.mk (Kd.R_after (v := (.slice (some ⟨go53, 0, none⟩) x8_3.length co54)) (v1 := (.slice (some ⟨go53, 0, none⟩) x8_3.length co54)) (ok := (fun k_ => some k_ ≠ (v302 : Value).ownBlock)) (by (with_reducible repeat (first | apply Kd.R_alloc | apply Kd.R_drewN | apply Kd.R_drew)); exact Kd.R_mono HO_7.out (fun _ hk => ⟨hk.2, hk.1⟩)) hg (.inl rfl)); have n1_ := Aside0.mk (hp_); have n2_ := Aside0.mk (Kd.R_after (v := (.slice (some ⟨go53, 0, none⟩) x8_3.length co54)) (v1 := (.slice (some ⟨go53, 0, none⟩) x8_3.length co54)) (ok := (fun k_ => some k_ ≠ (v296 : Value).ownBlock)) (by (with_reducible repeat (first | apply Kd.R_alloc | apply Kd.R_drewN | apply Kd.R_drew)); exact HO_9.out) hg (.inl rfl)); have n3_ := Aside0.mk ((by rw [hw]; exact below_set (HB.out) GB53.out : Below w.heap.size w w56)); clear HO_7; clear HO_8; clear HO_9; clear HB; have HO_7 := n0_; have HO_8 := n1_; have HO_9 := n2_; have HB := n3_; clear n0_ n1_ n2_ n3_; clear hg hw hp_))
                                go_roundg k3
                                case measure => have := HJ12.out; have := HJ37.out; have := HK3.out; omega
                                case rel => exact ⟨(y322), (wrap64 (x12_3 + 1)), (by first | rfl | (simp; done) | (simp [*]; done)), H', ⟨by have := HJ12.out; have := HJ37.out; have := HK3.out; omega⟩, ⟨by (with_reducible repeat (first | apply Kd.R_alloc | apply Kd.R_drewN | apply Kd.R_drew)); exact Kd.R_mono HO_7.out (fun _ hk => ⟨hk.2, hk.1⟩)⟩, ⟨by (with_reducible repeat (first | apply Kd.R_alloc | apply Kd.R_drewN | apply Kd.R_drew)); exact HO_8.out⟩, ⟨by (with_reducible repeat (first | apply Kd.R_alloc | apply Kd.R_drewN | apply Kd.R_drew)); exact HO_9.out⟩, ⟨by repeat (first | (with_reducible first | exact HB.out | apply below_alloc | apply pw_below_drewN | apply below_drew1) | exact HB.out)⟩⟩
                              · rw [if_neg c52] at H
                                exact absurd H (by simp)
                            · rw [if_neg c51] at H
                              have c51b0 : decide (x12_3 < (x8_3.length : Int)) = false := decide_eq_false c51
                              clear c51
                              have H' := Aside0.mk H
                              clear H
                              obtain ⟨Ao57, co57, eo57⟩ := Kd.R_slice HO_8.out
                              subst eo57
                              go_wp2
                              go_loopg [13] k3 (fun kq v13 w' => ∃ (x9_4 : List ByteArray) (x13_4 : Int), v13 = .int .i64 x13_4 ∧ Aside0 (boltinglaw02_FoldLists.l1 kq y284 y295 x9_4 x13_4 = some r) ∧ Aside0 (kq ≤ k3) ∧ Aside0 (Kd.R Kd.string 9 w' w.heap.size (fun k_ => some k_ ≠ (v302 : Value).ownBlock) v296 y295) ∧ Aside0 (Kd.R Kd.string 9 w' w.heap.size (fun k_ => some k_ ≠ (v296 : Value).ownBlock) v302 x9_4) ∧ Aside0 (Below w.heap.size w w'))
                              case atStart => exact ⟨(t301), (0), (by first | rfl | (simp; done) | (simp [*]; done)), H', ⟨Nat.le_refl _⟩, ⟨by (with_reducible repeat (first | apply Kd.R_alloc | apply Kd.R_drewN | apply Kd.R_drew)); exact Kd.R_mono HO_7.out (fun _ hk => hk.2)⟩, ⟨by (with_reducible repeat (first | apply Kd.R_alloc | apply Kd.R_drewN | apply Kd.R_drew)); exact Kd.R_mono HO_9.out (fun _ hk => hk.1)⟩, ⟨by repeat (first | (with_reducible first | exact HB.out | apply below_alloc | apply pw_below_drewN | apply below_drew1) | exact HB.out)⟩⟩
                              case round =>
                                clear H'
                                try clear c1
                                try clear q1
                                try clear c2
                                try clear p2
                                try clear c3
                                try clear c4
                                try clear c5
                                try clear c5b0
                                try clear c5b1
                                try clear p5
                                try clear q5
                                try clear hx5
                                try clear hf5
                                try clear c6
                                try clear c6b0
                                try clear c6b1
                                try clear p6
                                try clear c8
                                try clear c8b0
                                try clear c8b1
                                try clear c9
                                try clear c9b0
                                try clear c9b1
                                try clear c10
                                try clear q14
                                try clear q15
                                try clear c19
                                try clear c23
                                try clear c24
                                try clear c25
                                try clear c27
                                try clear c28
                                try clear c35
                                try clear c44
                                try clear c44b0
                                try clear c44b1
                                try clear c50
                                try clear c51
                                try clear c51b0
                                try clear c52
                                try clear c52b0
                                try clear p53
                                try clear q53
                                try clear hx53
                                try clear hf53
                                try clear hx53_0
                                try clear p2
                                try clear p53
                                try clear q1
                                try clear q14
                                try clear q15
                                try clear q53
                                obtain ⟨x9_4, x13_4, rfl, HA, HK4, HO_7, HO_9, HB⟩ := hrel
                                cases gk with
                                | zero => exact absurd HA.out (by simp [boltinglaw02_FoldLists.l1])
                                | succ k4 =>
                                  have H := HA.out
                                  clear HA
                                  simp only [boltinglaw02_FoldLists.l1] at H
                                  by_cases c58 : x13_4 < (x9_4.length : Int)
                                  · rw [if_pos c58] at H
                                    have c58b0 : decide (x13_4 < (x9_4.length : Int)) = true := decide_eq_true c58
                                    clear c58
                                    by_cases c59 : 0 ≤ x13_4
                                    · rw [if_pos c59] at H
                                      have c59b0 : decide (0 ≤ x13_4) = true := decide_eq_true c59
                                      clear c59
                                      obtain ⟨y323, hy323⟩ : ∃ y_ : List ByteArray, y_ = (x9_4.set (x13_4 : Int).toNat (⟨#[]⟩ : ByteArray)) := ⟨_, rfl⟩
                                      replace H : (boltinglaw02_FoldLists.l1 k4 y284 y295 y323 (wrap64 (x13_4 + 1))) = some r := by first | (rw [hy323]; with_reducible exact H) | (have H2_ := (Option.bind_some _ _).symm.trans H; rw [hy323]; with_reducible exact H2_) | (have H2_ := (Option.bind_some _ _).symm.trans H; with_reducible exact H2_) | with_reducible exact H | (rw [hy323]; exact H) | exact H
                                      have Ny323 := Aside0.mk hy323
                                      clear hy323
                                      have H' := Aside0.mk H
                                      clear H
                                      obtain ⟨Ao61, co61, eo61⟩ := Kd.R_slice HO_9.out
                                      subst eo61
                                      have p60 : 0 ≤ (x13_4 : Int) := of_decide_eq_true (by first | (with_reducible assumption) | assumption)
                                      have q60 : (x13_4 : Int) < ((x9_4.length : Int) : Int) := of_decide_eq_true (by first | (with_reducible assumption) | assumption)
                                      obtain ⟨go60, co60, eo60, gb60, gl60, cl60, HG60⟩ := Kd.R_form HO_9.out (by omega)
                                      (first | cases eo60 | (injection eo60 with ea_ en_ ec_; (first | subst ea_ | (injection ea_ with ea_; subst ea_)); subst ec_; clear en_))
                                      have GB60 := Aside0.mk gb60
                                      have GG60 := Aside0.mk HG60
                                      clear gb60 gl60 HG60
                                      obtain ⟨hx60_0, hf60_0⟩ := Kd.R_celln (⟨#[]⟩ : ByteArray) HO_9.out (x13_4 : Int) p60 q60
                                      replace p60 := eq_true p60
                                      replace q60 := eq_true q60
                                      have HP62 := Kd.R_putg HO_9.out (x13_4 : Int) (⟨#[]⟩ : ByteArray)
                                      go_wp2_with (first | ((with_reducible refine gate_store (t := 9) (p := 82) rfl ?_); refine store_event (t := 9) (p := 82) (v := ?vo_w63) (w1 := (wr.setCell ⟨go60, (x13_4 : Int).toNat, none⟩ (.string (⟨#[]⟩ : ByteArray)))) ?hg ?ho ?hn ?hr ?_; (case ho => rfl); (case hg => rfl); (case hn => rfl); (case hr => first | (go_simp; done) | (go_simp; rfl)); intro w63 hw; have hg : wr.grownBy w63 (some go60) := (by rw [hw]; exact HP62.2); have hp_ : Kd.R Kd.string 9 w63 w.heap.size (fun k_ => some k_ ≠ (v296 : Value).ownBlock) (.slice (some ⟨go60, 0, none⟩) x9_4.length co61) y323 := (by rw [hw, Ny323.out]; exact HP62.1); clear HP62; have n0_ := Aside0.mk (Kd.R_after (v := (.slice (some ⟨go60, 0, none⟩) x9_4.length co61)) (v1 := (.slice (some ⟨go60, 0, none⟩) x9_4.length co61)) (ok := (fun _ => True)) (by (with_reducible repeat (first | apply Kd.R_alloc | apply Kd.R_drewN | apply Kd.R_drew)); exact Kd.R_mono HO_7.out (fun _ hk => ⟨trivial, hk⟩)) hg (.inl rfl)); have n1_ := Aside0.mk (hp_); have n2_ := Aside0.mk ((by rw [hw]; exact below_set (HB.out) GB60.out : Below w.heap.size w w63)); clear HO_7; clear HO_9; clear HB; have HO_7 := n0_; have HO_9 := n1_; have HB := n2_; clear n0_ n1_ n2_; clear hg hw hp_))
                                      go_roundg k4
                                      case measure => have := HJ12.out; have := HJ37.out; have := HK3.out; have := HK4.out; omega
                                      case rel => exact ⟨(y323), (wrap64 (x13_4 + 1)), (by first | rfl | (simp; done) | (simp [*]; done)), H', ⟨by have := HJ12.out; have := HJ37.out; have := HK3.out; have := HK4.out; omega⟩, ⟨by (with_reducible repeat (first | apply Kd.R_alloc | apply Kd.R_drewN | apply Kd.R_drew)); exact Kd.R_mono HO_7.out (fun _ hk => hk.2)⟩, ⟨by (with_reducible repeat (first | apply Kd.R_alloc | apply Kd.R_drewN | apply Kd.R_drew)); exact HO_9.out⟩, ⟨by repeat (first | (with_reducible first | exact HB.out | apply below_alloc | apply pw_below_drewN | apply below_drew1) | exact HB.out)⟩⟩
                                    · rw [if_neg c59] at H
                                      exact absurd H (by simp)
                                  · rw [if_neg c58] at H
                                    have c58b0 : decide (x13_4 < (x9_4.length : Int)) = false := decide_eq_false c58
                                    clear c58
                                    replace H := Option.bind_eq_some_iff.mp H
                                    obtain ⟨t324, A640, H⟩ := H
                                    replace H : (if t324 = true then ((boltinglaw02_fixed.f k4).bind fun t325 => (some t325)) else (some false)) = some r := H
                                    have A64 := Aside0.mk A640
                                    clear A640
                                    by_cases c65 : t324 = true
                                    · subst c65
                                      have H1 : ((boltinglaw02_fixed.f k4).bind fun t325 => (some t325)) = some r := by rw [if_pos rfl] at H; exact H
                                      clear H
                                      have H := H1
                                      clear H1
                                      replace H := Option.bind_eq_some_iff.mp H
                                      obtain ⟨t325, A660, H⟩ := H
                                      replace H : (some t325) = some r := H
                                      have A66 := Aside0.mk A660
                                      clear A660
                                      obtain rfl := Option.some.inj H
                                      obtain ⟨Ao67, co67, eo67⟩ := Kd.R_slice HO_9.out
                                      subst eo67
                                      obtain ⟨Ao68, co68, eo68⟩ := Kd.R_slice HO_7.out
                                      subst eo68
                                      go_wp2_with (first | ((with_reducible refine gate_callee (f := 19) rfl ?_); refine goesL_ (some 85) rfl rfl Try.func19 (by kernel_rfl) rfl #[(.slice A0 y284.length c0), .slice Ao68 y295.length co68] rfl (by (try simp only [List.map_toArray, List.map_cons, List.map_nil]); first | done | rfl | (simp only [List.length_drop, List.length_take]; rfl)) ?_; (with_reducible refine (boltingref02_Equal.calls k4 _ _ y284 _ _ y295 true _ ?side1 ?side2 ?side3 ?side4 A64.out).mono ?_); (case side1 => repeat (first | exact (Kd.C_below HR287.out HB.out) | (with_reducible refine Kd.C_alloc ?_ _) | (with_reducible refine Kd.C_drewN ?_ _) | (with_reducible refine Kd.C_drew ?_))); (case side2 => exact HC287.out); (case side3 => repeat (first | exact (Kd.R_reads' HO_7.out).2.2 | (with_reducible refine Kd.C_alloc ?_ _) | (with_reducible refine Kd.C_drewN ?_ _) | (with_reducible refine Kd.C_drew ?_))); (case side4 => exact (Kd.R_reads' HO_7.out).2.1); rintro e w' ⟨rfl, ⟨nd, rfl⟩⟩; refine ⟨_, rfl, ?_⟩) | (go_at_call 10; (with_reducible refine (boltinglaw02_fixed.calls k4  t325 _ A66.out).mono ?_); rintro e w69 ⟨rfl, hb⟩; have n0_ := Aside0.mk (Kd.R_below (by (with_reducible repeat (first | apply Kd.R_alloc | apply Kd.R_drewN | apply Kd.R_drew)); exact HO_7.out) hb); have n1_ := Aside0.mk (Kd.R_below (by (with_reducible repeat (first | apply Kd.R_alloc | apply Kd.R_drewN | apply Kd.R_drew)); exact HO_9.out) hb); have n2_ := Aside0.mk (below_step (by repeat (first | (with_reducible first | exact HB.out | apply below_alloc | apply pw_below_drewN | apply below_drew1) | exact HB.out)) hb); clear HO_7; clear HO_9; clear HB; have HO_7 := n0_; have HO_9 := n1_; have HB := n2_; clear n0_ n1_ n2_; (try clear hb); (try clear hb2); (try clear hk); (try clear hi)))
                                      go_ret
                                      exact ⟨by first | rfl | (simp [errW_none, errW_some] <;> rfl) | (simp only [← hji4, ← hji7]; first | rfl | (simp [errW_none, errW_some] <;> rfl)) | (simp [*, errW_none, errW_some] <;> rfl), by repeat (first | (with_reducible first | exact HB.out | apply below_alloc | apply pw_below_drewN | apply below_drew1) | exact HB.out)⟩
                                    · replace c65 := Bool.eq_false_iff.mpr c65
                                      subst c65
                                      have H1 : (some false) = some r := by rw [if_neg (show ¬ (false = true) by decide)] at H; exact H
                                      clear H
                                      have H := H1
                                      clear H1
                                      obtain rfl := Option.some.inj H
                                      obtain ⟨Ao70, co70, eo70⟩ := Kd.R_slice HO_9.out
                                      subst eo70
                                      obtain ⟨Ao71, co71, eo71⟩ := Kd.R_slice HO_7.out
                                      subst eo71
                                      go_wp2_with (first | ((with_reducible refine gate_callee (f := 19) rfl ?_); refine goesL_ (some 85) rfl rfl Try.func19 (by kernel_rfl) rfl #[(.slice A0 y284.length c0), .slice Ao71 y295.length co71] rfl (by (try simp only [List.map_toArray, List.map_cons, List.map_nil]); first | done | rfl | (simp only [List.length_drop, List.length_take]; rfl)) ?_; (with_reducible refine (boltingref02_Equal.calls k4 _ _ y284 _ _ y295 false _ ?side1 ?side2 ?side3 ?side4 A64.out).mono ?_); (case side1 => repeat (first | exact (Kd.C_below HR287.out HB.out) | (with_reducible refine Kd.C_alloc ?_ _) | (with_reducible refine Kd.C_drewN ?_ _) | (with_reducible refine Kd.C_drew ?_))); (case side2 => exact HC287.out); (case side3 => repeat (first | exact (Kd.R_reads' HO_7.out).2.2 | (with_reducible refine Kd.C_alloc ?_ _) | (with_reducible refine Kd.C_drewN ?_ _) | (with_reducible refine Kd.C_drew ?_))); (case side4 => exact (Kd.R_reads' HO_7.out).2.1); rintro e w' ⟨rfl, ⟨nd, rfl⟩⟩; refine ⟨_, rfl, ?_⟩))
                                      go_ret
                                      exact ⟨by first | rfl | (simp [errW_none, errW_some] <;> rfl) | (simp only [← hji4, ← hji7]; first | rfl | (simp [errW_none, errW_some] <;> rfl)) | (simp [*, errW_none, errW_some] <;> rfl), by repeat (first | (with_reducible first | exact HB.out | apply below_alloc | apply pw_below_drewN | apply below_drew1) | exact HB.out)⟩
          · rw [if_neg c10] at H
            exact absurd H (by simp)
        · rw [if_neg c9] at H
          exact absurd H (by simp)
      · rw [if_neg c8] at H
        exact absurd H (by simp)
    · rw [if_neg c6] at H
      exact absurd H (by simp)
  · rw [if_neg c5] at H
    exact absurd H (by simp)

end Go.Proofs.Ytmbmjaiggefjmaa.Pr
