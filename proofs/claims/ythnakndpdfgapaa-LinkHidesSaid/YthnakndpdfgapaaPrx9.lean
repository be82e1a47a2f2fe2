-- Written by wip/tools/pr.sh out of Lean's own print of the translation. Not trusted: Lean checks it.
import Derived.Test.YthnakndpdfgapaaPrx0
import Derived.Test.YthnakndpdfgapaaPrx2
namespace Go.Proofs.Ythnakndpdfgapaa.Pr
open Go.RowKit Go.Proofs.YthnakndpdfgapaaW.PrintWords Go.Proofs.YthnakndpdfgapaaW.PrintLast Go.Proofs.YthnakndpdfgapaaW.PrintMore
attribute [local go_sem] max2_int min2_int max_two min_two max_three min_three max_four min_four   -- for this text's walks alone
set_option linter.unusedVariables false
set_option linter.unusedSimpArgs false

/-! ### boltinglaw09_LinkMarks: function 9 -/
mutual
def boltinglaw09_LinkMarks.j0 : Nat → ByteArray → ByteArray → Option (Bool)
  | 0, _, _ => none
  | k + 1, x0, x5 => boltinglaw09_LinkMarks.l0 k x0 x5 (⟨#[]⟩ : ByteArray) 0
def boltinglaw09_LinkMarks.l0 : Nat → ByteArray → ByteArray → ByteArray → Int → Option (Bool)
  | 0, _, _, _, _ => none
  | k + 1, x0, x5, x6, x7 => if x7 < (x0.size : Int) then (if 0 ≤ x7 then (if 0 ≤ ((bt x0 x7) / 16) then (if ((bt x0 x7) / 16) ≤ ((((bt x0 x7) / 16) + 1) % 256) then (if ((((bt x0 x7) / 16) + 1) % 256) ≤ (x5.size : Int) then (if 1 + (x5.extract (((bt x0 x7) / 16) : Int).toNat (((((bt x0 x7) / 16) + 1) % 256) : Int).toNat).size ≤ 9223372036854775807 then (if 0 ≤ (Go.bits .and .u8 (bt x0 x7) 15) then (if (Go.bits .and .u8 (bt x0 x7) 15) ≤ (((Go.bits .and .u8 (bt x0 x7) 15) + 1) % 256) then (if (((Go.bits .and .u8 (bt x0 x7) 15) + 1) % 256) ≤ (x5.size : Int) then (if ((⟨#[37]⟩ : ByteArray) ++ (x5.extract (((bt x0 x7) / 16) : Int).toNat (((((bt x0 x7) / 16) + 1) % 256) : Int).toNat)).size + (x5.extract ((Go.bits .and .u8 (bt x0 x7) 15) : Int).toNat ((((Go.bits .and .u8 (bt x0 x7) 15) + 1) % 256) : Int).toNat).size ≤ 9223372036854775807 then (if x6.size + (((⟨#[37]⟩ : ByteArray) ++ (x5.extract (((bt x0 x7) / 16) : Int).toNat (((((bt x0 x7) / 16) + 1) % 256) : Int).toNat)) ++ (x5.extract ((Go.bits .and .u8 (bt x0 x7) 15) : Int).toNat ((((Go.bits .and .u8 (bt x0 x7) 15) + 1) % 256) : Int).toNat)).size ≤ 9223372036854775807 then (boltinglaw09_LinkMarks.l0 k x0 x5 (x6 ++ (((⟨#[37]⟩ : ByteArray) ++ (x5.extract (((bt x0 x7) / 16) : Int).toNat (((((bt x0 x7) / 16) + 1) % 256) : Int).toNat)) ++ (x5.extract ((Go.bits .and .u8 (bt x0 x7) 15) : Int).toNat ((((Go.bits .and .u8 (bt x0 x7) 15) + 1) % 256) : Int).toNat))) (wrap64 (x7 + 1))) else (none)) else (none)) else (none)) else (none)) else (none)) else (none)) else (none)) else (none)) else (none)) else (none)) else (if 11 + x6.size ≤ 9223372036854775807 then ((link_Source.f ((⟨#[106, 97, 118, 97, 115, 99, 114, 105, 112, 116, 58]⟩ : ByteArray) ++ x6)).bind fun bt185 => ((link_Percent.f x6).bind fun t187 => (if t187.toList = x0.toList then (if bt185.1.toList = x0.toList then (if bt185.2 = true then ((boltinglaw09_fixed.f).bind fun t188 => (some t188)) else (some false)) else (some false)) else (some false)))) else (none))
end
def boltinglaw09_LinkMarks.f (k : Nat) (a0 : ByteArray) (a1 : Bool) : Option (Bool) := if 0 ≤ (mn (a0.size : Int) 200) then (if (mn (a0.size : Int) 200) ≤ (a0.size : Int) then (if a1 = true then (boltinglaw09_LinkMarks.j0 k (a0.extract 0 ((mn (a0.size : Int) 200) : Int).toNat) (⟨#[48, 49, 50, 51, 52, 53, 54, 55, 56, 57, 65, 66, 67, 68, 69, 70]⟩ : ByteArray)) else (boltinglaw09_LinkMarks.j0 k (a0.extract 0 ((mn (a0.size : Int) 200) : Int).toNat) (⟨#[48, 49, 50, 51, 52, 53, 54, 55, 56, 57, 97, 98, 99, 100, 101, 102]⟩ : ByteArray))) else (none)) else (none)
theorem boltinglaw09_LinkMarks.mono_l : ∀ k, (∀ y0 y1, LeO (boltinglaw09_LinkMarks.j0 k y0 y1) (boltinglaw09_LinkMarks.j0 (k + 1) y0 y1)) ∧ (∀ y0 y1 y2 y3, LeO (boltinglaw09_LinkMarks.l0 k y0 y1 y2 y3) (boltinglaw09_LinkMarks.l0 (k + 1) y0 y1 y2 y3))
  | 0 => ⟨fun _ _ r h => by simp [boltinglaw09_LinkMarks.j0] at h, fun _ _ _ _ r h => by simp [boltinglaw09_LinkMarks.l0] at h⟩
  | k + 1 => by
    obtain ⟨ih0, ih1⟩ := boltinglaw09_LinkMarks.mono_l k
    refine ⟨?_, ?_⟩
    · intro y0 y1
      unfold boltinglaw09_LinkMarks.j0
      repeat' first
      | (with_reducible exact ih0 _ _)
      | (with_reducible exact ih1 _ _ _ _)
      | (with_reducible exact LeO.refl _)
      | (with_reducible exact LeO.none _)
      | (with_reducible refine LeO.ite ?_ ?_)
      | (with_reducible refine LeO.bind ?_ (fun _ => ?_))
      | exact ih0 _ _
      | exact ih1 _ _ _ _
      | exact LeO.none _
      | refine LeO.ite ?_ ?_
      | refine LeO.bind ?_ (fun _ => ?_)
    · intro y0 y1 y2 y3
      unfold boltinglaw09_LinkMarks.l0
      repeat' first
      | (with_reducible exact ih0 _ _)
      | (with_reducible exact ih1 _ _ _ _)
      | (with_reducible exact LeO.refl _)
      | (with_reducible exact LeO.none _)
      | (with_reducible refine LeO.ite ?_ ?_)
      | (with_reducible refine LeO.bind ?_ (fun _ => ?_))
      | exact ih0 _ _
      | exact ih1 _ _ _ _
      | exact LeO.none _
      | refine LeO.ite ?_ ?_
      | refine LeO.bind ?_ (fun _ => ?_)
theorem boltinglaw09_LinkMarks.mono : ∀ a0 a1 k, LeO (boltinglaw09_LinkMarks.f k a0 a1) (boltinglaw09_LinkMarks.f (k + 1) a0 a1) := by
  intro a0 a1 k
  obtain ⟨ih0, ih1⟩ := boltinglaw09_LinkMarks.mono_l k
  unfold boltinglaw09_LinkMarks.f
  repeat' first
      | (with_reducible exact ih0 _ _)
      | (with_reducible exact ih1 _ _ _ _)
      | (with_reducible exact LeO.refl _)
      | (with_reducible exact LeO.none _)
      | (with_reducible refine LeO.ite ?_ ?_)
      | (with_reducible refine LeO.bind ?_ (fun _ => ?_))
      | exact ih0 _ _
      | exact ih1 _ _ _ _
      | exact LeO.none _
      | refine LeO.ite ?_ ?_
      | refine LeO.bind ?_ (fun _ => ?_)
set_option maxHeartbeats 8000000 in
set_option maxRecDepth 100000 in
theorem boltinglaw09_LinkMarks.calls (k : Nat) (a0 : ByteArray) (a1 : Bool) (r : Bool) (w : World) (h : boltinglaw09_LinkMarks.f k a0 a1 = some r) :
    Calls Try.prog 9 #[.string a0, .bool a1] w fun e w' => e = .returned (.bool r) ∧ Below w.heap.size w w' := by
  have HB := Aside0.mk (Below.refl w.heap.size w)
  have H : (if 0 ≤ (mn (a0.size : Int) 200) then (if (mn (a0.size : Int) 200) ≤ (a0.size : Int) then (if a1 = true then (boltinglaw09_LinkMarks.j0 k (a0.extract 0 ((mn (a0.size : Int) 200) : Int).toNat) (⟨#[48, 49, 50, 51, 52, 53, 54, 55, 56, 57, 65, 66, 67, 68, 69, 70]⟩ : ByteArray)) else (boltinglaw09_LinkMarks.j0 k (a0.extract 0 ((mn (a0.size : Int) 200) : Int).toNat) (⟨#[48, 49, 50, 51, 52, 53, 54, 55, 56, 57, 97, 98, 99, 100, 101, 102]⟩ : ByteArray))) else (none)) else (none)) = some r := h
  clear h
  obtain ⟨ji3, hji3⟩ : ∃ j_ : Int, (mn (a0.size : Int) 200) = j_ := ⟨_, rfl⟩
  replace H : (if 0 ≤ (ji3) then (if (ji3) ≤ (a0.size : Int) then (if a1 = true then (boltinglaw09_LinkMarks.j0 k (a0.extract 0 ((ji3) : Int).toNat) (⟨#[48, 49, 50, 51, 52, 53, 54, 55, 56, 57, 65, 66, 67, 68, 69, 70]⟩ : ByteArray)) else (boltinglaw09_LinkMarks.j0 k (a0.extract 0 ((ji3) : Int).toNat) (⟨#[48, 49, 50, 51, 52, 53, 54, 55, 56, 57, 97, 98, 99, 100, 101, 102]⟩ : ByteArray))) else (none)) else (none)) = some r := by first | (rw [hji3] at H; exact H) | (simp only [hji3] at H ⊢; exact H)
  (try (have hji3h : ji3 ≤ 200 := by (rw [← hji3]; unfold mn; (repeat' split) <;> omega)))
  (try (have hji3g : ji3 ≤ 64 := by omega))
  (try (have hji3l : 0 ≤ ji3 := by (rw [← hji3]; unfold mn; (repeat' split) <;> omega)))
  (try (have hji3m : 0 ≤ ji3 := by omega))
  have hji3_ : (if 200 < (a0.size : Int) then 200 else (a0.size : Int)) = ji3 := hji3
  by_cases c4 : 0 ≤ (ji3)
  · rw [if_pos c4] at H
    have c4b0 := eq_true c4
    have c4b1 : decide (0 ≤ (ji3)) = true := decide_eq_true c4
    clear c4
    by_cases c5 : (ji3) ≤ (a0.size : Int)
    · rw [if_pos c5] at H
      have c5b0 := eq_true c5
      have c5b1 : decide ((ji3) ≤ (a0.size : Int)) = true := decide_eq_true c5
      clear c5
      obtain ⟨sx6, hsx6⟩ : ∃ s_ : ByteArray, (a0.extract 0 ((ji3) : Int).toNat) = s_ := ⟨_, rfl⟩
      replace H : (if a1 = true then (boltinglaw09_LinkMarks.j0 k sx6 (⟨#[48, 49, 50, 51, 52, 53, 54, 55, 56, 57, 65, 66, 67, 68, 69, 70]⟩ : ByteArray)) else (boltinglaw09_LinkMarks.j0 k sx6 (⟨#[48, 49, 50, 51, 52, 53, 54, 55, 56, 57, 97, 98, 99, 100, 101, 102]⟩ : ByteArray))) = some r := by first | (rw [hsx6] at H; exact H) | (simp only [hsx6] at H ⊢; exact H) | exact H
      have HC7 := Aside0.mk H
      clear H
      go_enter Try.func9, Try.ntmps9
      go_upto_if 15 with (fail)
      repeat (go_quiet (fail); go_upto_if 15 with (fail))
      go_cut [5] (fun v5 wc => ∃ (kq : Nat) (x5_6 : ByteArray), v5 = .string x5_6 ∧ Aside0 (boltinglaw09_LinkMarks.j0 kq sx6 x5_6 = some r) ∧ Aside0 (kq ≤ k) ∧ Aside0 (Below w.heap.size w wc))
      case first =>
        have H := HC7.out
        clear HC7
        by_cases c8 : a1 = true
        · subst c8
          have H1 : (boltinglaw09_LinkMarks.j0 k sx6 (⟨#[48, 49, 50, 51, 52, 53, 54, 55, 56, 57, 65, 66, 67, 68, 69, 70]⟩ : ByteArray)) = some r := by rw [if_pos rfl] at H; exact H
          clear H
          have H := H1
          clear H1
          have H' := Aside0.mk H
          clear H
          go_wp2
          repeat (go_quiet (fail); try go_wp2)
          go_meet
          case rel => exact ⟨_, ((⟨#[48, 49, 50, 51, 52, 53, 54, 55, 56, 57, 65, 66, 67, 68, 69, 70]⟩ : ByteArray)), (by first | rfl | (simp; done) | (simp [*]; done)), H', ⟨by first | omega | exact Nat.le_refl _⟩, ⟨by repeat (first | (with_reducible first | exact HB.out | apply below_alloc | apply pw_below_drewN | apply below_drew1) | exact HB.out)⟩⟩
        · replace c8 := Bool.eq_false_iff.mpr c8
          subst c8
          have H1 : (boltinglaw09_LinkMarks.j0 k sx6 (⟨#[48, 49, 50, 51, 52, 53, 54, 55, 56, 57, 97, 98, 99, 100, 101, 102]⟩ : ByteArray)) = some r := by rw [if_neg (show ¬ (false = true) by decide)] at H; exact H
          clear H
          have H := H1
          clear H1
          have H' := Aside0.mk H
          clear H
          go_wp2
          repeat (go_quiet (fail); try go_wp2)
          go_meet
          case rel => exact ⟨_, ((⟨#[48, 49, 50, 51, 52, 53, 54, 55, 56, 57, 97, 98, 99, 100, 101, 102]⟩ : ByteArray)), (by first | rfl | (simp; done) | (simp [*]; done)), H', ⟨by first | omega | exact Nat.le_refl _⟩, ⟨by repeat (first | (with_reducible first | exact HB.out | apply below_alloc | apply pw_below_drewN | apply below_drew1) | exact HB.out)⟩⟩
      case rest =>
        clear HC7
        try clear p2
        try clear c4
        try clear c4b0
        try clear c4b1
        try clear c5
        try clear c5b0
        try clear c5b1
        try clear c8
        obtain ⟨kq, x5_6, rfl, HA, HJ6, HB⟩ := hcut
        cases kq with
        | zero => exact absurd HA.out (by simp [boltinglaw09_LinkMarks.j0])
        | succ kj6 =>
          have H := HA.out
          clear HA
          simp only [boltinglaw09_LinkMarks.j0] at H
          have H' := Aside0.mk H
          clear H
          go_wp2
          repeat (go_quiet (fail); try go_wp2)
          go_loopg [6, 7] kj6 (fun kq v6 v7 w' => ∃ (x6_2 : ByteArray) (x7_2 : Int), v6 = .string x6_2 ∧ v7 = .int .i64 x7_2 ∧ Aside0 (boltinglaw09_LinkMarks.l0 kq sx6 x5_6 x6_2 x7_2 = some r) ∧ Aside0 (kq ≤ kj6) ∧ Aside0 (Below w.heap.size w w'))
          case atStart => exact ⟨((⟨#[]⟩ : ByteArray)), (0), (by first | rfl | (simp; done) | (simp [*]; done)), (by first | rfl | (simp; done) | (simp [*]; done)), H', ⟨Nat.le_refl _⟩, ⟨by repeat (first | (with_reducible first | exact HB.out | apply below_alloc | apply pw_below_drewN | apply below_drew1) | exact HB.out)⟩⟩
          case round =>
            clear H'
            try clear p2
            try clear c4
            try clear c4b0
            try clear c4b1
            try clear c5
            try clear c5b0
            try clear c5b1
            try clear c8
            try clear p2
            obtain ⟨x6_2, x7_2, rfl, rfl, HA, HK2, HB⟩ := hrel
            cases gk with
            | zero => exact absurd HA.out (by simp [boltinglaw09_LinkMarks.l0])
            | succ k2 =>
              have H := HA.out
              clear HA
              simp only [boltinglaw09_LinkMarks.l0] at H
              by_cases c9 : x7_2 < (sx6.size : Int)
              · rw [if_pos c9] at H
                have c9b0 : decide (x7_2 < (sx6.size : Int)) = true := decide_eq_true c9
                clear c9
                by_cases c10 : 0 ≤ x7_2
                · rw [if_pos c10] at H
                  have c10b0 : decide (0 ≤ x7_2) = true := decide_eq_true c10
                  clear c10
                  obtain ⟨ji13, hji13⟩ : ∃ j_ : Int, ((bt sx6 x7_2) / 16) = j_ := ⟨_, rfl⟩
                  replace H : (if 0 ≤ (ji13) then (if (ji13) ≤ (((ji13) + 1) % 256) then (if (((ji13) + 1) % 256) ≤ (x5_6.size : Int) then (if 1 + (x5_6.extract ((ji13) : Int).toNat ((((ji13) + 1) % 256) : Int).toNat).size ≤ 9223372036854775807 then (if 0 ≤ (Go.bits .and .u8 (bt sx6 x7_2) 15) then (if (Go.bits .and .u8 (bt sx6 x7_2) 15) ≤ (((Go.bits .and .u8 (bt sx6 x7_2) 15) + 1) % 256) then (if (((Go.bits .and .u8 (bt sx6 x7_2) 15) + 1) % 256) ≤ (x5_6.size : Int) then (if ((⟨#[37]⟩ : ByteArray) ++ (x5_6.extract ((ji13) : Int).toNat ((((ji13) + 1) % 256) : Int).toNat)).size + (x5_6.extract ((Go.bits .and .u8 (bt sx6 x7_2) 15) : Int).toNat ((((Go.bits .and .u8 (bt sx6 x7_2) 15) + 1) % 256) : Int).toNat).size ≤ 9223372036854775807 then (if x6_2.size + (((⟨#[37]⟩ : ByteArray) ++ (x5_6.extract ((ji13) : Int).toNat ((((ji13) + 1) % 256) : Int).toNat)) ++ (x5_6.extract ((Go.bits .and .u8 (bt sx6 x7_2) 15) : Int).toNat ((((Go.bits .and .u8 (bt sx6 x7_2) 15) + 1) % 256) : Int).toNat)).size ≤ 9223372036854775807 then (boltinglaw09_LinkMarks.l0 k2 sx6 x5_6 (x6_2 ++ (((⟨#[37]⟩ : ByteArray) ++ (x5_6.extract ((ji13) : Int).toNat ((((ji13) + 1) % 256) : Int).toNat)) ++ (x5_6.extract ((Go.bits .and .u8 (bt sx6 x7_2) 15) : Int).toNat ((((Go.bits .and .u8 (bt sx6 x7_2) 15) + 1) % 256) : Int).toNat))) (wrap64 (x7_2 + 1))) else (none)) else (none)) else (none)) else (none)) else (none)) else (none)) else (none)) else (none)) else (none)) = some r := by first | (rw [hji13] at H; exact H) | (simp only [hji13] at H ⊢; exact H)
                  by_cases c14 : 0 ≤ (ji13)
                  · rw [if_pos c14] at H
                    have c14b0 := eq_true c14
                    have c14b1 : decide (0 ≤ (ji13)) = true := decide_eq_true c14
                    clear c14
                    by_cases c15 : (ji13) ≤ (((ji13) + 1) % 256)
                    · rw [if_pos c15] at H
                      have c15b0 := eq_true c15
                      have c15b1 : decide ((ji13) ≤ (((ji13) + 1) % 256)) = true := decide_eq_true c15
                      by_cases c16 : (((ji13) + 1) % 256) ≤ (x5_6.size : Int)
                      · rw [if_pos c16] at H
                        have c16b0 := eq_true c16
                        have c16b1 : decide ((((ji13) + 1) % 256) ≤ (x5_6.size : Int)) = true := decide_eq_true c16
                        obtain ⟨sx17, hsx17⟩ : ∃ s_ : ByteArray, (x5_6.extract ((ji13) : Int).toNat ((((ji13) + 1) % 256) : Int).toNat) = s_ := ⟨_, rfl⟩
                        replace H : (if 1 + sx17.size ≤ 9223372036854775807 then (if 0 ≤ (Go.bits .and .u8 (bt sx6 x7_2) 15) then (if (Go.bits .and .u8 (bt sx6 x7_2) 15) ≤ (((Go.bits .and .u8 (bt sx6 x7_2) 15) + 1) % 256) then (if (((Go.bits .and .u8 (bt sx6 x7_2) 15) + 1) % 256) ≤ (x5_6.size : Int) then (if ((⟨#[37]⟩ : ByteArray) ++ sx17).size + (x5_6.extract ((Go.bits .and .u8 (bt sx6 x7_2) 15) : Int).toNat ((((Go.bits .and .u8 (bt sx6 x7_2) 15) + 1) % 256) : Int).toNat).size ≤ 9223372036854775807 then (if x6_2.size + (((⟨#[37]⟩ : ByteArray) ++ sx17) ++ (x5_6.extract ((Go.bits .and .u8 (bt sx6 x7_2) 15) : Int).toNat ((((Go.bits .and .u8 (bt sx6 x7_2) 15) + 1) % 256) : Int).toNat)).size ≤ 9223372036854775807 then (boltinglaw09_LinkMarks.l0 k2 sx6 x5_6 (x6_2 ++ (((⟨#[37]⟩ : ByteArray) ++ sx17) ++ (x5_6.extract ((Go.bits .and .u8 (bt sx6 x7_2) 15) : Int).toNat ((((Go.bits .and .u8 (bt sx6 x7_2) 15) + 1) % 256) : Int).toNat))) (wrap64 (x7_2 + 1))) else (none)) else (none)) else (none)) else (none)) else (none)) else (none)) = some r := by first | (rw [hsx17] at H; exact H) | (simp only [hsx17] at H ⊢; exact H) | exact H
                        by_cases c18 : 1 + sx17.size ≤ 9223372036854775807
                        · rw [if_pos c18] at H
                          have c18b0 := eq_true c18
                          have c18b1 : decide (1 + sx17.size ≤ 9223372036854775807) = true := decide_eq_true c18
                          try have c18b2 : (9223372036854775807 < 1 + sx17.size) = False := eq_false (Nat.not_lt.2 c18)
                          by_cases c21 : 0 ≤ (Go.bits .and .u8 (bt sx6 x7_2) 15)
                          · rw [if_pos c21] at H
                            have c21b0 := eq_true c21
                            have c21b1 : decide (0 ≤ (Go.bits .and .u8 (bt sx6 x7_2) 15)) = true := decide_eq_true c21
                            clear c21
                            by_cases c22 : (Go.bits .and .u8 (bt sx6 x7_2) 15) ≤ (((Go.bits .and .u8 (bt sx6 x7_2) 15) + 1) % 256)
                            · rw [if_pos c22] at H
                              have c22b0 := eq_true c22
                              have c22b1 : decide ((Go.bits .and .u8 (bt sx6 x7_2) 15) ≤ (((Go.bits .and .u8 (bt sx6 x7_2) 15) + 1) % 256)) = true := decide_eq_true c22
                              by_cases c23 : (((Go.bits .and .u8 (bt sx6 x7_2) 15) + 1) % 256) ≤ (x5_6.size : Int)
                              · rw [if_pos c23] at H
                                have c23b0 := eq_true c23
                                have c23b1 : decide ((((Go.bits .and .u8 (bt sx6 x7_2) 15) + 1) % 256) ≤ (x5_6.size : Int)) = true := decide_eq_true c23
                                obtain ⟨sx24, hsx24⟩ : ∃ s_ : ByteArray, (x5_6.extract ((Go.bits .and .u8 (bt sx6 x7_2) 15) : Int).toNat ((((Go.bits .and .u8 (bt sx6 x7_2) 15) + 1) % 256) : Int).toNat) = s_ := ⟨_, rfl⟩
                                replace H : (if ((⟨#[37]⟩ : ByteArray) ++ sx17).size + sx24.size ≤ 9223372036854775807 then (if x6_2.size + (((⟨#[37]⟩ : ByteArray) ++ sx17) ++ sx24).size ≤ 9223372036854775807 then (boltinglaw09_LinkMarks.l0 k2 sx6 x5_6 (x6_2 ++ (((⟨#[37]⟩ : ByteArray) ++ sx17) ++ sx24)) (wrap64 (x7_2 + 1))) else (none)) else (none)) = some r := by first | (rw [hsx24] at H; exact H) | (simp only [hsx24] at H ⊢; exact H) | exact H
                                by_cases c25 : ((⟨#[37]⟩ : ByteArray) ++ sx17).size + sx24.size ≤ 9223372036854775807
                                · rw [if_pos c25] at H
                                  have c25b0 := eq_true c25
                                  have c25b1 : decide (((⟨#[37]⟩ : ByteArray) ++ sx17).size + sx24.size ≤ 9223372036854775807) = true := decide_eq_true c25
                                  (try (have c25t0 : (1 + sx17.size + sx24.size ≤ 9223372036854775807) = True := eq_true (by have h_ := c25; simp only [ByteArray.size_append] at h_; exact h_)))
                                  (try (have c25t1 : (9223372036854775807 < 1 + sx17.size + sx24.size) = False := eq_false (Nat.not_lt.2 (of_eq_true c25t0))))
                                  try have c25b2 : (9223372036854775807 < ((⟨#[37]⟩ : ByteArray) ++ sx17).size + sx24.size) = False := eq_false (Nat.not_lt.2 c25)
                                  by_cases c26 : x6_2.size + (((⟨#[37]⟩ : ByteArray) ++ sx17) ++ sx24).size ≤ 9223372036854775807
                                  · rw [if_pos c26] at H
                                    have c26b0 := eq_true c26
                                    have c26b1 : decide (x6_2.size + (((⟨#[37]⟩ : ByteArray) ++ sx17) ++ sx24).size ≤ 9223372036854775807) = true := decide_eq_true c26
                                    (try (have c26t0 : (x6_2.size + 1 + sx17.size + sx24.size ≤ 9223372036854775807) = True := eq_true (by have h_ := c26; simp only [ByteArray.size_append] at h_; exact h_)))
                                    (try (have c26t1 : (9223372036854775807 < x6_2.size + 1 + sx17.size + sx24.size) = False := eq_false (Nat.not_lt.2 (of_eq_true c26t0))))
                                    try have c26b2 : (9223372036854775807 < x6_2.size + (((⟨#[37]⟩ : ByteArray) ++ sx17) ++ sx24).size) = False := eq_false (Nat.not_lt.2 c26)
                                    have H' := Aside0.mk H
                                    clear H
                                    have p11 : 0 ≤ (x7_2 : Int) := of_decide_eq_true (by first | (with_reducible assumption) | assumption)
                                    have q11 : x7_2 < (sx6.size : Int) := of_decide_eq_true (by first | (with_reducible assumption) | assumption)
                                    have hx11 := bt_at sx6 x7_2
                                    replace p11 := eq_true p11
                                    replace q11 := eq_true q11
                                    have p12 : 0 ≤ (x7_2 : Int) := of_decide_eq_true (by first | (with_reducible assumption) | assumption)
                                    have q12 : x7_2 < (sx6.size : Int) := of_decide_eq_true (by first | (with_reducible assumption) | assumption)
                                    have hx12 := bt_at sx6 x7_2
                                    replace p12 := eq_true p12
                                    replace q12 := eq_true q12
                                    have p19 : 0 ≤ (x7_2 : Int) := of_decide_eq_true (by first | (with_reducible assumption) | assumption)
                                    have q19 : x7_2 < (sx6.size : Int) := of_decide_eq_true (by first | (with_reducible assumption) | assumption)
                                    have hx19 := bt_at sx6 x7_2
                                    replace p19 := eq_true p19
                                    replace q19 := eq_true q19
                                    have p20 : 0 ≤ (x7_2 : Int) := of_decide_eq_true (by first | (with_reducible assumption) | assumption)
                                    have q20 : x7_2 < (sx6.size : Int) := of_decide_eq_true (by first | (with_reducible assumption) | assumption)
                                    have hx20 := bt_at sx6 x7_2
                                    replace p20 := eq_true p20
                                    replace q20 := eq_true q20
                                    go_wp2
                                    repeat (go_quiet (fail); try go_wp2)
                                    go_roundg k2
                                    case measure => have := HJ6.out; have := HK2.out; omega
                                    case rel => exact ⟨(x6_2 ++ (((⟨#[37]⟩ : ByteArray) ++ sx17) ++ sx24)), (wrap64 (x7_2 + 1)), (by first | rfl | (simp; done) | (simp [*]; done)), (by first | rfl | (simp; done) | (simp [*]; done)), H', ⟨by have := HJ6.out; have := HK2.out; omega⟩, ⟨by repeat (first | (with_reducible first | exact HB.out | apply below_alloc | apply pw_below_drewN | apply below_drew1) | exact HB.out)⟩⟩
                                  · rw [if_neg c26] at H
                                    exact absurd H (by simp)
                                · rw [if_neg c25] at H
                                  exact absurd H (by simp)
                              · rw [if_neg c23] at H
                                exact absurd H (by simp)
                            · rw [if_neg c22] at H
                              exact absurd H (by simp)
                          · rw [if_neg c21] at H
                            exact absurd H (by simp)
                        · rw [if_neg c18] at H
                          exact absurd H (by simp)
                      · rw [if_neg c16] at H
                        exact absurd H (by simp)
                    · rw [if_neg c15] at H
                      exact absurd H (by simp)
                  · rw [if_neg c14] at H
                    exact absurd H (by simp)
                · rw [if_neg c10] at H
                  exact absurd H (by simp)
              · rw [if_neg c9] at H
                have c9b0 : decide (x7_2 < (sx6.size : Int)) = false := decide_eq_false c9
                clear c9
                by_cases c27 : 11 + x6_2.size ≤ 9223372036854775807
                · rw [if_pos c27] at H
                  have c27b0 := eq_true c27
                  have c27b1 : decide (11 + x6_2.size ≤ 9223372036854775807) = true := decide_eq_true c27
                  try have c27b2 : (9223372036854775807 < 11 + x6_2.size) = False := eq_false (Nat.not_lt.2 c27)
                  replace H := Option.bind_eq_some_iff.mp H
                  obtain ⟨⟨t185, t186⟩, A280, H⟩ := H
                  replace H : ((link_Percent.f x6_2).bind fun t187 => (if t187.toList = sx6.toList then (if t185.toList = sx6.toList then (if t186 = true then ((boltinglaw09_fixed.f).bind fun t188 => (some t188)) else (some false)) else (some false)) else (some false))) = some r := H
                  have A28 := Aside0.mk A280
                  clear A280
                  replace H := Option.bind_eq_some_iff.mp H
                  obtain ⟨t187, A290, H⟩ := H
                  replace H : (if t187.toList = sx6.toList then (if t185.toList = sx6.toList then (if t186 = true then ((boltinglaw09_fixed.f).bind fun t188 => (some t188)) else (some false)) else (some false)) else (some false)) = some r := H
                  have A29 := Aside0.mk A290
                  clear A290
                  by_cases c30 : t187.toList = sx6.toList
                  · rw [if_pos c30] at H
                    have c30b0 : (t187.toList == sx6.toList) = true := beq_iff_eq.mpr c30
                    have c30b1 : (t187.toList != sx6.toList) = false := bne_eq_false_iff_eq.mpr c30
                    clear c30
                    by_cases c31 : t185.toList = sx6.toList
                    · rw [if_pos c31] at H
                      have c31b0 : (t185.toList == sx6.toList) = true := beq_iff_eq.mpr c31
                      have c31b1 : (t185.toList != sx6.toList) = false := bne_eq_false_iff_eq.mpr c31
                      clear c31
                      by_cases c32 : t186 = true
                      · subst c32
                        have H1 : ((boltinglaw09_fixed.f).bind fun t188 => (some t188)) = some r := by rw [if_pos rfl] at H; exact H
                        clear H
                        have H := H1
                        clear H1
                        replace H := Option.bind_eq_some_iff.mp H
                        obtain ⟨t188, A330, H⟩ := H
                        replace H : (some t188) = some r := H
                        have A33 := Aside0.mk A330
                        clear A330
                        obtain rfl := Option.some.inj H
                        go_wp2_with (first | (go_at_call 16; (with_reducible refine (link_Source.calls ((⟨#[106, 97, 118, 97, 115, 99, 114, 105, 112, 116, 58]⟩ : ByteArray) ++ x6_2) t185 true _ A28.out).mono ?_); rintro e w34 ⟨rfl, hb⟩; have n0_ := Aside0.mk (below_step (by repeat (first | (with_reducible first | exact HB.out | apply below_alloc | apply pw_below_drewN | apply below_drew1) | exact HB.out)) hb); clear HB; have HB := n0_; clear n0_; (try clear hb); (try clear hb2); (try clear hk); (try clear hi)) | (go_at_call 19; (with_reducible refine (link_Percent.calls x6_2 t187 _ A29.out).mono ?_); rintro e w35 ⟨rfl, hb⟩; have n0_ := Aside0.mk (below_step (by repeat (first | (with_reducible first | exact HB.out | apply below_alloc | apply pw_below_drewN | apply below_drew1) | exact HB.out)) hb); clear HB; have HB := n0_; clear n0_; (try clear hb); (try clear hb2); (try clear hk); (try clear hi)) | (go_at_call 13; (with_reducible refine (boltinglaw09_fixed.calls  t188 _ A33.out).mono ?_); rintro e w36 ⟨rfl, hb⟩; have n0_ := Aside0.mk (below_step (by repeat (first | (with_reducible first | exact HB.out | apply below_alloc | apply pw_below_drewN | apply below_drew1) | exact HB.out)) hb); clear HB; have HB := n0_; clear n0_; (try clear hb); (try clear hb2); (try clear hk); (try clear hi)))
                        repeat (go_quiet (first | (go_at_call 16; (with_reducible refine (link_Source.calls ((⟨#[106, 97, 118, 97, 115, 99, 114, 105, 112, 116, 58]⟩ : ByteArray) ++ x6_2) t185 true _ A28.out).mono ?_); rintro e w34 ⟨rfl, hb⟩; have n0_ := Aside0.mk (below_step (by repeat (first | (with_reducible first | exact HB.out | apply below_alloc | apply pw_below_drewN | apply below_drew1) | exact HB.out)) hb); clear HB; have HB := n0_; clear n0_; (try clear hb); (try clear hb2); (try clear hk); (try clear hi)) | (go_at_call 19; (with_reducible refine (link_Percent.calls x6_2 t187 _ A29.out).mono ?_); rintro e w35 ⟨rfl, hb⟩; have n0_ := Aside0.mk (below_step (by repeat (first | (with_reducible first | exact HB.out | apply below_alloc | apply pw_below_drewN | apply below_drew1) | exact HB.out)) hb); clear HB; have HB := n0_; clear n0_; (try clear hb); (try clear hb2); (try clear hk); (try clear hi)) | (go_at_call 13; (with_reducible refine (boltinglaw09_fixed.calls  t188 _ A33.out).mono ?_); rintro e w36 ⟨rfl, hb⟩; have n0_ := Aside0.mk (below_step (by repeat (first | (with_reducible first | exact HB.out | apply below_alloc | apply pw_below_drewN | apply below_drew1) | exact HB.out)) hb); clear HB; have HB := n0_; clear n0_; (try clear hb); (try clear hb2); (try clear hk); (try clear hi))); try go_wp2_with (first | (go_at_call 16; (with_reducible refine (link_Source.calls ((⟨#[106, 97, 118, 97, 115, 99, 114, 105, 112, 116, 58]⟩ : ByteArray) ++ x6_2) t185 true _ A28.out).mono ?_); rintro e w34 ⟨rfl, hb⟩; have n0_ := Aside0.mk (below_step (by repeat (first | (with_reducible first | exact HB.out | apply below_alloc | apply pw_below_drewN | apply below_drew1) | exact HB.out)) hb); clear HB; have HB := n0_; clear n0_; (try clear hb); (try clear hb2); (try clear hk); (try clear hi)) | (go_at_call 19; (with_reducible refine (link_Percent.calls x6_2 t187 _ A29.out).mono ?_); rintro e w35 ⟨rfl, hb⟩; have n0_ := Aside0.mk (below_step (by repeat (first | (with_reducible first | exact HB.out | apply below_alloc | apply pw_below_drewN | apply below_drew1) | exact HB.out)) hb); clear HB; have HB := n0_; clear n0_; (try clear hb); (try clear hb2); (try clear hk); (try clear hi)) | (go_at_call 13; (with_reducible refine (boltinglaw09_fixed.calls  t188 _ A33.out).mono ?_); rintro e w36 ⟨rfl, hb⟩; have n0_ := Aside0.mk (below_step (by repeat (first | (with_reducible first | exact HB.out | apply below_alloc | apply pw_below_drewN | apply below_drew1) | exact HB.out)) hb); clear HB; have HB := n0_; clear n0_; (try clear hb); (try clear hb2); (try clear hk); (try clear hi))))
                        go_ret
                        exact ⟨by first | rfl | (simp [errW_none, errW_some] <;> rfl) | (simp only [← hji3]; first | rfl | (simp [errW_none, errW_some] <;> rfl)) | (simp [*, errW_none, errW_some] <;> rfl), by repeat (first | (with_reducible first | exact HB.out | apply below_alloc | apply pw_below_drewN | apply below_drew1) | exact HB.out)⟩
                      · replace c32 := Bool.eq_false_iff.mpr c32
                        subst c32
                        have H1 : (some false) = some r := by rw [if_neg (show ¬ (false = true) by decide)] at H; exact H
                        clear H
                        have H := H1
                        clear H1
                        obtain rfl := Option.some.inj H
                        go_wp2_with (first | (go_at_call 16; (with_reducible refine (link_Source.calls ((⟨#[106, 97, 118, 97, 115, 99, 114, 105, 112, 116, 58]⟩ : ByteArray) ++ x6_2) t185 false _ A28.out).mono ?_); rintro e w37 ⟨rfl, hb⟩; have n0_ := Aside0.mk (below_step (by repeat (first | (with_reducible first | exact HB.out | apply below_alloc | apply pw_below_drewN | apply below_drew1) | exact HB.out)) hb); clear HB; have HB := n0_; clear n0_; (try clear hb); (try clear hb2); (try clear hk); (try clear hi)) | (go_at_call 19; (with_reducible refine (link_Percent.calls x6_2 t187 _ A29.out).mono ?_); rintro e w38 ⟨rfl, hb⟩; have n0_ := Aside0.mk (below_step (by repeat (first | (with_reducible first | exact HB.out | apply below_alloc | apply pw_below_drewN | apply below_drew1) | exact HB.out)) hb); clear HB; have HB := n0_; clear n0_; (try clear hb); (try clear hb2); (try clear hk); (try clear hi)))
                        repeat (go_quiet (first | (go_at_call 16; (with_reducible refine (link_Source.calls ((⟨#[106, 97, 118, 97, 115, 99, 114, 105, 112, 116, 58]⟩ : ByteArray) ++ x6_2) t185 false _ A28.out).mono ?_); rintro e w37 ⟨rfl, hb⟩; have n0_ := Aside0.mk (below_step (by repeat (first | (with_reducible first | exact HB.out | apply below_alloc | apply pw_below_drewN | apply below_drew1) | exact HB.out)) hb); clear HB; have HB := n0_; clear n0_; (try clear hb); (try clear hb2); (try clear hk); (try clear hi)) | (go_at_call 19; (with_reducible refine (link_Percent.calls x6_2 t187 _ A29.out).mono ?_); rintro e w38 ⟨rfl, hb⟩; have n0_ := Aside0.mk (below_step (by repeat (first | (with_reducible first | exact HB.out | apply below_alloc | apply pw_below_drewN | apply below_drew1) | exact HB.out)) hb); clear HB; have HB := n0_; clear n0_; (try clear hb); (try clear hb2); (try clear hk); (try clear hi))); try go_wp2_with (first | (go_at_call 16; (with_reducible refine (link_Source.calls ((⟨#[106, 97, 118, 97, 115, 99, 114, 105, 112, 116, 58]⟩ : ByteArray) ++ x6_2) t185 false _ A28.out).mono ?_); rintro e w37 ⟨rfl, hb⟩; have n0_ := Aside0.mk (below_step (by repeat (first | (with_reducible first | exact HB.out | apply below_alloc | apply pw_below_drewN | apply below_drew1) | exact HB.out)) hb); clear HB; have HB := n0_; clear n0_; (try clear hb); (try clear hb2); (try clear hk); (try clear hi)) | (go_at_call 19; (with_reducible refine (link_Percent.calls x6_2 t187 _ A29.out).mono ?_); rintro e w38 ⟨rfl, hb⟩; have n0_ := Aside0.mk (below_step (by repeat (first | (with_reducible first | exact HB.out | apply below_alloc | apply pw_below_drewN | apply below_drew1) | exact HB.out)) hb); clear HB; have HB := n0_; clear n0_; (try clear hb); (try clear hb2); (try clear hk); (try clear hi))))
                        go_ret
                        exact ⟨by first | rfl | (simp [errW_none, errW_some] <;> rfl) | (simp only [← hji3]; first | rfl | (simp [errW_none, errW_some] <;> rfl)) | (simp [*, errW_none, errW_some] <;> rfl), by repeat (first | (with_reducible first | exact HB.out | apply below_alloc | apply pw_below_drewN | apply below_drew1) | exact HB.out)⟩
                    · rw [if_neg c31] at H
                      have c31b0 : (t185.toList == sx6.toList) = false := beq_eq_false_iff_ne.mpr c31
                      have c31b1 : (t185.toList != sx6.toList) = true := bne_iff_ne.mpr c31
                      obtain rfl := Option.some.inj H
                      go_wp2_with (first | (go_at_call 16; (with_reducible refine (link_Source.calls ((⟨#[106, 97, 118, 97, 115, 99, 114, 105, 112, 116, 58]⟩ : ByteArray) ++ x6_2) t185 t186 _ A28.out).mono ?_); rintro e w39 ⟨rfl, hb⟩; have n0_ := Aside0.mk (below_step (by repeat (first | (with_reducible first | exact HB.out | apply below_alloc | apply pw_below_drewN | apply below_drew1) | exact HB.out)) hb); clear HB; have HB := n0_; clear n0_; (try clear hb); (try clear hb2); (try clear hk); (try clear hi)) | (go_at_call 19; (with_reducible refine (link_Percent.calls x6_2 t187 _ A29.out).mono ?_); rintro e w40 ⟨rfl, hb⟩; have n0_ := Aside0.mk (below_step (by repeat (first | (with_reducible first | exact HB.out | apply below_alloc | apply pw_below_drewN | apply below_drew1) | exact HB.out)) hb); clear HB; have HB := n0_; clear n0_; (try clear hb); (try clear hb2); (try clear hk); (try clear hi)))
                      repeat (go_quiet (first | (go_at_call 16; (with_reducible refine (link_Source.calls ((⟨#[106, 97, 118, 97, 115, 99, 114, 105, 112, 116, 58]⟩ : ByteArray) ++ x6_2) t185 t186 _ A28.out).mono ?_); rintro e w39 ⟨rfl, hb⟩; have n0_ := Aside0.mk (below_step (by repeat (first | (with_reducible first | exact HB.out | apply below_alloc | apply pw_below_drewN | apply below_drew1) | exact HB.out)) hb); clear HB; have HB := n0_; clear n0_; (try clear hb); (try clear hb2); (try clear hk); (try clear hi)) | (go_at_call 19; (with_reducible refine (link_Percent.calls x6_2 t187 _ A29.out).mono ?_); rintro e w40 ⟨rfl, hb⟩; have n0_ := Aside0.mk (below_step (by repeat (first | (with_reducible first | exact HB.out | apply below_alloc | apply pw_below_drewN | apply below_drew1) | exact HB.out)) hb); clear HB; have HB := n0_; clear n0_; (try clear hb); (try clear hb2); (try clear hk); (try clear hi))); try go_wp2_with (first | (go_at_call 16; (with_reducible refine (link_Source.calls ((⟨#[106, 97, 118, 97, 115, 99, 114, 105, 112, 116, 58]⟩ : ByteArray) ++ x6_2) t185 t186 _ A28.out).mono ?_); rintro e w39 ⟨rfl, hb⟩; have n0_ := Aside0.mk (below_step (by repeat (first | (with_reducible first | exact HB.out | apply below_alloc | apply pw_below_drewN | apply below_drew1) | exact HB.out)) hb); clear HB; have HB := n0_; clear n0_; (try clear hb); (try clear hb2); (try clear hk); (try clear hi)) | (go_at_call 19; (with_reducible refine (link_Percent.calls x6_2 t187 _ A29.out).mono ?_); rintro e w40 ⟨rfl, hb⟩; have n0_ := Aside0.mk (below_step (by repeat (first | (with_reducible first | exact HB.out | apply below_alloc | apply pw_below_drewN | apply below_drew1) | exact HB.out)) hb); clear HB; have HB := n0_; clear n0_; (try clear hb); (try clear hb2); (try clear hk); (try clear hi))))
                      go_ret
                      exact ⟨by first | rfl | (simp [errW_none, errW_some] <;> rfl) | (simp only [← hji3]; first | rfl | (simp [errW_none, errW_some] <;> rfl)) | (simp [*, errW_none, errW_some] <;> rfl), by repeat (first | (with_reducible first | exact HB.out | apply below_alloc | apply pw_below_drewN | apply below_drew1) | exact HB.out)⟩
                  · rw [if_neg c30] at H
                    have c30b0 : (t187.toList == sx6.toList) = false := beq_eq_false_iff_ne.mpr c30
                    have c30b1 : (t187.toList != sx6.toList) = true := bne_iff_ne.mpr c30
                    obtain rfl := Option.some.inj H
                    go_wp2_with (first | (go_at_call 16; (with_reducible refine (link_Source.calls ((⟨#[106, 97, 118, 97, 115, 99, 114, 105, 112, 116, 58]⟩ : ByteArray) ++ x6_2) t185 t186 _ A28.out).mono ?_); rintro e w41 ⟨rfl, hb⟩; have n0_ := Aside0.mk (below_step (by repeat (first | (with_reducible first | exact HB.out | apply below_alloc | apply pw_below_drewN | apply below_drew1) | exact HB.out)) hb); clear HB; have HB := n0_; clear n0_; (try clear hb); (try clear hb2); (try clear hk); (try clear hi)) | (go_at_call 19; (with_reducible refine (link_Percent.calls x6_2 t187 _ A29.out).mono ?_); rintro e w42 ⟨rfl, hb⟩; have n0_ := Aside0.mk (below_step (by repeat (first | (with_reducible first | exact HB.out | apply below_alloc | apply pw_below_drewN | apply below_drew1) | exact HB.out)) hb); clear HB; have HB := n0_; clear n0_; (try clear hb); (try clear hb2); (try clear hk); (try clear hi)))
                    repeat (go_quiet (first | (go_at_call 16; (with_reducible refine (link_Source.calls ((⟨#[106, 97, 118, 97, 115, 99, 114, 105, 112, 116, 58]⟩ : ByteArray) ++ x6_2) t185 t186 _ A28.out).mono ?_); rintro e w41 ⟨rfl, hb⟩; have n0_ := Aside0.mk (below_step (by repeat (first | (with_reducible first | exact HB.out | apply below_alloc | apply pw_below_drewN | apply below_drew1) | exact HB.out)) hb); clear HB; have HB := n0_; clear n0_; (try clear hb); (try clear hb2); (try clear hk); (try clear hi)) | (go_at_call 19; (with_reducible refine (link_Percent.calls x6_2 t187 _ A29.out).mono ?_); rintro e w42 ⟨rfl, hb⟩; have n0_ := Aside0.mk (below_step (by repeat (first | (with_reducible first | exact HB.out | apply below_alloc | apply pw_below_drewN | apply below_drew1) | exact HB.out)) hb); clear HB; have HB := n0_; clear n0_; (try clear hb); (try clear hb2); (try clear hk); (try clear hi))); try go_wp2_with (first | (go_at_call 16; (with_reducible refine (link_Source.calls ((⟨#[106, 97, 118, 97, 115, 99, 114, 105, 112, 116, 58]⟩ : ByteArray) ++ x6_2) t185 t186 _ A28.out).mono ?_); rintro e w41 ⟨rfl, hb⟩; have n0_ := Aside0.mk (below_step (by repeat (first | (with_reducible first | exact HB.out | apply below_alloc | apply pw_below_drewN | apply below_drew1) | exact HB.out)) hb); clear HB; have HB := n0_; clear n0_; (try clear hb); (try clear hb2); (try clear hk); (try clear hi)) | (go_at_call 19; (with_reducible refine (link_Percent.calls x6_2 t187 _ A29.out).mono ?_); rintro e w42 ⟨rfl, hb⟩; have n0_ := Aside0.mk (below_step (by repeat (first | (with_reducible first | exact HB.out | apply below_alloc | apply pw_below_drewN | apply below_drew1) | exact HB.out)) hb); clear HB; have HB := n0_; clear n0_; (try clear hb); (try clear hb2); (try clear hk); (try clear hi))))
                    go_ret
                    exact ⟨by first | rfl | (simp [errW_none, errW_some] <;> rfl) | (simp only [← hji3]; first | rfl | (simp [errW_none, errW_some] <;> rfl)) | (simp [*, errW_none, errW_some] <;> rfl), by repeat (first | (with_reducible first | exact HB.out | apply below_alloc | apply pw_below_drewN | apply below_drew1) | exact HB.out)⟩
                · rw [if_neg c27] at H
                  exact absurd H (by simp)
    · rw [if_neg c5] at H
      exact absurd H (by simp)
  · rw [if_neg c4] at H
    exact absurd H (by simp)

/-- THE ONE PURE STATEMENT of boltinglaw09_LinkMarks: yours. -/
def boltinglaw09_LinkMarks.Pure : Prop := ∀ (a0 : ByteArray) (a1 : Bool), a0.size ≤ 140737488351232 → ∃ k, boltinglaw09_LinkMarks.f k a0 a1 = some true
theorem boltinglaw09_LinkMarks.walk (P : boltinglaw09_LinkMarks.Pure) (a0 : ByteArray) (a1 : Bool) (w : World) (w0 : a0.size ≤ 140737488351232) :
    Calls Try.prog 9 #[.string a0, .bool a1] w fun e w' => e = .returned (.bool true) ∧ Below w.heap.size w w' := by
  obtain ⟨k, h⟩ := P a0 a1 w0
  refine (boltinglaw09_LinkMarks.calls k a0 a1 true w h).mono ?_
  rintro e w' ⟨rfl, hd⟩
  exact ⟨rfl, hd⟩

end Go.Proofs.Ythnakndpdfgapaa.Pr
