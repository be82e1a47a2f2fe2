import Derived.Test.YticacakoefojbaaGreatJCleanKeeps2
import Derived.Test.YticacakoefojbaaGreatJCleanKeeps1
set_option linter.unusedSimpArgs false
set_option linter.unusedVariables false
namespace Go.Proofs.YticacakoefojbaaGreat.Pr
open Go.RowKit Go.Proofs.YticacakoefojbaaGreatW.PrintWords Go.Proofs.YticacakoefojbaaGreatW.PrintLast Go.Proofs.YticacakoefojbaaGreatW.PrintMore
attribute [local go_sem] max2_int min2_int max_two min_two max_three min_three max_four min_four   -- for this text's walks alone

mutual
def rows_right.l0 : Nat → Int → List (S38) → Int → Int → Option (Bool)
 | 0, _, _, _, _ => none
 | k + 1, x3, x6, x7, x8 => if x8 < x7 then (if 0 ≤ x8 then (if x8 < (x6.length : Int) then (if ((rd_T38 x6 x8).f0) < 0 then (rows_right.j1 k x6 x7 x8 true ((rd_T38 x6 x8).f0) ((rd_T38 x6 x8).f1) ((rd_T38 x6 x8).f2) ((rd_T38 x6 x8).f3) ((rd_T38 x6 x8).f4)) else (if ((rd_T38 x6 x8).f0) > x3 then (rows_right.j1 k x6 x7 x8 true ((rd_T38 x6 x8).f0) ((rd_T38 x6 x8).f1) ((rd_T38 x6 x8).f2) ((rd_T38 x6 x8).f3) ((rd_T38 x6 x8).f4)) else ((rows_row.f k ((rd_T38 x6 x8).f0) ((rd_T38 x6 x8).f1) ((rd_T38 x6 x8).f2) ((rd_T38 x6 x8).f3) ((rd_T38 x6 x8).f4)).bind fun t395 => (rows_right.j1 k x6 x7 x8 (!t395) ((rd_T38 x6 x8).f0) ((rd_T38 x6 x8).f1) ((rd_T38 x6 x8).f2) ((rd_T38 x6 x8).f3) ((rd_T38 x6 x8).f4))))) else (none)) else (none)) else (some true)
def rows_right.j1 : Nat → List (S38) → Int → Int → Bool → Int → Int → ByteArray → ByteArray → List (S45) → Option (Bool)
 | 0, _, _, _, _, _, _, _, _, _ => none
 | k + 1, x6, x7, x8, x25, x395000, x395001, x395002, x395003, x395004 => if x25 = true then (some false) else (if x395001 = 0 then (rows_right.l0 k (wrap64 (x395000 + 1)) x6 x7 (wrap64 (x8 + 1))) else (rows_right.l0 k x395000 x6 x7 (wrap64 (x8 + 1))))
end
def rows_right.f (k : Nat) (l0 : List (S38)) : Option (Bool) := rows_right.l0 k 0 l0 (l0.length : Int) 0
theorem rows_right.mono_l : ∀ k, (∀ y0 y1 y2 y3, LeO (rows_right.l0 k y0 y1 y2 y3) (rows_right.l0 (k + 1) y0 y1 y2 y3)) ∧ (∀ y0 y1 y2 y3 y4 y5 y6 y7 y8, LeO (rows_right.j1 k y0 y1 y2 y3 y4 y5 y6 y7 y8) (rows_right.j1 (k + 1) y0 y1 y2 y3 y4 y5 y6 y7 y8))
 | 0 => ⟨fun _ _ _ _ r h => by simp [rows_right.l0] at h, fun _ _ _ _ _ _ _ _ _ r h => by simp [rows_right.j1] at h⟩
 | k + 1 => by
  obtain ⟨ih0, ih1⟩ := rows_right.mono_l k
  refine ⟨?_, ?_⟩
  ·intro y0 y1 y2 y3
   unfold rows_right.l0
   repeat' first
   | (with_reducible exact ih0 _ _ _ _)
   | (with_reducible exact ih1 _ _ _ _ _ _ _ _ _)
   | (with_reducible exact rows_row.mono _ _ _ _ _ _)
   | (with_reducible exact LeO.refl _)
   | (with_reducible exact LeO.none _)
   | (with_reducible refine LeO.ite ?_ ?_)
   | (with_reducible refine LeO.bind ?_ (fun _ => ?_))
   | exact ih0 _ _ _ _
   | exact ih1 _ _ _ _ _ _ _ _ _
   | exact rows_row.mono _ _ _ _ _ _
   | exact LeO.none _
   | refine LeO.ite ?_ ?_
   | refine LeO.bind ?_ (fun _ => ?_)
  ·intro y0 y1 y2 y3 y4 y5 y6 y7 y8
   unfold rows_right.j1
   repeat' first
   | (with_reducible exact ih0 _ _ _ _)
   | (with_reducible exact ih1 _ _ _ _ _ _ _ _ _)
   | (with_reducible exact rows_row.mono _ _ _ _ _ _)
   | (with_reducible exact LeO.refl _)
   | (with_reducible exact LeO.none _)
   | (with_reducible refine LeO.ite ?_ ?_)
   | (with_reducible refine LeO.bind ?_ (fun _ => ?_))
   | exact ih0 _ _ _ _
   | exact ih1 _ _ _ _ _ _ _ _ _
   | exact rows_row.mono _ _ _ _ _ _
   | exact LeO.none _
   | refine LeO.ite ?_ ?_
   | refine LeO.bind ?_ (fun _ => ?_)
theorem rows_right.mono : ∀ a0 k, LeO (rows_right.f k a0) (rows_right.f (k + 1) a0) := by
 intro a0 k
 obtain ⟨ih0, ih1⟩ := rows_right.mono_l k
 unfold rows_right.f
 repeat' first
   | (with_reducible exact ih0 _ _ _ _)
   | (with_reducible exact ih1 _ _ _ _ _ _ _ _ _)
   | (with_reducible exact rows_row.mono _ _ _ _ _ _)
   | (with_reducible exact LeO.refl _)
   | (with_reducible exact LeO.none _)
   | (with_reducible refine LeO.ite ?_ ?_)
   | (with_reducible refine LeO.bind ?_ (fun _ => ?_))
   | exact ih0 _ _ _ _
   | exact ih1 _ _ _ _ _ _ _ _ _
   | exact rows_row.mono _ _ _ _ _ _
   | exact LeO.none _
   | refine LeO.ite ?_ ?_
   | refine LeO.bind ?_ (fun _ => ?_)
set_option maxHeartbeats 8000000 in
set_option maxRecDepth 100000 in
theorem rows_right.calls (k : Nat) (A0 : Option Addr) (c0 : Nat) (l0 : List (S38)) (r : Bool) (w : World) (hr0 : Kd.C k38 w A0 l0.length l0) (hc0 : l0.length ≤ c0) (h : rows_right.f k l0 = some r) :
  Calls Tryz.prog 61 #[.slice A0 l0.length c0] w fun e w' => e = .returned (.bool r) ∧ Below w.heap.size w w' := by
 have hu38 := Tryz.underlying38
 have HR0 := am hr0
 have HC0 := am hc0
 clear hr0 hc0
 have HB := am (Below.refl w.heap.size w)
 have H : (rows_right.l0 k 0 l0 (l0.length : Int) 0) = some r := h
 clear h
 have H' := am H
 clear H
 go_enter Tryz.func61, Tryz.ntmps61
 go_wp2
 go_loopg [3, 8] k (fun kq v3 v8 w' => ∃ (x3_1 : Int) (x8_1 : Int), v3 = .int .i64 x3_1 ∧ v8 = .int .i64 x8_1 ∧ Aside0 (rows_right.l0 kq x3_1 l0 (l0.length : Int) x8_1 = some r) ∧ Aside0 (kq ≤ k) ∧ Aside0 (Below w.heap.size w w'))
 case atStart => exact ⟨(0), (0), zr, zr, H', ⟨Nat.le_refl _⟩, ⟨zb HB⟩⟩
 case round =>
  clear H'
  obtain ⟨x3_1, x8_1, rfl, rfl, HA, HK1, HB⟩ := hrel
  cases gk with
  | zero => exact absurd HA.out (by simp [rows_right.l0])
  | succ k1 =>
   have H := HA.out
   clear HA
   simp only [rows_right.l0] at H
   by_cases c2 : x8_1 < (l0.length : Int)
   ·rw [if_pos c2] at H
    have c2b0 : decide (x8_1 < (l0.length : Int)) = true := decide_eq_true c2
    clear c2
    by_cases c3 : 0 ≤ x8_1
    ·rw [if_pos c3] at H
     have c3b0 : decide (0 ≤ x8_1) = true := decide_eq_true c3
     clear c3
     by_cases c4 : x8_1 < (l0.length : Int)
     ·rw [if_pos c4] at H
      have c4b0 : decide (x8_1 < (l0.length : Int)) = true := decide_eq_true c4
      clear c4
      have HC5 := am H
      clear H
      have p393 : 0 ≤ (x8_1 : Int) := of_decide_eq_true za
      have q393 : x8_1 < (l0.length : Int) := of_decide_eq_true za
      obtain ⟨ad393, A393_4, c393_4, e393, hx393_0, hx393_1, hx393_2, hx393_3, hx393_4, hl393_4, hi393_4⟩ := at_T38 HR0.out x8_1 p393 q393
      cases e393
      replace hx393_0 := (HB.out.cell (World.block_lt_of_cell? w _ hx393_0)).trans hx393_0
      replace hx393_1 := (HB.out.cell (World.block_lt_of_cell? w _ hx393_1)).trans hx393_1
      replace hx393_2 := (HB.out.cell (World.block_lt_of_cell? w _ hx393_2)).trans hx393_2
      replace hx393_3 := (HB.out.cell (World.block_lt_of_cell? w _ hx393_3)).trans hx393_3
      replace hx393_4 := (HB.out.cell (World.block_lt_of_cell? w _ hx393_4)).trans hx393_4
      have HR393_4 := am hi393_4
      have HC393_4 := am hl393_4
      clear hi393_4 hl393_4
      replace p393 := eq_true p393
      replace q393 := eq_true q393
      go_upto_region 5 with (first | ((with_reducible refine gate_dst (N := 5) rfl ?_); refine box_event ?hg (N := 5) ?hd (cs := #[.int .i64 0, .int .i64 0, .string (⟨#[]⟩ : ByteArray), .string (⟨#[]⟩ : ByteArray), .slice none 0 0]) (t := 38) ?hr ?_; (case hd => rfl); (case hg => rfl); (case hr => first | (go_simp; done) | (go_simp; rfl)); intro gb394 hg w6 hbox hb; have n0_ := am (below_step (zb HB) hb); have n1_ := am (hbox); have n2_ := am ((by rw [hg]; exact (below_size (zb HB)) : w.heap.size ≤ gb394)); have n3_ := am ((by rw [hg]; exact (below_size (zb HB)) : w.heap.size ≤ gb394)); clear HB; have HB := n0_; have BK394 := n1_; have GW394 := n2_; have GE394 := n3_; clear n0_ n1_ n2_ n3_; clear hb hbox hg; obtain ⟨hcz7_0, hcz7_1, hcz7_2, hcz7_3, hcz7_4, hfz7_0, hfz7_1, hfz7_2, hfz7_3, hfz7_4⟩ := cz5 BK394.out))
      (try simp only [Act.put, List.setIfInBounds_toArray, List.set_cons_zero, List.set_cons_succ])
      go_cut [25] (fun v25 wc => ∃ (kq : Nat) (x25_4 : Bool), v25 = .bool x25_4 ∧ Aside0 (rows_right.j1 kq l0 (l0.length : Int) x8_1 x25_4 ((rd_T38 l0 x8_1).f0) ((rd_T38 l0 x8_1).f1) ((rd_T38 l0 x8_1).f2) ((rd_T38 l0 x8_1).f3) ((rd_T38 l0 x8_1).f4) = some r) ∧ Aside0 (kq ≤ k1) ∧ Aside0 (wc.heap[gb394]? = some (.cells #[.int .i64 ((rd_T38 l0 x8_1).f0), .int .i64 ((rd_T38 l0 x8_1).f1), .string ((rd_T38 l0 x8_1).f2), .string ((rd_T38 l0 x8_1).f3), (.slice A393_4 ((rd_T38 l0 x8_1).f4).length c393_4)] 38 (0, 0))) ∧ Aside0 (Below w.heap.size w wc))
      case first =>
       have H := HC5.out
       clear HC5
       by_cases c8 : ((rd_T38 l0 x8_1).f0) < 0
       ·rw [if_pos c8] at H
        have c8b0 : decide (((rd_T38 l0 x8_1).f0) < 0) = true := decide_eq_true c8
        clear c8
        (first | rw [c8b0] | (simp only [i64_w, i32_w]; rw [c8b0]) | skip)
        have H' := am H
        clear H
        obtain ⟨hcz9_0, hcz9_1, hcz9_2, hcz9_3, hcz9_4, hfz9_0, hfz9_1, hfz9_2, hfz9_3, hfz9_4⟩ := cz5 BK394.out
        go_wp2
        go_meet
        case rel => exact ⟨_, (true), zr, H', ⟨by have := HK1.out; first | omega | exact Nat.le_refl _⟩, ⟨by refine blk_put (cs := #[.int .i64 ((rd_T38 l0 x8_1).f0), .int .i64 ((rd_T38 l0 x8_1).f1), .string ((rd_T38 l0 x8_1).f2), .string ((rd_T38 l0 x8_1).f3), .slice none 0 0]) ?_ 4 _ rfl; refine blk_put (cs := #[.int .i64 ((rd_T38 l0 x8_1).f0), .int .i64 ((rd_T38 l0 x8_1).f1), .string ((rd_T38 l0 x8_1).f2), .string (⟨#[]⟩ : ByteArray), .slice none 0 0]) ?_ 3 _ rfl; refine blk_put (cs := #[.int .i64 ((rd_T38 l0 x8_1).f0), .int .i64 ((rd_T38 l0 x8_1).f1), .string (⟨#[]⟩ : ByteArray), .string (⟨#[]⟩ : ByteArray), .slice none 0 0]) ?_ 2 _ rfl; refine blk_put (cs := #[.int .i64 ((rd_T38 l0 x8_1).f0), .int .i64 0, .string (⟨#[]⟩ : ByteArray), .string (⟨#[]⟩ : ByteArray), .slice none 0 0]) ?_ 1 _ rfl; refine blk_put (cs := #[.int .i64 0, .int .i64 0, .string (⟨#[]⟩ : ByteArray), .string (⟨#[]⟩ : ByteArray), .slice none 0 0]) ?_ 0 _ rfl; exact BK394.out⟩, ⟨zb1 HB GE394⟩⟩
       ·rw [if_neg c8] at H
        have c8b0 : decide (((rd_T38 l0 x8_1).f0) < 0) = false := decide_eq_false c8
        clear c8
        (first | rw [c8b0] | (simp only [i64_w, i32_w]; rw [c8b0]) | skip)
        by_cases c10 : ((rd_T38 l0 x8_1).f0) > x3_1
        ·rw [if_pos c10] at H
         have c10b0 : decide (x3_1 < ((rd_T38 l0 x8_1).f0)) = true := decide_eq_true c10
         clear c10
         have H' := am H
         clear H
         obtain ⟨hcz11_0, hcz11_1, hcz11_2, hcz11_3, hcz11_4, hfz11_0, hfz11_1, hfz11_2, hfz11_3, hfz11_4⟩ := cz5 BK394.out
         go_wp2
         go_meet
         case rel => exact ⟨_, (true), zr, H', ⟨by have := HK1.out; first | omega | exact Nat.le_refl _⟩, ⟨by refine blk_put (cs := #[.int .i64 ((rd_T38 l0 x8_1).f0), .int .i64 ((rd_T38 l0 x8_1).f1), .string ((rd_T38 l0 x8_1).f2), .string ((rd_T38 l0 x8_1).f3), .slice none 0 0]) ?_ 4 _ rfl; refine blk_put (cs := #[.int .i64 ((rd_T38 l0 x8_1).f0), .int .i64 ((rd_T38 l0 x8_1).f1), .string ((rd_T38 l0 x8_1).f2), .string (⟨#[]⟩ : ByteArray), .slice none 0 0]) ?_ 3 _ rfl; refine blk_put (cs := #[.int .i64 ((rd_T38 l0 x8_1).f0), .int .i64 ((rd_T38 l0 x8_1).f1), .string (⟨#[]⟩ : ByteArray), .string (⟨#[]⟩ : ByteArray), .slice none 0 0]) ?_ 2 _ rfl; refine blk_put (cs := #[.int .i64 ((rd_T38 l0 x8_1).f0), .int .i64 0, .string (⟨#[]⟩ : ByteArray), .string (⟨#[]⟩ : ByteArray), .slice none 0 0]) ?_ 1 _ rfl; refine blk_put (cs := #[.int .i64 0, .int .i64 0, .string (⟨#[]⟩ : ByteArray), .string (⟨#[]⟩ : ByteArray), .slice none 0 0]) ?_ 0 _ rfl; exact BK394.out⟩, ⟨zb1 HB GE394⟩⟩
        ·rw [if_neg c10] at H
         have c10b0 : decide (x3_1 < ((rd_T38 l0 x8_1).f0)) = false := decide_eq_false c10
         clear c10
         replace H := Option.bind_eq_some_iff.mp H
         obtain ⟨t395, A120, H⟩ := H
         have A12 := am A120
         clear A120
         have H' := am H
         clear H
         obtain ⟨hcz13_0, hcz13_1, hcz13_2, hcz13_3, hcz13_4, hfz13_0, hfz13_1, hfz13_2, hfz13_3, hfz13_4⟩ := cz5 BK394.out
         go_wp2_with (first | (go_at_call 96; (with_reducible refine (rows_row.calls k1 ((rd_T38 l0 x8_1).f0) ((rd_T38 l0 x8_1).f1) ((rd_T38 l0 x8_1).f2) ((rd_T38 l0 x8_1).f3) _ _ ((rd_T38 l0 x8_1).f4) t395 _ ?side1 ?side2 A12.out).mono ?_); (case side1 => exact Kd.C_below HR393_4.out (zb1 HB GE394)); (case side2 => exact HC393_4.out); rintro e w14 ⟨rfl, hb⟩; have n0_ := am (blk_below (g := gb394) (o := .cells #[.int .i64 ((rd_T38 l0 x8_1).f0), .int .i64 ((rd_T38 l0 x8_1).f1), .string ((rd_T38 l0 x8_1).f2), .string ((rd_T38 l0 x8_1).f3), .slice A393_4 ((rd_T38 l0 x8_1).f4).length c393_4] 38 (0, 0)) (by refine blk_put (cs := #[.int .i64 ((rd_T38 l0 x8_1).f0), .int .i64 ((rd_T38 l0 x8_1).f1), .string ((rd_T38 l0 x8_1).f2), .string ((rd_T38 l0 x8_1).f3), .slice none 0 0]) ?_ 4 _ rfl; refine blk_put (cs := #[.int .i64 ((rd_T38 l0 x8_1).f0), .int .i64 ((rd_T38 l0 x8_1).f1), .string ((rd_T38 l0 x8_1).f2), .string (⟨#[]⟩ : ByteArray), .slice none 0 0]) ?_ 3 _ rfl; refine blk_put (cs := #[.int .i64 ((rd_T38 l0 x8_1).f0), .int .i64 ((rd_T38 l0 x8_1).f1), .string (⟨#[]⟩ : ByteArray), .string (⟨#[]⟩ : ByteArray), .slice none 0 0]) ?_ 2 _ rfl; refine blk_put (cs := #[.int .i64 ((rd_T38 l0 x8_1).f0), .int .i64 0, .string (⟨#[]⟩ : ByteArray), .string (⟨#[]⟩ : ByteArray), .slice none 0 0]) ?_ 1 _ rfl; refine blk_put (cs := #[.int .i64 0, .int .i64 0, .string (⟨#[]⟩ : ByteArray), .string (⟨#[]⟩ : ByteArray), .slice none 0 0]) ?_ 0 _ rfl; exact BK394.out) hb); have n1_ := am (below_step (zb1 HB GE394) hb); clear BK394; clear HB; have BK394 := n0_; have HB := n1_; clear n0_ n1_; (try clear hb)))
         go_meet
         case rel => exact ⟨_, (!t395), zr, H', ⟨by have := HK1.out; first | omega | exact Nat.le_refl _⟩, ⟨by exact BK394.out⟩, ⟨zb1 HB GE394⟩⟩
      case rest =>
       clear HC5
       try clear c1
       try clear c2
       try clear c2b0
       try clear p2
       try clear c3
       try clear c3b0
       try clear p3
       try clear q3
       try clear hx3
       try clear c4
       try clear c4b0
       try clear c6
       try clear c8
       try clear c8b0
       try clear c10
       try clear c10b0
       try clear hcz11_0
       try clear hcz11_1
       try clear hcz11_2
       try clear hcz11_3
       try clear hcz11_4
       try clear hcz13_0
       try clear hcz13_1
       try clear hcz13_2
       try clear hcz13_3
       try clear hcz13_4
       try clear hcz7_0
       try clear hcz7_1
       try clear hcz7_2
       try clear hcz7_3
       try clear hcz7_4
       try clear hcz9_0
       try clear hcz9_1
       try clear hcz9_2
       try clear hcz9_3
       try clear hcz9_4
       try clear hfz11_0
       try clear hfz11_1
       try clear hfz11_2
       try clear hfz11_3
       try clear hfz11_4
       try clear hfz13_0
       try clear hfz13_1
       try clear hfz13_2
       try clear hfz13_3
       try clear hfz13_4
       try clear hfz7_0
       try clear hfz7_1
       try clear hfz7_2
       try clear hfz7_3
       try clear hfz7_4
       try clear hfz9_0
       try clear hfz9_1
       try clear hfz9_2
       try clear hfz9_3
       try clear hfz9_4
       try clear hx393_0
       try clear hx393_1
       try clear hx393_2
       try clear hx393_3
       try clear hx393_4
       try clear p393
       try clear q393
       obtain ⟨kq, x25_4, rfl, HA, HJ4, BK394, HB⟩ := hcut
       cases kq with
       | zero => exact absurd HA.out (by simp [rows_right.j1])
       | succ kj4 =>
        have H := HA.out
        clear HA
        simp only [rows_right.j1] at H
        by_cases c15 : x25_4 = true
        ·subst c15
         replace H : (some false) = some r := by rw [if_pos rfl] at H; exact H
         obtain rfl := Option.some.inj H
         go_wp2
         go_ret
         exact ⟨ze, zb1 HB GE394⟩
        ·replace c15 := Bool.eq_false_iff.mpr c15
         subst c15
         replace H : (if ((rd_T38 l0 x8_1).f1) = 0 then (rows_right.l0 kj4 (wrap64 (((rd_T38 l0 x8_1).f0) + 1)) l0 (l0.length : Int) (wrap64 (x8_1 + 1))) else (rows_right.l0 kj4 ((rd_T38 l0 x8_1).f0) l0 (l0.length : Int) (wrap64 (x8_1 + 1)))) = some r := by rw [if_neg (show ¬ (false = true) by decide)] at H; exact H
         by_cases c16 : ((rd_T38 l0 x8_1).f1) = 0
         ·rw [if_pos c16] at H
          have c16b0 : (((rd_T38 l0 x8_1).f1) == 0) = true := beq_iff_eq.mpr c16
          have c16b1 : (((rd_T38 l0 x8_1).f1) != 0) = false := bne_eq_false_iff_eq.mpr c16
          clear c16
          have H' := am H
          clear H
          obtain ⟨hcz17_0, hcz17_1, hcz17_2, hcz17_3, hcz17_4, hfz17_0, hfz17_1, hfz17_2, hfz17_3, hfz17_4⟩ := cz5 BK394.out
          go_wp2
          go_roundg kj4
          case measure => have := HK1.out; have := HJ4.out; omega
          case rel => exact ⟨(wrap64 (((rd_T38 l0 x8_1).f0) + 1)), (wrap64 (x8_1 + 1)), zr, zr, H', ⟨by have := HK1.out; have := HJ4.out; omega⟩, ⟨zb1 HB GE394⟩⟩
         ·rw [if_neg c16] at H
          have c16b0 : (((rd_T38 l0 x8_1).f1) == 0) = false := beq_eq_false_iff_ne.mpr c16
          have c16b1 : (((rd_T38 l0 x8_1).f1) != 0) = true := bne_iff_ne.mpr c16
          have H' := am H
          clear H
          obtain ⟨hcz18_0, hcz18_1, hcz18_2, hcz18_3, hcz18_4, hfz18_0, hfz18_1, hfz18_2, hfz18_3, hfz18_4⟩ := cz5 BK394.out
          go_wp2
          go_roundg kj4
          case measure => have := HK1.out; have := HJ4.out; omega
          case rel => exact ⟨(((rd_T38 l0 x8_1).f0)), (wrap64 (x8_1 + 1)), zr, zr, H', ⟨by have := HK1.out; have := HJ4.out; omega⟩, ⟨zb1 HB GE394⟩⟩
     ·rw [if_neg c4] at H
      exact absurd H (by simp)
    ·rw [if_neg c3] at H
     exact absurd H (by simp)
   ·rw [if_neg c2] at H
    have c2b0 : decide (x8_1 < (l0.length : Int)) = false := decide_eq_false c2
    clear c2
    obtain rfl := Option.some.inj H
    go_wp2
    go_ret
    exact ⟨ze, zb HB⟩

def rows_Check.f (k : Nat) (l0 : List (S38)) : Option (Int) := (rows_big.f l0).bind fun t396 => (if t396 = true then (some 2) else ((rows_right.f k l0).bind fun t397 => (if t397 = true then (some 0) else (some 40))))
theorem rows_Check.mono : ∀ a0 k, LeO (rows_Check.f k a0) (rows_Check.f (k + 1) a0) := by
 intro a0 k
 unfold rows_Check.f
 repeat' first
   | (with_reducible exact rows_right.mono _ _)
   | (with_reducible exact LeO.refl _)
   | (with_reducible exact LeO.none _)
   | (with_reducible refine LeO.ite ?_ ?_)
   | (with_reducible refine LeO.bind ?_ (fun _ => ?_))
   | exact rows_right.mono _ _
   | exact LeO.none _
   | refine LeO.ite ?_ ?_
   | refine LeO.bind ?_ (fun _ => ?_)
set_option maxHeartbeats 8000000 in
set_option maxRecDepth 100000 in
theorem rows_Check.calls (k : Nat) (A0 : Option Addr) (c0 : Nat) (l0 : List (S38)) (r : Int) (w : World) (hr0 : Kd.C k38 w A0 l0.length l0) (hc0 : l0.length ≤ c0) (h : rows_Check.f k l0 = some r) :
  Calls Tryz.prog 33 #[.slice A0 l0.length c0] w fun e w' => e = .returned (.int .i64 r) ∧ Below w.heap.size w w' := by
 have HR0 := am hr0
 have HC0 := am hc0
 clear hr0 hc0
 have HB := am (Below.refl w.heap.size w)
 have H : ((rows_big.f l0).bind fun t396 => (if t396 = true then (some 2) else ((rows_right.f k l0).bind fun t397 => (if t397 = true then (some 0) else (some 40))))) = some r := h
 clear h
 replace H := Option.bind_eq_some_iff.mp H
 obtain ⟨t396, A20, H⟩ := H
 have A2 := am A20
 clear A20
 by_cases c3 : t396 = true
 ·subst c3
  replace H : (some 2) = some r := by rw [if_pos rfl] at H; exact H
  obtain rfl := Option.some.inj H
  go_enter Tryz.func33, Tryz.ntmps33
  go_wp2_with (first | ((with_reducible refine gate_callee (f := 60) rfl ?_); refine goesL_ (some 5) rfl rfl Tryz.func60 (by kernel_rfl) rfl #[.slice A0 l0.length c0] rfl zm ?_; (with_reducible refine (rows_big.calls _ _ l0 true _ ?side1 ?side2 A2.out).mono ?_); (case side1 => repeat (first | exact HR0.out | (with_reducible refine Kd.C_alloc ?_ _) | (with_reducible refine Kd.C_drewN ?_ _) | (with_reducible refine Kd.C_drew ?_))); (case side2 => exact HC0.out); rintro e w4 ⟨rfl, hb⟩; refine ⟨_, rfl, ?_⟩; have n0_ := am (below_step (zb HB) hb); clear HB; have HB := n0_; clear n0_; (try clear hb)))
  go_ret
  exact ⟨ze, zb HB⟩
 ·replace c3 := Bool.eq_false_iff.mpr c3
  subst c3
  replace H : ((rows_right.f k l0).bind fun t397 => (if t397 = true then (some 0) else (some 40))) = some r := by rw [if_neg (show ¬ (false = true) by decide)] at H; exact H
  replace H := Option.bind_eq_some_iff.mp H
  obtain ⟨t397, A50, H⟩ := H
  have A5 := am A50
  clear A50
  by_cases c6 : t397 = true
  ·subst c6
   replace H : (some 0) = some r := by rw [if_pos rfl] at H; exact H
   obtain rfl := Option.some.inj H
   go_enter Tryz.func33, Tryz.ntmps33
   go_wp2_with (first | ((with_reducible refine gate_callee (f := 60) rfl ?_); refine goesL_ (some 5) rfl rfl Tryz.func60 (by kernel_rfl) rfl #[.slice A0 l0.length c0] rfl zm ?_; (with_reducible refine (rows_big.calls _ _ l0 false _ ?side1 ?side2 A2.out).mono ?_); (case side1 => repeat (first | exact HR0.out | (with_reducible refine Kd.C_alloc ?_ _) | (with_reducible refine Kd.C_drewN ?_ _) | (with_reducible refine Kd.C_drew ?_))); (case side2 => exact HC0.out); rintro e w7 ⟨rfl, hb⟩; refine ⟨_, rfl, ?_⟩; have n0_ := am (below_step (zb HB) hb); clear HB; have HB := n0_; clear n0_; (try clear hb)) | ((with_reducible refine gate_callee (f := 61) rfl ?_); refine goesL_ (some 8) rfl rfl Tryz.func61 (by kernel_rfl) rfl #[.slice A0 l0.length c0] rfl zm ?_; (with_reducible refine (rows_right.calls k _ _ l0 true _ ?side1 ?side2 A5.out).mono ?_); (case side1 => exact zc (Kd.C_below HR0.out HB.out)); (case side2 => exact HC0.out); rintro e w8 ⟨rfl, hb⟩; refine ⟨_, rfl, ?_⟩; have n0_ := am (below_step (zb HB) hb); clear HB; have HB := n0_; clear n0_; (try clear hb)))
   go_ret
   exact ⟨ze, zb HB⟩
  ·replace c6 := Bool.eq_false_iff.mpr c6
   subst c6
   replace H : (some 40) = some r := by rw [if_neg (show ¬ (false = true) by decide)] at H; exact H
   obtain rfl := Option.some.inj H
   go_enter Tryz.func33, Tryz.ntmps33
   go_wp2_with (first | ((with_reducible refine gate_callee (f := 60) rfl ?_); refine goesL_ (some 5) rfl rfl Tryz.func60 (by kernel_rfl) rfl #[.slice A0 l0.length c0] rfl zm ?_; (with_reducible refine (rows_big.calls _ _ l0 false _ ?side1 ?side2 A2.out).mono ?_); (case side1 => repeat (first | exact HR0.out | (with_reducible refine Kd.C_alloc ?_ _) | (with_reducible refine Kd.C_drewN ?_ _) | (with_reducible refine Kd.C_drew ?_))); (case side2 => exact HC0.out); rintro e w9 ⟨rfl, hb⟩; refine ⟨_, rfl, ?_⟩; have n0_ := am (below_step (zb HB) hb); clear HB; have HB := n0_; clear n0_; (try clear hb)) | ((with_reducible refine gate_callee (f := 61) rfl ?_); refine goesL_ (some 8) rfl rfl Tryz.func61 (by kernel_rfl) rfl #[.slice A0 l0.length c0] rfl zm ?_; (with_reducible refine (rows_right.calls k _ _ l0 false _ ?side1 ?side2 A5.out).mono ?_); (case side1 => exact zc (Kd.C_below HR0.out HB.out)); (case side2 => exact HC0.out); rintro e w10 ⟨rfl, hb⟩; refine ⟨_, rfl, ?_⟩; have n0_ := am (below_step (zb HB) hb); clear HB; have HB := n0_; clear n0_; (try clear hb)))
   go_ret
   exact ⟨ze, zb HB⟩

def clean_becomes.j0 : Nat → Bool → Bool → Int → Int → ByteArray → ByteArray → List (S45) → Bool → Bool → List ByteArray → List ByteArray → List ByteArray → List (S60) → Bool → Bool → Option (Int)
 | 0, _, _, _, _, _, _, _, _, _, _, _, _, _, _, _ => none
 | k + 1, x2, x11, x399000, x399001, x399002, x399003, x399004, x400000, x400001, x400002, x400003, x400004, x400005, x400006, x400007 => if x11 = true then (some 0) else (if x399001 = 2 then (some 1) else (if x2 = true then ((risk_Element.f x399002).bind fun t400 => (if t400 = true then (some 1) else ((config_Element.f k x400000 x400001 x400002 x400003 x400004 x400005 x400006 x400007 x399002).bind fun t401 => (some t401)))) else ((config_Element.f k x400000 x400001 x400002 x400003 x400004 x400005 x400006 x400007 x399002).bind fun t402 => (some t402))))
def clean_becomes.f (k : Nat) (a0_0 : Int) (a0_1 : Int) (a0_2 : ByteArray) (a0_3 : ByteArray) (l0_4 : List (S45)) (a1_0 : Bool) (a1_1 : Bool) (l1_2 : List ByteArray) (l1_3 : List ByteArray) (l1_4 : List ByteArray) (l1_5 : List (S60)) (a1_6 : Bool) (a1_7 : Bool) (a2 : Bool) : Option (Int) := if a0_1 = 1 then (some 0) else (if a0_1 = 2 then (clean_becomes.j0 k a2 a1_6 a0_0 a0_1 a0_2 a0_3 l0_4 a1_0 a1_1 l1_2 l1_3 l1_4 l1_5 a1_6 a1_7) else (clean_becomes.j0 k a2 false a0_0 a0_1 a0_2 a0_3 l0_4 a1_0 a1_1 l1_2 l1_3 l1_4 l1_5 a1_6 a1_7))
theorem clean_becomes.mono_l : ∀ k, (∀ y0 y1 y2 y3 y4 y5 y6 y7 y8 y9 y10 y11 y12 y13 y14, LeO (clean_becomes.j0 k y0 y1 y2 y3 y4 y5 y6 y7 y8 y9 y10 y11 y12 y13 y14) (clean_becomes.j0 (k + 1) y0 y1 y2 y3 y4 y5 y6 y7 y8 y9 y10 y11 y12 y13 y14))
 | 0 => fun _ _ _ _ _ _ _ _ _ _ _ _ _ _ _ r h => by simp [clean_becomes.j0] at h
 | k + 1 => by
  have ih0 := clean_becomes.mono_l k
  ·intro y0 y1 y2 y3 y4 y5 y6 y7 y8 y9 y10 y11 y12 y13 y14
   unfold clean_becomes.j0
   repeat' first
   | (with_reducible exact ih0 _ _ _ _ _ _ _ _ _ _ _ _ _ _ _)
   | (with_reducible exact config_Element.mono _ _ _ _ _ _ _ _ _ _)
   | (with_reducible exact LeO.refl _)
   | (with_reducible exact LeO.none _)
   | (with_reducible refine LeO.ite ?_ ?_)
   | (with_reducible refine LeO.bind ?_ (fun _ => ?_))
   | exact ih0 _ _ _ _ _ _ _ _ _ _ _ _ _ _ _
   | exact config_Element.mono _ _ _ _ _ _ _ _ _ _
   | exact LeO.none _
   | refine LeO.ite ?_ ?_
   | refine LeO.bind ?_ (fun _ => ?_)
theorem clean_becomes.mono : ∀ a0 a1 a2 a3 a4 a5 a6 a7 a8 a9 a10 a11 a12 a13 k, LeO (clean_becomes.f k a0 a1 a2 a3 a4 a5 a6 a7 a8 a9 a10 a11 a12 a13) (clean_becomes.f (k + 1) a0 a1 a2 a3 a4 a5 a6 a7 a8 a9 a10 a11 a12 a13) := by
 intro a0 a1 a2 a3 a4 a5 a6 a7 a8 a9 a10 a11 a12 a13 k
 have ih0 := clean_becomes.mono_l k
 unfold clean_becomes.f
 repeat' first
   | (with_reducible exact ih0 _ _ _ _ _ _ _ _ _ _ _ _ _ _ _)
   | (with_reducible exact config_Element.mono _ _ _ _ _ _ _ _ _ _)
   | (with_reducible exact LeO.refl _)
   | (with_reducible exact LeO.none _)
   | (with_reducible refine LeO.ite ?_ ?_)
   | (with_reducible refine LeO.bind ?_ (fun _ => ?_))
   | exact ih0 _ _ _ _ _ _ _ _ _ _ _ _ _ _ _
   | exact config_Element.mono _ _ _ _ _ _ _ _ _ _
   | exact LeO.none _
   | refine LeO.ite ?_ ?_
   | refine LeO.bind ?_ (fun _ => ?_)
set_option maxHeartbeats 8000000 in
set_option maxRecDepth 100000 in
theorem clean_becomes.calls (k : Nat) (a0_0 : Int) (a0_1 : Int) (a0_2 : ByteArray) (a0_3 : ByteArray) (A0_4 : Option Addr) (c0_4 : Nat) (l0_4 : List (S45)) (a1_0 : Bool) (a1_1 : Bool) (A1_2 : Option Addr) (c1_2 : Nat) (l1_2 : List ByteArray) (A1_3 : Option Addr) (c1_3 : Nat) (l1_3 : List ByteArray) (A1_4 : Option Addr) (c1_4 : Nat) (l1_4 : List ByteArray) (A1_5 : Option Addr) (c1_5 : Nat) (l1_5 : List (S60)) (a1_6 : Bool) (a1_7 : Bool) (a2 : Bool) (r : Int) (w : World) (hr0_4 : Kd.C k45 w A0_4 l0_4.length l0_4) (hc0_4 : l0_4.length ≤ c0_4) (hr1_2 : Kd.C Kd.string w A1_2 l1_2.length l1_2) (hc1_2 : l1_2.length ≤ c1_2) (hr1_3 : Kd.C Kd.string w A1_3 l1_3.length l1_3) (hc1_3 : l1_3.length ≤ c1_3) (hr1_4 : Kd.C Kd.string w A1_4 l1_4.length l1_4) (hc1_4 : l1_4.length ≤ c1_4) (hr1_5 : Kd.C k60 w A1_5 l1_5.length l1_5) (hc1_5 : l1_5.length ≤ c1_5) (h : clean_becomes.f k a0_0 a0_1 a0_2 a0_3 l0_4 a1_0 a1_1 l1_2 l1_3 l1_4 l1_5 a1_6 a1_7 a2 = some r) :
  Calls Tryz.prog 34 #[.agg #[.int .i64 a0_0, .int .i64 a0_1, .string a0_2, .string a0_3, .slice A0_4 l0_4.length c0_4], .agg #[.bool a1_0, .bool a1_1, .slice A1_2 l1_2.length c1_2, .slice A1_3 l1_3.length c1_3, .slice A1_4 l1_4.length c1_4, .slice A1_5 l1_5.length c1_5, .bool a1_6, .bool a1_7], .bool a2] w fun e w' => e = .returned (.int .i64 r) ∧ Below w.heap.size w w' := by
 have hu38 := Tryz.underlying38
 have hu32 := Tryz.underlying32
 have HR0_4 := am hr0_4
 have HC0_4 := am hc0_4
 clear hr0_4 hc0_4
 have HR1_2 := am hr1_2
 have HC1_2 := am hc1_2
 clear hr1_2 hc1_2
 have HR1_3 := am hr1_3
 have HC1_3 := am hc1_3
 clear hr1_3 hc1_3
 have HR1_4 := am hr1_4
 have HC1_4 := am hc1_4
 clear hr1_4 hc1_4
 have HR1_5 := am hr1_5
 have HC1_5 := am hc1_5
 clear hr1_5 hc1_5
 have HB := am (Below.refl w.heap.size w)
 have H : (if a0_1 = 1 then (some 0) else (if a0_1 = 2 then (clean_becomes.j0 k a2 a1_6 a0_0 a0_1 a0_2 a0_3 l0_4 a1_0 a1_1 l1_2 l1_3 l1_4 l1_5 a1_6 a1_7) else (clean_becomes.j0 k a2 false a0_0 a0_1 a0_2 a0_3 l0_4 a1_0 a1_1 l1_2 l1_3 l1_4 l1_5 a1_6 a1_7))) = some r := h
 clear h
 by_cases c4 : a0_1 = 1
 ·rw [if_pos c4] at H
  have c4b0 : (a0_1 == 1) = true := beq_iff_eq.mpr c4
  have c4b1 : (a0_1 != 1) = false := bne_eq_false_iff_eq.mpr c4
  clear c4
  obtain rfl := Option.some.inj H
  go_enter Tryz.func34, Tryz.ntmps34
  go_wp2_with (first | ((with_reducible refine gate_dst (N := 3) rfl ?_); refine box_event ?hg (N := 3) ?hd (cs := #[.int .i64 a0_0, .int .i64 a0_1, .string a0_2, .string a0_3, .slice A0_4 l0_4.length c0_4]) (t := 38) ?hr ?_; (case hd => rfl); (case hg => rfl); (case hr => first | (go_simp; done) | (go_simp; rfl)); intro gb398 hg w5 hbox hb; have n0_ := am (below_step (zb HB) hb); have n1_ := am (hbox); have n2_ := am ((by rw [hg]; exact (below_size (zb HB)) : w.heap.size ≤ gb398)); have n3_ := am ((by rw [hg]; exact (below_size (zb HB)) : w.heap.size ≤ gb398)); clear HB; have HB := n0_; have BK398 := n1_; have GW398 := n2_; have GE398 := n3_; clear n0_ n1_ n2_ n3_; clear hb hbox hg) | ((with_reducible refine gate_dst (N := 4) rfl ?_); refine box_event ?hg (N := 4) ?hd (cs := #[.bool a1_0, .bool a1_1, .slice A1_2 l1_2.length c1_2, .slice A1_3 l1_3.length c1_3, .slice A1_4 l1_4.length c1_4, .slice A1_5 l1_5.length c1_5, .bool a1_6, .bool a1_7]) (t := 32) ?hr ?_; (case hd => rfl); (case hg => rfl); (case hr => first | (go_simp; done) | (go_simp; rfl)); intro gb399 hg w6 hbox hb; have n0_ := am (blk_below (by exact BK398.out) hb); have n1_ := am (below_step (zb1 HB GE398) hb); have n2_ := am (hbox); have n3_ := am ((by rw [hg]; exact (below_size (zb1 HB GE398)) : w.heap.size ≤ gb399)); have n4_ := am ((by rw [hg]; exact (below_size (zb1 HB GE398)) : w.heap.size ≤ gb399)); have n5_ := am ((by rw [hg]; exact Nat.ne_of_lt (blk_lt (by exact BK398.out)) : gb398 ≠ gb399)); have n6_ := am ((by rw [hg]; exact Nat.ne_of_gt (blk_lt (by exact BK398.out)) : gb399 ≠ gb398)); clear BK398; clear HB; have BK398 := n0_; have HB := n1_; have BK399 := n2_; have GW399 := n3_; have GE399 := n4_; have NB398_399 := n5_; have NB399_398 := n6_; clear n0_ n1_ n2_ n3_ n4_ n5_ n6_; clear hb hbox hg; have hnb7 := NB398_399.out; have hnc7 := NB399_398.out; obtain ⟨hcz8_0, hcz8_1, hcz8_2, hcz8_3, hcz8_4, hfz8_0, hfz8_1, hfz8_2, hfz8_3, hfz8_4⟩ := cz5 BK398.out))
  go_ret
  exact ⟨ze, zb2 HB GE398 GE399⟩
 ·rw [if_neg c4] at H
  have c4b0 : (a0_1 == 1) = false := beq_eq_false_iff_ne.mpr c4
  have c4b1 : (a0_1 != 1) = true := bne_iff_ne.mpr c4
  have HC9 := am H
  clear H
  go_enter Tryz.func34, Tryz.ntmps34
  go_upto_region 3 with (first | ((with_reducible refine gate_dst (N := 3) rfl ?_); refine box_event ?hg (N := 3) ?hd (cs := #[.int .i64 a0_0, .int .i64 a0_1, .string a0_2, .string a0_3, .slice A0_4 l0_4.length c0_4]) (t := 38) ?hr ?_; (case hd => rfl); (case hg => rfl); (case hr => first | (go_simp; done) | (go_simp; rfl)); intro gb398 hg w10 hbox hb; have n0_ := am (below_step (zb HB) hb); have n1_ := am (hbox); have n2_ := am ((by rw [hg]; exact (below_size (zb HB)) : w.heap.size ≤ gb398)); have n3_ := am ((by rw [hg]; exact (below_size (zb HB)) : w.heap.size ≤ gb398)); clear HB; have HB := n0_; have BK398 := n1_; have GW398 := n2_; have GE398 := n3_; clear n0_ n1_ n2_ n3_; clear hb hbox hg) | ((with_reducible refine gate_dst (N := 4) rfl ?_); refine box_event ?hg (N := 4) ?hd (cs := #[.bool a1_0, .bool a1_1, .slice A1_2 l1_2.length c1_2, .slice A1_3 l1_3.length c1_3, .slice A1_4 l1_4.length c1_4, .slice A1_5 l1_5.length c1_5, .bool a1_6, .bool a1_7]) (t := 32) ?hr ?_; (case hd => rfl); (case hg => rfl); (case hr => first | (go_simp; done) | (go_simp; rfl)); intro gb399 hg w11 hbox hb; have n0_ := am (blk_below (by exact BK398.out) hb); have n1_ := am (below_step (zb1 HB GE398) hb); have n2_ := am (hbox); have n3_ := am ((by rw [hg]; exact (below_size (zb1 HB GE398)) : w.heap.size ≤ gb399)); have n4_ := am ((by rw [hg]; exact (below_size (zb1 HB GE398)) : w.heap.size ≤ gb399)); have n5_ := am ((by rw [hg]; exact Nat.ne_of_lt (blk_lt (by exact BK398.out)) : gb398 ≠ gb399)); have n6_ := am ((by rw [hg]; exact Nat.ne_of_gt (blk_lt (by exact BK398.out)) : gb399 ≠ gb398)); clear BK398; clear HB; have BK398 := n0_; have HB := n1_; have BK399 := n2_; have GW399 := n3_; have GE399 := n4_; have NB398_399 := n5_; have NB399_398 := n6_; clear n0_ n1_ n2_ n3_ n4_ n5_ n6_; clear hb hbox hg; have hnb12 := NB398_399.out; have hnc12 := NB399_398.out; obtain ⟨hcz13_0, hcz13_1, hcz13_2, hcz13_3, hcz13_4, hfz13_0, hfz13_1, hfz13_2, hfz13_3, hfz13_4⟩ := cz5 BK398.out))
  (try simp only [Act.put, List.setIfInBounds_toArray, List.set_cons_zero, List.set_cons_succ])
  go_cut [11] (fun v11 wc => ∃ (kq : Nat) (x11_8 : Bool), v11 = .bool x11_8 ∧ Aside0 (clean_becomes.j0 kq a2 x11_8 a0_0 a0_1 a0_2 a0_3 l0_4 a1_0 a1_1 l1_2 l1_3 l1_4 l1_5 a1_6 a1_7 = some r) ∧ Aside0 (kq ≤ k) ∧ Aside0 (wc.heap[gb398]? = some (.cells #[.int .i64 a0_0, .int .i64 a0_1, .string a0_2, .string a0_3, (.slice A0_4 l0_4.length c0_4)] 38 (0, 0))) ∧ Aside0 (wc.heap[gb399]? = some (.cells #[.bool a1_0, .bool a1_1, (.slice A1_2 l1_2.length c1_2), (.slice A1_3 l1_3.length c1_3), (.slice A1_4 l1_4.length c1_4), (.slice A1_5 l1_5.length c1_5), .bool a1_6, .bool a1_7] 32 (0, 0))) ∧ Aside0 (Below w.heap.size w wc))
  case first =>
   have H := HC9.out
   clear HC9
   by_cases c14 : a0_1 = 2
   ·rw [if_pos c14] at H
    have c14b0 : (a0_1 == 2) = true := beq_iff_eq.mpr c14
    have c14b1 : (a0_1 != 2) = false := bne_eq_false_iff_eq.mpr c14
    clear c14
    (first | rw [c14b0] | (simp only [i64_w, i32_w]; rw [c14b0]) | skip)
    have H' := am H
    clear H
    have hnb15 := NB398_399.out
    have hnc15 := NB399_398.out
    obtain ⟨hcz16_0, hcz16_1, hcz16_2, hcz16_3, hcz16_4, hfz16_0, hfz16_1, hfz16_2, hfz16_3, hfz16_4⟩ := cz5 BK398.out
    obtain ⟨hcz17_0, hcz17_1, hcz17_2, hcz17_3, hcz17_4, hcz17_5, hcz17_6, hcz17_7, hfz17_0, hfz17_1, hfz17_2, hfz17_3, hfz17_4, hfz17_5, hfz17_6, hfz17_7⟩ := cz8 BK399.out
    go_wp2
    go_meet
    case rel => exact ⟨_, (a1_6), zr, H', ⟨by first | omega | exact Nat.le_refl _⟩, ⟨by exact BK398.out⟩, ⟨by exact BK399.out⟩, ⟨zb2 HB GE398 GE399⟩⟩
   ·rw [if_neg c14] at H
    have c14b0 : (a0_1 == 2) = false := beq_eq_false_iff_ne.mpr c14
    have c14b1 : (a0_1 != 2) = true := bne_iff_ne.mpr c14
    (first | rw [c14b0] | (simp only [i64_w, i32_w]; rw [c14b0]) | skip)
    have H' := am H
    clear H
    have hnb18 := NB398_399.out
    have hnc18 := NB399_398.out
    obtain ⟨hcz19_0, hcz19_1, hcz19_2, hcz19_3, hcz19_4, hfz19_0, hfz19_1, hfz19_2, hfz19_3, hfz19_4⟩ := cz5 BK398.out
    go_wp2
    go_meet
    case rel => exact ⟨_, (false), zr, H', ⟨by first | omega | exact Nat.le_refl _⟩, ⟨by exact BK398.out⟩, ⟨by exact BK399.out⟩, ⟨zb2 HB GE398 GE399⟩⟩
  case rest =>
   clear HC9
   try clear c1
   try clear p2
   try clear c3
   try clear c4
   try clear c4b0
   try clear c4b1
   try clear c7
   try clear c12
   try clear c14
   try clear c14b0
   try clear c14b1
   try clear c15
   try clear c18
   try clear hcz13_0
   try clear hcz13_1
   try clear hcz13_2
   try clear hcz13_3
   try clear hcz13_4
   try clear hcz16_0
   try clear hcz16_1
   try clear hcz16_2
   try clear hcz16_3
   try clear hcz16_4
   try clear hcz17_0
   try clear hcz17_1
   try clear hcz17_2
   try clear hcz17_3
   try clear hcz17_4
   try clear hcz17_5
   try clear hcz17_6
   try clear hcz17_7
   try clear hcz19_0
   try clear hcz19_1
   try clear hcz19_2
   try clear hcz19_3
   try clear hcz19_4
   try clear hcz8_0
   try clear hcz8_1
   try clear hcz8_2
   try clear hcz8_3
   try clear hcz8_4
   try clear hfz13_0
   try clear hfz13_1
   try clear hfz13_2
   try clear hfz13_3
   try clear hfz13_4
   try clear hfz16_0
   try clear hfz16_1
   try clear hfz16_2
   try clear hfz16_3
   try clear hfz16_4
   try clear hfz17_0
   try clear hfz17_1
   try clear hfz17_2
   try clear hfz17_3
   try clear hfz17_4
   try clear hfz17_5
   try clear hfz17_6
   try clear hfz17_7
   try clear hfz19_0
   try clear hfz19_1
   try clear hfz19_2
   try clear hfz19_3
   try clear hfz19_4
   try clear hfz8_0
   try clear hfz8_1
   try clear hfz8_2
   try clear hfz8_3
   try clear hfz8_4
   obtain ⟨kq, x11_8, rfl, HA, HJ8, BK398, BK399, HB⟩ := hcut
   cases kq with
   | zero => exact absurd HA.out (by simp [clean_becomes.j0])
   | succ kj8 =>
    have H := HA.out
    clear HA
    simp only [clean_becomes.j0] at H
    by_cases c20 : x11_8 = true
    ·subst c20
     replace H : (some 0) = some r := by rw [if_pos rfl] at H; exact H
     obtain rfl := Option.some.inj H
     go_wp2
     go_ret
     exact ⟨ze, zb2 HB GE398 GE399⟩
    ·replace c20 := Bool.eq_false_iff.mpr c20
     subst c20
     replace H : (if a0_1 = 2 then (some 1) else (if a2 = true then ((risk_Element.f a0_2).bind fun t400 => (if t400 = true then (some 1) else ((config_Element.f kj8 a1_0 a1_1 l1_2 l1_3 l1_4 l1_5 a1_6 a1_7 a0_2).bind fun t401 => (some t401)))) else ((config_Element.f kj8 a1_0 a1_1 l1_2 l1_3 l1_4 l1_5 a1_6 a1_7 a0_2).bind fun t402 => (some t402)))) = some r := by rw [if_neg (show ¬ (false = true) by decide)] at H; exact H
     by_cases c21 : a0_1 = 2
     ·rw [if_pos c21] at H
      have c21b0 : (a0_1 == 2) = true := beq_iff_eq.mpr c21
      have c21b1 : (a0_1 != 2) = false := bne_eq_false_iff_eq.mpr c21
      clear c21
      obtain rfl := Option.some.inj H
      have hnb22 := NB398_399.out
      have hnc22 := NB399_398.out
      obtain ⟨hcz23_0, hcz23_1, hcz23_2, hcz23_3, hcz23_4, hfz23_0, hfz23_1, hfz23_2, hfz23_3, hfz23_4⟩ := cz5 BK398.out
      go_wp2
      go_ret
      exact ⟨ze, zb2 HB GE398 GE399⟩
     ·rw [if_neg c21] at H
      have c21b0 : (a0_1 == 2) = false := beq_eq_false_iff_ne.mpr c21
      have c21b1 : (a0_1 != 2) = true := bne_iff_ne.mpr c21
      by_cases c24 : a2 = true
      ·subst c24
       replace H : ((risk_Element.f a0_2).bind fun t400 => (if t400 = true then (some 1) else ((config_Element.f kj8 a1_0 a1_1 l1_2 l1_3 l1_4 l1_5 a1_6 a1_7 a0_2).bind fun t401 => (some t401)))) = some r := by rw [if_pos rfl] at H; exact H
       replace H := Option.bind_eq_some_iff.mp H
       obtain ⟨t400, A250, H⟩ := H
       have A25 := am A250
       clear A250
       by_cases c26 : t400 = true
       ·subst c26
        replace H : (some 1) = some r := by rw [if_pos rfl] at H; exact H
        obtain rfl := Option.some.inj H
        have hnb27 := NB398_399.out
        have hnc27 := NB399_398.out
        obtain ⟨hcz28_0, hcz28_1, hcz28_2, hcz28_3, hcz28_4, hfz28_0, hfz28_1, hfz28_2, hfz28_3, hfz28_4⟩ := cz5 BK398.out
        go_wp2_with (first | (go_at_call 37; (with_reducible refine (risk_Element.calls a0_2 true _ A25.out).mono ?_); rintro e w' ⟨rfl, ⟨nd, rfl⟩⟩))
        go_ret
        exact ⟨ze, zb2 HB GE398 GE399⟩
       ·replace c26 := Bool.eq_false_iff.mpr c26
        subst c26
        replace H : ((config_Element.f kj8 a1_0 a1_1 l1_2 l1_3 l1_4 l1_5 a1_6 a1_7 a0_2).bind fun t401 => (some t401)) = some r := by rw [if_neg (show ¬ (false = true) by decide)] at H; exact H
        replace H := Option.bind_eq_some_iff.mp H
        obtain ⟨t401, A290, H⟩ := H
        replace H : (some t401) = some r := H
        have A29 := am A290
        clear A290
        obtain rfl := Option.some.inj H
        have hnb30 := NB398_399.out
        have hnc30 := NB399_398.out
        obtain ⟨hcz31_0, hcz31_1, hcz31_2, hcz31_3, hcz31_4, hfz31_0, hfz31_1, hfz31_2, hfz31_3, hfz31_4⟩ := cz5 BK398.out
        go_wp2_with (first | (go_at_call 37; (with_reducible refine (risk_Element.calls a0_2 false _ A25.out).mono ?_); rintro e w' ⟨rfl, ⟨nd, rfl⟩⟩; obtain ⟨hcz32_0, hcz32_1, hcz32_2, hcz32_3, hcz32_4, hcz32_5, hcz32_6, hcz32_7, hfz32_0, hfz32_1, hfz32_2, hfz32_3, hfz32_4, hfz32_5, hfz32_6, hfz32_7⟩ := cz8 BK399.out) | ((with_reducible refine gate_callee (f := 26) rfl ?_); refine goesL_ (some 33) rfl rfl Tryz.func26 (by kernel_rfl) rfl #[.agg #[.bool a1_0, .bool a1_1, .slice A1_2 l1_2.length c1_2, .slice A1_3 l1_3.length c1_3, .slice A1_4 l1_4.length c1_4, .slice A1_5 l1_5.length c1_5, .bool a1_6, .bool a1_7], .string a0_2] rfl zm ?_; (with_reducible refine (config_Element.calls kj8 a1_0 a1_1 _ _ l1_2 _ _ l1_3 _ _ l1_4 _ _ l1_5 a1_6 a1_7 a0_2 t401 _ ?side1 ?side2 ?side3 ?side4 ?side5 ?side6 ?side7 ?side8 A29.out).mono ?_); (case side1 => exact Kd.C_below HR1_2.out (zb2 HB GE398 GE399)); (case side2 => exact HC1_2.out); (case side3 => exact Kd.C_below HR1_3.out (zb2 HB GE398 GE399)); (case side4 => exact HC1_3.out); (case side5 => exact Kd.C_below HR1_4.out (zb2 HB GE398 GE399)); (case side6 => exact HC1_4.out); (case side7 => exact Kd.C_below HR1_5.out (zb2 HB GE398 GE399)); (case side8 => exact HC1_5.out); rintro e w33 ⟨rfl, hb⟩; refine ⟨_, rfl, ?_⟩; have n2_ := am (below_step (zb2 HB GE398 GE399) hb); clear BK398; clear BK399; clear HB; have HB := n2_; clear n2_; (try clear hb)))
        go_ret
        exact ⟨ze, zb2 HB GE398 GE399⟩
      ·replace c24 := Bool.eq_false_iff.mpr c24
       subst c24
       replace H : ((config_Element.f kj8 a1_0 a1_1 l1_2 l1_3 l1_4 l1_5 a1_6 a1_7 a0_2).bind fun t402 => (some t402)) = some r := by rw [if_neg (show ¬ (false = true) by decide)] at H; exact H
       replace H := Option.bind_eq_some_iff.mp H
       obtain ⟨t402, A340, H⟩ := H
       replace H : (some t402) = some r := H
       have A34 := am A340
       clear A340
       obtain rfl := Option.some.inj H
       have hnb35 := NB398_399.out
       have hnc35 := NB399_398.out
       obtain ⟨hcz36_0, hcz36_1, hcz36_2, hcz36_3, hcz36_4, hfz36_0, hfz36_1, hfz36_2, hfz36_3, hfz36_4⟩ := cz5 BK398.out
       obtain ⟨hcz37_0, hcz37_1, hcz37_2, hcz37_3, hcz37_4, hcz37_5, hcz37_6, hcz37_7, hfz37_0, hfz37_1, hfz37_2, hfz37_3, hfz37_4, hfz37_5, hfz37_6, hfz37_7⟩ := cz8 BK399.out
       go_wp2_with (first | ((with_reducible refine gate_callee (f := 26) rfl ?_); refine goesL_ (some 33) rfl rfl Tryz.func26 (by kernel_rfl) rfl #[.agg #[.bool a1_0, .bool a1_1, .slice A1_2 l1_2.length c1_2, .slice A1_3 l1_3.length c1_3, .slice A1_4 l1_4.length c1_4, .slice A1_5 l1_5.length c1_5, .bool a1_6, .bool a1_7], .string a0_2] rfl zm ?_; (with_reducible refine (config_Element.calls kj8 a1_0 a1_1 _ _ l1_2 _ _ l1_3 _ _ l1_4 _ _ l1_5 a1_6 a1_7 a0_2 t402 _ ?side1 ?side2 ?side3 ?side4 ?side5 ?side6 ?side7 ?side8 A34.out).mono ?_); (case side1 => exact zc (Kd.C_below HR1_2.out HB.out)); (case side2 => exact HC1_2.out); (case side3 => exact zc (Kd.C_below HR1_3.out HB.out)); (case side4 => exact HC1_3.out); (case side5 => exact zc (Kd.C_below HR1_4.out HB.out)); (case side6 => exact HC1_4.out); (case side7 => exact zc (Kd.C_below HR1_5.out HB.out)); (case side8 => exact HC1_5.out); rintro e w38 ⟨rfl, hb⟩; refine ⟨_, rfl, ?_⟩; have n2_ := am (below_step (zb2 HB GE398 GE399) hb); clear BK398; clear BK399; clear HB; have HB := n2_; clear n2_; (try clear hb)))
       go_ret
       exact ⟨ze, zb2 HB GE398 GE399⟩

def rows_is.f (l0 : List (S38)) (a1 : Int) : Option (Bool) := if a1 ≥ 0 then (some (decide (a1 < (l0.length : Int)))) else (some false)
set_option maxHeartbeats 8000000 in
set_option maxRecDepth 100000 in
theorem rows_is.calls (A0 : Option Addr) (c0 : Nat) (l0 : List (S38)) (a1 : Int) (r : Bool) (w : World) (hr0 : Kd.C k38 w A0 l0.length l0) (hc0 : l0.length ≤ c0) (h : rows_is.f l0 a1 = some r) :
  Calls Tryz.prog 62 #[.slice A0 l0.length c0, .int .i64 a1] w fun e w' => e = .returned (.bool r) ∧ Drawn0 w w' := by
 have HR0 := am hr0
 have HC0 := am hc0
 clear hr0 hc0
 have H : (if a1 ≥ 0 then (some (decide (a1 < (l0.length : Int)))) else (some false)) = some r := h
 clear h
 by_cases c3 : a1 ≥ 0
 ·rw [if_pos c3] at H
  have c3b0 : decide (0 ≤ a1) = true := decide_eq_true c3
  clear c3
  obtain rfl := Option.some.inj H
  go_enter Tryz.func62, Tryz.ntmps62
  go_wp2
  go_ret
  exact ⟨zt, zw⟩
 ·rw [if_neg c3] at H
  have c3b0 : decide (0 ≤ a1) = false := decide_eq_false c3
  clear c3
  obtain rfl := Option.some.inj H
  go_enter Tryz.func62, Tryz.ntmps62
  go_wp2
  go_ret
  exact ⟨zt, zw⟩


def rows_End.l0 : Nat → List (S38) → Int → Int → Option (Int)
 | 0, _, _, _ => none
 | k + 1, x0, x1, x5 => if x5 < (x0.length : Int) then (if 0 ≤ x5 then (if 0 ≤ x1 then (if x1 < (x0.length : Int) then (if ((rd_T38 x0 x5).f0) > ((rd_T38 x0 x1).f0) then (rows_End.l0 k x0 x1 (wrap64 (x5 + 1))) else (some x5)) else (none)) else (none)) else (none)) else (some x5)
def rows_End.f (k : Nat) (l0 : List (S38)) (a1 : Int) : Option (Int) := (rows_is.f l0 a1).bind fun t403 => (if t403 = true then (rows_End.l0 k l0 a1 (wrap64 (a1 + 1))) else (some 0))
theorem rows_End.mono_l : ∀ k, (∀ y0 y1 y2, LeO (rows_End.l0 k y0 y1 y2) (rows_End.l0 (k + 1) y0 y1 y2))
 | 0 => fun _ _ _ r h => by simp [rows_End.l0] at h
 | k + 1 => by
  have ih0 := rows_End.mono_l k
  ·intro y0 y1 y2
   unfold rows_End.l0
   repeat' first
   | (with_reducible exact ih0 _ _ _)
   | (with_reducible exact LeO.refl _)
   | (with_reducible exact LeO.none _)
   | (with_reducible refine LeO.ite ?_ ?_)
   | (with_reducible refine LeO.bind ?_ (fun _ => ?_))
   | exact ih0 _ _ _
   | exact LeO.none _
   | refine LeO.ite ?_ ?_
   | refine LeO.bind ?_ (fun _ => ?_)
theorem rows_End.mono : ∀ a0 a1 k, LeO (rows_End.f k a0 a1) (rows_End.f (k + 1) a0 a1) := by
 intro a0 a1 k
 have ih0 := rows_End.mono_l k
 unfold rows_End.f
 repeat' first
   | (with_reducible exact ih0 _ _ _)
   | (with_reducible exact LeO.refl _)
   | (with_reducible exact LeO.none _)
   | (with_reducible refine LeO.ite ?_ ?_)
   | (with_reducible refine LeO.bind ?_ (fun _ => ?_))
   | exact ih0 _ _ _
   | exact LeO.none _
   | refine LeO.ite ?_ ?_
   | refine LeO.bind ?_ (fun _ => ?_)
set_option maxHeartbeats 8000000 in
set_option maxRecDepth 100000 in
theorem rows_End.calls (k : Nat) (A0 : Option Addr) (c0 : Nat) (l0 : List (S38)) (a1 : Int) (r : Int) (w : World) (hr0 : Kd.C k38 w A0 l0.length l0) (hc0 : l0.length ≤ c0) (h : rows_End.f k l0 a1 = some r) :
  Calls Tryz.prog 35 #[.slice A0 l0.length c0, .int .i64 a1] w fun e w' => e = .returned (.int .i64 r) ∧ Drawn0 w w' := by
 have HR0 := am hr0
 have HC0 := am hc0
 clear hr0 hc0
 have H : ((rows_is.f l0 a1).bind fun t403 => (if t403 = true then (rows_End.l0 k l0 a1 (wrap64 (a1 + 1))) else (some 0))) = some r := h
 clear h
 replace H := Option.bind_eq_some_iff.mp H
 obtain ⟨t403, A30, H⟩ := H
 have A3 := am A30
 clear A30
 by_cases c4 : t403 = true
 ·subst c4
  replace H : (rows_End.l0 k l0 a1 (wrap64 (a1 + 1))) = some r := by rw [if_pos rfl] at H; exact H
  have H' := am H
  clear H
  go_enter Tryz.func35, Tryz.ntmps35
  go_wp2_with (first | (go_at_call 62; (with_reducible refine (rows_is.calls _ _ l0 a1 true _ ?side1 ?side2 A3.out).mono ?_); (case side1 => repeat (first | exact HR0.out | (with_reducible refine Kd.C_alloc ?_ _) | (with_reducible refine Kd.C_drewN ?_ _) | (with_reducible refine Kd.C_drew ?_))); (case side2 => exact HC0.out); rintro e w' ⟨rfl, ⟨nd, rfl⟩⟩; (try exact zu)))
  repeat (go_quiet (first | (go_at_call 62; (with_reducible refine (rows_is.calls _ _ l0 a1 true _ ?side1 ?side2 A3.out).mono ?_); (case side1 => repeat (first | exact HR0.out | (with_reducible refine Kd.C_alloc ?_ _) | (with_reducible refine Kd.C_drewN ?_ _) | (with_reducible refine Kd.C_drew ?_))); (case side2 => exact HC0.out); rintro e w' ⟨rfl, ⟨nd, rfl⟩⟩; (try exact zu))); try go_wp2_with (first | (go_at_call 62; (with_reducible refine (rows_is.calls _ _ l0 a1 true _ ?side1 ?side2 A3.out).mono ?_); (case side1 => repeat (first | exact HR0.out | (with_reducible refine Kd.C_alloc ?_ _) | (with_reducible refine Kd.C_drewN ?_ _) | (with_reducible refine Kd.C_drew ?_))); (case side2 => exact HC0.out); rintro e w' ⟨rfl, ⟨nd, rfl⟩⟩; (try exact zu))))
  go_loopg [5] k (fun kq v5 w' => ∃ (x5_1 : Int), v5 = .int .i64 x5_1 ∧ Aside0 (rows_End.l0 kq l0 a1 x5_1 = some r) ∧ Aside0 (kq ≤ k) ∧ Drawn0 w w')
  case atStart => exact ⟨(wrap64 (a1 + 1)), zr, H', ⟨Nat.le_refl _⟩, zw⟩
  case round =>
   clear H'
   try clear p2
   try clear c3
   try clear c4
   obtain ⟨x5_1, rfl, HA, HK1, ⟨m1, rfl⟩⟩ := hrel
   cases gk with
   | zero => exact absurd HA.out (by simp [rows_End.l0])
   | succ k1 =>
    have H := HA.out
    clear HA
    simp only [rows_End.l0] at H
    by_cases c5 : x5_1 < (l0.length : Int)
    ·rw [if_pos c5] at H
     have c5b0 : decide (x5_1 < (l0.length : Int)) = true := decide_eq_true c5
     clear c5
     by_cases c6 : 0 ≤ x5_1
     ·rw [if_pos c6] at H
      have c6b0 : decide (0 ≤ x5_1) = true := decide_eq_true c6
      clear c6
      by_cases c7 : 0 ≤ a1
      ·rw [if_pos c7] at H
       have c7b0 : decide (0 ≤ a1) = true := decide_eq_true c7
       clear c7
       by_cases c8 : a1 < (l0.length : Int)
       ·rw [if_pos c8] at H
        have c8b0 : decide (a1 < (l0.length : Int)) = true := decide_eq_true c8
        clear c8
        by_cases c9 : ((rd_T38 l0 x5_1).f0) > ((rd_T38 l0 a1).f0)
        ·rw [if_pos c9] at H
         have c9b0 : decide (((rd_T38 l0 a1).f0) < ((rd_T38 l0 x5_1).f0)) = true := decide_eq_true c9
         clear c9
         have H' := am H
         clear H
         have p404 : 0 ≤ (x5_1 : Int) := of_decide_eq_true za
         have q404 : x5_1 < (l0.length : Int) := of_decide_eq_true za
         obtain ⟨ad404, A404_4, c404_4, e404, hx404_0, hx404_1, hx404_2, hx404_3, hx404_4, hl404_4, hi404_4⟩ := at_T38 HR0.out x5_1 p404 q404
         cases e404
         have HR404_4 := am hi404_4
         have HC404_4 := am hl404_4
         clear hi404_4 hl404_4
         replace p404 := eq_true p404
         replace q404 := eq_true q404
         have p405 : 0 ≤ (a1 : Int) := of_decide_eq_true za
         have q405 : a1 < (l0.length : Int) := of_decide_eq_true za
         obtain ⟨ad405, A405_4, c405_4, e405, hx405_0, hx405_1, hx405_2, hx405_3, hx405_4, hl405_4, hi405_4⟩ := at_T38 HR0.out a1 p405 q405
         obtain rfl : ad404 = ad405 := (by injection e405)
         have HR405_4 := am hi405_4
         have HC405_4 := am hl405_4
         clear hi405_4 hl405_4
         replace p405 := eq_true p405
         replace q405 := eq_true q405
         go_wp2
         repeat (go_quiet (fail); try go_wp2)
         go_roundg k1
         case measure => have := HK1.out; omega
         case rel => exact ⟨(wrap64 (x5_1 + 1)), zr, H', ⟨by have := HK1.out; omega⟩, zw⟩
        ·rw [if_neg c9] at H
         have c9b0 : decide (((rd_T38 l0 a1).f0) < ((rd_T38 l0 x5_1).f0)) = false := decide_eq_false c9
         clear c9
         obtain rfl := Option.some.inj H
         have p404 : 0 ≤ (x5_1 : Int) := of_decide_eq_true za
         have q404 : x5_1 < (l0.length : Int) := of_decide_eq_true za
         obtain ⟨ad404, A404_4, c404_4, e404, hx404_0, hx404_1, hx404_2, hx404_3, hx404_4, hl404_4, hi404_4⟩ := at_T38 HR0.out x5_1 p404 q404
         cases e404
         have HR404_4 := am hi404_4
         have HC404_4 := am hl404_4
         clear hi404_4 hl404_4
         replace p404 := eq_true p404
         replace q404 := eq_true q404
         have p405 : 0 ≤ (a1 : Int) := of_decide_eq_true za
         have q405 : a1 < (l0.length : Int) := of_decide_eq_true za
         obtain ⟨ad405, A405_4, c405_4, e405, hx405_0, hx405_1, hx405_2, hx405_3, hx405_4, hl405_4, hi405_4⟩ := at_T38 HR0.out a1 p405 q405
         obtain rfl : ad404 = ad405 := (by injection e405)
         have HR405_4 := am hi405_4
         have HC405_4 := am hl405_4
         clear hi405_4 hl405_4
         replace p405 := eq_true p405
         replace q405 := eq_true q405
         go_wp2
         repeat (go_quiet (fail); try go_wp2)
         go_ret
         exact ⟨zt, zw⟩
       ·rw [if_neg c8] at H
        exact absurd H (by simp)
      ·rw [if_neg c7] at H
       exact absurd H (by simp)
     ·rw [if_neg c6] at H
      exact absurd H (by simp)
    ·rw [if_neg c5] at H
     have c5b0 : decide (x5_1 < (l0.length : Int)) = false := decide_eq_false c5
     clear c5
     obtain rfl := Option.some.inj H
     go_wp2
     repeat (go_quiet (fail); try go_wp2)
     go_ret
     exact ⟨zt, zw⟩
 ·replace c4 := Bool.eq_false_iff.mpr c4
  subst c4
  replace H : (some 0) = some r := by rw [if_neg (show ¬ (false = true) by decide)] at H; exact H
  obtain rfl := Option.some.inj H
  go_enter Tryz.func35, Tryz.ntmps35
  go_wp2_with (first | (go_at_call 62; (with_reducible refine (rows_is.calls _ _ l0 a1 false _ ?side1 ?side2 A3.out).mono ?_); (case side1 => repeat (first | exact HR0.out | (with_reducible refine Kd.C_alloc ?_ _) | (with_reducible refine Kd.C_drewN ?_ _) | (with_reducible refine Kd.C_drew ?_))); (case side2 => exact HC0.out); rintro e w' ⟨rfl, ⟨nd, rfl⟩⟩; (try exact zu)))
  repeat (go_quiet (first | (go_at_call 62; (with_reducible refine (rows_is.calls _ _ l0 a1 false _ ?side1 ?side2 A3.out).mono ?_); (case side1 => repeat (first | exact HR0.out | (with_reducible refine Kd.C_alloc ?_ _) | (with_reducible refine Kd.C_drewN ?_ _) | (with_reducible refine Kd.C_drew ?_))); (case side2 => exact HC0.out); rintro e w' ⟨rfl, ⟨nd, rfl⟩⟩; (try exact zu))); try go_wp2_with (first | (go_at_call 62; (with_reducible refine (rows_is.calls _ _ l0 a1 false _ ?side1 ?side2 A3.out).mono ?_); (case side1 => repeat (first | exact HR0.out | (with_reducible refine Kd.C_alloc ?_ _) | (with_reducible refine Kd.C_drewN ?_ _) | (with_reducible refine Kd.C_drew ?_))); (case side2 => exact HC0.out); rintro e w' ⟨rfl, ⟨nd, rfl⟩⟩; (try exact zu))))
  go_ret
  exact ⟨zt, zw⟩

def rows_moved.l0 : Nat → Int → List (S38) → List (S38) → Int → Int → Option ((List (S38)))
 | 0, _, _, _, _, _ => none
 | k + 1, x1, x5, x8, x9, x10 => if x10 < x9 then (if 0 ≤ x10 then (if x10 < (x8.length : Int) then ((api_Attr.f ((rd_T38 x8 x10).f4)).bind fun t408 => (if x5.length < 1954687338268 then (rows_moved.l0 k x1 (x5 ++ [(⟨wrap64 (((rd_T38 x8 x10).f0) + x1), (rd_T38 x8 x10).f1, (rd_T38 x8 x10).f2, (rd_T38 x8 x10).f3, t408⟩ : S38)]) x8 x9 (wrap64 (x10 + 1))) else (none))) else (none)) else (none)) else (some x5)
def rows_moved.f (k : Nat) (l0 : List (S38)) (a1 : Int) : Option ((List (S38))) := rows_moved.l0 k a1 ([] : List (S38)) l0 (l0.length : Int) 0
theorem rows_moved.mono_l : ∀ k, (∀ y0 y1 y2 y3 y4, LeO (rows_moved.l0 k y0 y1 y2 y3 y4) (rows_moved.l0 (k + 1) y0 y1 y2 y3 y4))
 | 0 => fun _ _ _ _ _ r h => by simp [rows_moved.l0] at h
 | k + 1 => by
  have ih0 := rows_moved.mono_l k
  ·intro y0 y1 y2 y3 y4
   unfold rows_moved.l0
   repeat' first
   | (with_reducible exact ih0 _ _ _ _ _)
   | (with_reducible exact LeO.refl _)
   | (with_reducible exact LeO.none _)
   | (with_reducible refine LeO.ite ?_ ?_)
   | (with_reducible refine LeO.bind ?_ (fun _ => ?_))
   | exact ih0 _ _ _ _ _
   | exact LeO.none _
   | refine LeO.ite ?_ ?_
   | refine LeO.bind ?_ (fun _ => ?_)
theorem rows_moved.mono : ∀ a0 a1 k, LeO (rows_moved.f k a0 a1) (rows_moved.f (k + 1) a0 a1) := by
 intro a0 a1 k
 have ih0 := rows_moved.mono_l k
 unfold rows_moved.f
 repeat' first
   | (with_reducible exact ih0 _ _ _ _ _)
   | (with_reducible exact LeO.refl _)
   | (with_reducible exact LeO.none _)
   | (with_reducible refine LeO.ite ?_ ?_)
   | (with_reducible refine LeO.bind ?_ (fun _ => ?_))
   | exact ih0 _ _ _ _ _
   | exact LeO.none _
   | refine LeO.ite ?_ ?_
   | refine LeO.bind ?_ (fun _ => ?_)
set_option maxHeartbeats 8000000 in
set_option maxRecDepth 100000 in
theorem rows_moved.calls (k : Nat) (A0 : Option Addr) (c0 : Nat) (l0 : List (S38)) (a1 : Int) (r : List (S38)) (w : World) (hr0 : Kd.C k38 w A0 l0.length l0) (hc0 : l0.length ≤ c0) (h : rows_moved.f k l0 a1 = some r) :
  Calls Tryz.prog 63 #[.slice A0 l0.length c0, .int .i64 a1] w fun e w' => ∃ v0_ : Value, e = .returned (v0_) ∧ Kd.S k38 38 w' w.heap.size (fun _ => True) v0_ r ∧ Below w.heap.size w w' := by
 have hu38 := Tryz.underlying38
 have HR0 := am hr0
 have HC0 := am hc0
 clear hr0 hc0
 have HB := am (Below.refl w.heap.size w)
 have H : (rows_moved.l0 k a1 ([] : List (S38)) l0 (l0.length : Int) 0) = some r := h
 clear h
 have H' := am H
 clear H
 go_enter Tryz.func63, Tryz.ntmps63
 go_wp2
 go_loopg [5, 10] k (fun kq v5 v10 w' => ∃ (x5_1 : List (S38)) (x10_1 : Int), v10 = .int .i64 x10_1 ∧ Aside0 (rows_moved.l0 kq a1 x5_1 l0 (l0.length : Int) x10_1 = some r) ∧ Aside0 (kq ≤ k) ∧ Aside0 (Kd.S k38 38 w' w.heap.size (fun _ => True) v5 x5_1) ∧ Aside0 (Below w.heap.size w w'))
 case atStart => exact ⟨(([] : List (S38))), (0), zr, H', ⟨Nat.le_refl _⟩, ⟨by first | exact Kd.S_nil _ _ _ _ _ | exact Kd.N_nil _ _ _ _ _ | exact Kd.V_nil _ _ _ _ _ | exact Kd.Q_nil _ _ _ _ _ | exact Kd.R_nil _ _ _ _ _⟩, ⟨zb HB⟩⟩
 case round =>
  clear H'
  try clear p2
  obtain ⟨x5_1, x10_1, rfl, HA, HK1, HO_5, HB⟩ := hrel
  cases gk with
  | zero => exact absurd HA.out (by simp [rows_moved.l0])
  | succ k1 =>
   have H := HA.out
   clear HA
   simp only [rows_moved.l0] at H
   by_cases c3 : x10_1 < (l0.length : Int)
   ·rw [if_pos c3] at H
    have c3b0 : decide (x10_1 < (l0.length : Int)) = true := decide_eq_true c3
    clear c3
    by_cases c4 : 0 ≤ x10_1
    ·rw [if_pos c4] at H
     have c4b0 : decide (0 ≤ x10_1) = true := decide_eq_true c4
     clear c4
     by_cases c5 : x10_1 < (l0.length : Int)
     ·rw [if_pos c5] at H
      have c5b0 : decide (x10_1 < (l0.length : Int)) = true := decide_eq_true c5
      clear c5
      replace H := Option.bind_eq_some_iff.mp H
      obtain ⟨t408, A60, H⟩ := H
      have A6 := am A60
      clear A60
      by_cases c7 : x5_1.length < 1954687338268
      ·rw [if_pos c7] at H
       have LMc7 := am c7
       clear c7
       obtain ⟨y411, hy411⟩ : ∃ y_ : List (S38), y_ = (x5_1 ++ [(⟨wrap64 (((rd_T38 l0 x10_1).f0) + a1), (rd_T38 l0 x10_1).f1, (rd_T38 l0 x10_1).f2, (rd_T38 l0 x10_1).f3, t408⟩ : S38)]) := ⟨_, rfl⟩
       replace H : (rows_moved.l0 k1 a1 y411 l0 (l0.length : Int) (wrap64 (x10_1 + 1))) = some r := by first | (rw [hy411]; with_reducible exact H) | (have H2_ := (Option.bind_some _ _).symm.trans H; rw [hy411]; with_reducible exact H2_) | (have H2_ := (Option.bind_some _ _).symm.trans H; with_reducible exact H2_) | with_reducible exact H | (rw [hy411]; exact H) | exact H
       have Ny411 := am hy411
       clear hy411
       have H' := am H
       clear H
       have p406 : 0 ≤ (x10_1 : Int) := of_decide_eq_true za
       have q406 : x10_1 < (l0.length : Int) := of_decide_eq_true za
       obtain ⟨ad406, A406_4, c406_4, e406, hx406_0, hx406_1, hx406_2, hx406_3, hx406_4, hl406_4, hi406_4⟩ := at_T38 HR0.out x10_1 p406 q406
       cases e406
       replace hx406_0 := (HB.out.cell (World.block_lt_of_cell? w _ hx406_0)).trans hx406_0
       replace hx406_1 := (HB.out.cell (World.block_lt_of_cell? w _ hx406_1)).trans hx406_1
       replace hx406_2 := (HB.out.cell (World.block_lt_of_cell? w _ hx406_2)).trans hx406_2
       replace hx406_3 := (HB.out.cell (World.block_lt_of_cell? w _ hx406_3)).trans hx406_3
       replace hx406_4 := (HB.out.cell (World.block_lt_of_cell? w _ hx406_4)).trans hx406_4
       have HR406_4 := am hi406_4
       have HC406_4 := am hl406_4
       clear hi406_4 hl406_4
       replace p406 := eq_true p406
       replace q406 := eq_true q406
       go_wp2_with (first | ((with_reducible refine gate_dst (N := 7) rfl ?_); refine box_event ?hg (N := 7) ?hd (cs := #[.int .i64 0, .int .i64 0, .string (⟨#[]⟩ : ByteArray), .string (⟨#[]⟩ : ByteArray), .slice none 0 0]) (t := 38) ?hr ?_; (case hd => rfl); (case hg => rfl); (case hr => first | (go_simp; done) | (go_simp; rfl)); intro gb407 hg w8 hbox hb; have n0_ := am (Kd.S_below (Kd.S_elderB (by exact HO_5.out) gb407 (Nat.le_of_eq hg.symm)) hb); have n1_ := am (below_step (zb HB) hb); have n2_ := am (hbox); have n4_ := am ((by rw [hg]; exact (below_size (zb HB)) : w.heap.size ≤ gb407)); clear HO_5; clear HB; have HO_5 := n0_; have HB := n1_; have BK407 := n2_; have GE407 := n4_; clear n0_ n1_ n2_ n4_; clear hb hbox hg; obtain ⟨hcz9_0, hcz9_1, hcz9_2, hcz9_3, hcz9_4, hfz9_0, hfz9_1, hfz9_2, hfz9_3, hfz9_4⟩ := cz5 BK407.out) | ((with_reducible refine gate_callee (f := 97) rfl ?_); refine goesL_ (some 21) rfl rfl Tryz.func97 (by kernel_rfl) rfl #[.slice A406_4 ((rd_T38 l0 x10_1).f4).length c406_4] rfl zm ?_; (with_reducible refine (api_Attr.calls _ _ ((rd_T38 l0 x10_1).f4) t408 _ ?side1 ?side2 A6.out).mono ?_); (case side1 => exact Kd.C_below HR406_4.out (zb1 HB GE407)); (case side2 => exact HC406_4.out); rintro e w10 ⟨v409, rfl, ho0, hb⟩; refine ⟨_, rfl, ?_⟩; have n0_ := am (Kd.S_elder' (by exact (Kd.S_mono (Kd.S_far (p := ⟨gb407, 0, none⟩) (Kd.S_far (p := ⟨gb407, 4, none⟩) (Kd.S_far (p := ⟨gb407, 3, none⟩) (Kd.S_far (p := ⟨gb407, 2, none⟩) (Kd.S_far (p := ⟨gb407, 1, none⟩) (Kd.S_far (p := ⟨gb407, 0, none⟩) (Kd.S_mono HO_5.out (fun k_ hk => (⟨hk, hk.2⟩ : _ ∧ k_ ≠ gb407))) (fun _ hk => hk.2) (.int .i64 ((rd_T38 l0 x10_1).f0))) (fun _ hk => hk.2) (.int .i64 ((rd_T38 l0 x10_1).f1))) (fun _ hk => hk.2) (.string ((rd_T38 l0 x10_1).f2))) (fun _ hk => hk.2) (.string ((rd_T38 l0 x10_1).f3))) (fun _ hk => hk.2) (.slice A406_4 ((rd_T38 l0 x10_1).f4).length c406_4)) (fun _ hk => hk.2) (.int .i64 (wrap64 (((rd_T38 l0 x10_1).f0) + a1)))) (fun _ h_ => h_.1))) (Kd.R_base ho0) hb); have n1_ := am (Kd.R_lower ho0 (below_size (zb1 HB GE407))); have n2_ := am (blk_below (g := gb407) (o := .cells #[.int .i64 (wrap64 (((rd_T38 l0 x10_1).f0) + a1)), .int .i64 ((rd_T38 l0 x10_1).f1), .string ((rd_T38 l0 x10_1).f2), .string ((rd_T38 l0 x10_1).f3), .slice A406_4 ((rd_T38 l0 x10_1).f4).length c406_4] 38 (0, 0)) (by refine blk_put (cs := #[.int .i64 ((rd_T38 l0 x10_1).f0), .int .i64 ((rd_T38 l0 x10_1).f1), .string ((rd_T38 l0 x10_1).f2), .string ((rd_T38 l0 x10_1).f3), .slice A406_4 ((rd_T38 l0 x10_1).f4).length c406_4]) ?_ 0 _ rfl; refine blk_put (cs := #[.int .i64 ((rd_T38 l0 x10_1).f0), .int .i64 ((rd_T38 l0 x10_1).f1), .string ((rd_T38 l0 x10_1).f2), .string ((rd_T38 l0 x10_1).f3), .slice none 0 0]) ?_ 4 _ rfl; refine blk_put (cs := #[.int .i64 ((rd_T38 l0 x10_1).f0), .int .i64 ((rd_T38 l0 x10_1).f1), .string ((rd_T38 l0 x10_1).f2), .string (⟨#[]⟩ : ByteArray), .slice none 0 0]) ?_ 3 _ rfl; refine blk_put (cs := #[.int .i64 ((rd_T38 l0 x10_1).f0), .int .i64 ((rd_T38 l0 x10_1).f1), .string (⟨#[]⟩ : ByteArray), .string (⟨#[]⟩ : ByteArray), .slice none 0 0]) ?_ 2 _ rfl; refine blk_put (cs := #[.int .i64 ((rd_T38 l0 x10_1).f0), .int .i64 0, .string (⟨#[]⟩ : ByteArray), .string (⟨#[]⟩ : ByteArray), .slice none 0 0]) ?_ 1 _ rfl; refine blk_put (cs := #[.int .i64 0, .int .i64 0, .string (⟨#[]⟩ : ByteArray), .string (⟨#[]⟩ : ByteArray), .slice none 0 0]) ?_ 0 _ rfl; exact BK407.out) hb); have n3_ := am (below_step (zb1 HB GE407) hb); clear HO_5; clear BK407; clear HB; have HO_5 := n0_; have HO410 := n1_; have BK407 := n2_; have HB := n3_; clear n0_ n1_ n2_ n3_; (try clear hb); (try clear ho0); obtain ⟨Ao11, co11, eo11⟩ := Kd.R_slice HO410.out; subst eo11; obtain ⟨hcz12_0, hcz12_1, hcz12_2, hcz12_3, hcz12_4, hfz12_0, hfz12_1, hfz12_2, hfz12_3, hfz12_4⟩ := cz5 BK407.out) | ((with_reducible refine gate_store (t := 36) (p := 22) rfl ?_); refine store_event (t := 36) (p := 22) (v := ?vo_w13) (w1 := (w10.setCell ⟨gb407, 4, none⟩ (.slice Ao11 t408.length co11))) ?hg ?ho ?hn ?hr ?_; (case ho => rfl); (case hg => rfl); (case hn => rfl); (case hr => first | (go_simp; done) | (go_simp; rfl)); intro w13 hw; have n0_ : Aside0 (Kd.S k38 38 w13 w.heap.size (fun k_ => some k_ ≠ (.slice Ao11 t408.length co11 : Value).ownBlock ∧ k_ ≠ gb407) u5 x5_1) := ⟨(by rw [hw]; exact (by exact Kd.S_mono (Kd.S_far (p := ⟨gb407, 4, none⟩) (Kd.S_mono HO_5.out (fun k_ hk => (⟨hk, hk.1.2⟩ : _ ∧ k_ ≠ gb407))) (fun _ hk => hk.2) (.slice Ao11 t408.length co11)) (fun _ hk => ⟨hk.1.2, hk.1.1.2⟩)))⟩; have n1_ : Aside0 (Kd.R k45 45 w13 w.heap.size (fun _ => True) (.slice Ao11 t408.length co11) t408) := ⟨(by rw [hw]; exact (by exact Kd.R_mono (Kd.R_far (p := ⟨gb407, 4, none⟩) (Kd.R_types HO410.out BK407.out (by decide)) (fun _ hk => hk.2) (.slice Ao11 t408.length co11)) (fun _ hk => trivial)))⟩; have n2_ : Aside0 (w13.heap[gb407]? = some (.cells #[.int .i64 (wrap64 (((rd_T38 l0 x10_1).f0) + a1)), .int .i64 ((rd_T38 l0 x10_1).f1), .string ((rd_T38 l0 x10_1).f2), .string ((rd_T38 l0 x10_1).f3), .slice Ao11 t408.length co11] 38 (0, 0))) := ⟨(by rw [hw]; exact (by refine blk_put (cs := #[.int .i64 (wrap64 (((rd_T38 l0 x10_1).f0) + a1)), .int .i64 ((rd_T38 l0 x10_1).f1), .string ((rd_T38 l0 x10_1).f2), .string ((rd_T38 l0 x10_1).f3), .slice A406_4 ((rd_T38 l0 x10_1).f4).length c406_4]) ?_ 4 _ rfl; exact BK407.out))⟩; have n3_ : Aside0 (Below w.heap.size w w13) := ⟨(by rw [hw]; exact (zb1 HB GE407))⟩; clear hw; clear HO_5; clear HO410; clear BK407; clear HB; have HO_5 := n0_; have HO410 := n1_; have BK407 := n2_; have HB := n3_; clear n0_ n1_ n2_ n3_; obtain ⟨hcz14_0, hcz14_1, hcz14_2, hcz14_3, hcz14_4, hfz14_0, hfz14_1, hfz14_2, hfz14_3, hfz14_4⟩ := cz5 BK407.out) | ((with_reducible refine gate_builtin (b := .append) (xs := #[.tmp 23, .tmp 25]) rfl ?_); at_builtin; refine Kd.S_append k38 (w0 := w) w.heap.size rfl (.tmp 23) (.tmp 25) 22 38 (.agg #[(.int .i64 0), (.int .i64 0), (.string ⟨#[]⟩), (.string ⟨#[]⟩), (.slice none 0 0)]) 72 rfl Tryz.underlying22 info38 rfl (by decide) (by omega) u5 x5_1 (⟨wrap64 (((rd_T38 l0 x10_1).f0) + a1), (rd_T38 l0 x10_1).f1, (rd_T38 l0 x10_1).f2, (rd_T38 l0 x10_1).f3, t408⟩ : S38) [.int .i64 (wrap64 (((rd_T38 l0 x10_1).f0) + a1)), .int .i64 ((rd_T38 l0 x10_1).f1), .string ((rd_T38 l0 x10_1).f2), .string ((rd_T38 l0 x10_1).f3), .slice Ao11 t408.length co11] (fun k_ => k_ ≠ gb407) (fun k_ => some k_ = (.slice Ao11 t408.length co11 : Value).ownBlock) rfl rfl ?aP (fun k_ hk_ => ((Kd.R_mono (ok' := fun k_ => ((fun k_ => k_ ≠ gb407)) k_ ∧ some k_ ≠ (u5 : Value).ownBlock) (Kd.R_types (Kd.R_apart' (HO410.out) (Kd.S_typed HO_5.out) (by decide)) BK407.out (by decide)) (fun k_ hk => ⟨hk.2, hk.1.2⟩))).1 k_ hk_.symm) ?aF ?aO ?aB ?aS ?aL ?_; (case aP => exact k38_mkM _ _ _ (⟨wrap64 (((rd_T38 l0 x10_1).f0) + a1), (rd_T38 l0 x10_1).f1, (rd_T38 l0 x10_1).f2, (rd_T38 l0 x10_1).f3, t408⟩ : S38) (Kd.R_mono (Kd.R_tight rfl (Kd.R_mono (ok' := fun k_ => ((fun k_ => k_ ≠ gb407)) k_ ∧ some k_ ≠ (u5 : Value).ownBlock) (Kd.R_types (Kd.R_apart' (HO410.out) (Kd.S_typed HO_5.out) (by decide)) BK407.out (by decide)) (fun k_ hk => ⟨hk.2, hk.1.2⟩))) (fun _ h_ => h_))); (case aB => exact (zb1 HB GE407)); (case aF => exact (fun k_ hk => Kd.freshB (by exact BK407.out) k_ hk)); (case aO => exact (by exact Kd.S_mono HO_5.out (fun k_ hk => ⟨hk.2, fun e_ => hk.1 e_⟩))); (case aS => exact (below_size (zb1 HB GE407))); (case aL => have := LMc7.out; omega); intro v412 w15 ho hb hg hat; rw [← Ny411.out] at ho; have n1_ := am (hb); have n2_ := am (ho); clear BK407; clear HB; clear HO_5; clear HO410; have HB := n1_; have HO413 := n2_; clear n1_ n2_; clear ho hb hg hat))
       go_roundg k1
       case measure => have := HK1.out; omega
       case rel => exact ⟨(y411), (wrap64 (x10_1 + 1)), zr, H', ⟨by have := HK1.out; omega⟩, ⟨by exact Kd.S_mono HO413.out (fun _ hk => trivial)⟩, ⟨zb1 HB GE407⟩⟩
      ·rw [if_neg c7] at H
       exact absurd H (by simp)
     ·rw [if_neg c5] at H
      exact absurd H (by simp)
    ·rw [if_neg c4] at H
     exact absurd H (by simp)
   ·rw [if_neg c3] at H
    have c3b0 : decide (x10_1 < (l0.length : Int)) = false := decide_eq_false c3
    clear c3
    obtain rfl := Option.some.inj H
    go_wp2
    go_ret
    exact ⟨_, ze, by exact HO_5.out, zb HB⟩


def rows_Normal.l0 : Nat → List (S38) → List (S38) → Int → Int → Option ((List (S38)))
 | 0, _, _, _, _ => none
 | k + 1, x3, x8, x9, x10 => if x10 < x9 then (if 0 ≤ x10 then (if x10 < (x8.length : Int) then (if ((rd_T38 x8 x10).f1) = 1 then (if ((rd_T38 x8 x10).f3).toList = ([] : List UInt8) then (rows_Normal.l0 k x3 x8 x9 (wrap64 (x10 + 1))) else (if (x3.length : Int) > 0 then (if 0 ≤ (wrap64 ((x3.length : Int) - 1)) then (if (wrap64 ((x3.length : Int) - 1)) < (x3.length : Int) then (if ((rd_T38 x3 (wrap64 ((x3.length : Int) - 1))).f1) = 1 then (if ((rd_T38 x3 (wrap64 ((x3.length : Int) - 1))).f0) = ((rd_T38 x8 x10).f0) then (if ((rd_T38 x3 (wrap64 ((x3.length : Int) - 1))).f3).size + ((rd_T38 x8 x10).f3).size ≤ 9223372036854775807 then (rows_Normal.l0 k (x3.set ((wrap64 ((x3.length : Int) - 1)) : Int).toNat (⟨(rd_T38 x3 (wrap64 ((x3.length : Int) - 1))).f0, (rd_T38 x3 (wrap64 ((x3.length : Int) - 1))).f1, (rd_T38 x3 (wrap64 ((x3.length : Int) - 1))).f2, ((rd_T38 x3 (wrap64 ((x3.length : Int) - 1))).f3) ++ ((rd_T38 x8 x10).f3), (rd_T38 x3 (wrap64 ((x3.length : Int) - 1))).f4⟩ : S38)) x8 x9 (wrap64 (x10 + 1))) else (none)) else (if x3.length < 1954687338268 then (rows_Normal.l0 k (x3 ++ [(⟨(rd_T38 x8 x10).f0, (rd_T38 x8 x10).f1, (rd_T38 x8 x10).f2, (rd_T38 x8 x10).f3, (rd_T38 x8 x10).f4⟩ : S38)]) x8 x9 (wrap64 (x10 + 1))) else (none))) else (if x3.length < 1954687338268 then (rows_Normal.l0 k (x3 ++ [(⟨(rd_T38 x8 x10).f0, (rd_T38 x8 x10).f1, (rd_T38 x8 x10).f2, (rd_T38 x8 x10).f3, (rd_T38 x8 x10).f4⟩ : S38)]) x8 x9 (wrap64 (x10 + 1))) else (none))) else (none)) else (none)) else (if x3.length < 1954687338268 then (rows_Normal.l0 k (x3 ++ [(⟨(rd_T38 x8 x10).f0, (rd_T38 x8 x10).f1, (rd_T38 x8 x10).f2, (rd_T38 x8 x10).f3, (rd_T38 x8 x10).f4⟩ : S38)]) x8 x9 (wrap64 (x10 + 1))) else (none)))) else (if x3.length < 1954687338268 then (rows_Normal.l0 k (x3 ++ [(⟨(rd_T38 x8 x10).f0, (rd_T38 x8 x10).f1, (rd_T38 x8 x10).f2, (rd_T38 x8 x10).f3, (rd_T38 x8 x10).f4⟩ : S38)]) x8 x9 (wrap64 (x10 + 1))) else (none))) else (none)) else (none)) else (some x3)
def rows_Normal.f (k : Nat) (l0 : List (S38)) : Option ((List (S38))) := (rows_moved.f k l0 0).bind fun t414 => (rows_Normal.l0 k ([] : List (S38)) t414 (t414.length : Int) 0)
theorem rows_Normal.mono_l : ∀ k, (∀ y0 y1 y2 y3, LeO (rows_Normal.l0 k y0 y1 y2 y3) (rows_Normal.l0 (k + 1) y0 y1 y2 y3))
 | 0 => fun _ _ _ _ r h => by simp [rows_Normal.l0] at h
 | k + 1 => by
  have ih0 := rows_Normal.mono_l k
  ·intro y0 y1 y2 y3
   unfold rows_Normal.l0
   repeat' first
   | (with_reducible exact ih0 _ _ _ _)
   | (with_reducible exact rows_moved.mono _ _ _)
   | (with_reducible exact LeO.refl _)
   | (with_reducible exact LeO.none _)
   | (with_reducible refine LeO.ite ?_ ?_)
   | (with_reducible refine LeO.bind ?_ (fun _ => ?_))
   | exact ih0 _ _ _ _
   | exact rows_moved.mono _ _ _
   | exact LeO.none _
   | refine LeO.ite ?_ ?_
   | refine LeO.bind ?_ (fun _ => ?_)
theorem rows_Normal.mono : ∀ a0 k, LeO (rows_Normal.f k a0) (rows_Normal.f (k + 1) a0) := by
 intro a0 k
 have ih0 := rows_Normal.mono_l k
 unfold rows_Normal.f
 repeat' first
   | (with_reducible exact ih0 _ _ _ _)
   | (with_reducible exact rows_moved.mono _ _ _)
   | (with_reducible exact LeO.refl _)
   | (with_reducible exact LeO.none _)
   | (with_reducible refine LeO.ite ?_ ?_)
   | (with_reducible refine LeO.bind ?_ (fun _ => ?_))
   | exact ih0 _ _ _ _
   | exact rows_moved.mono _ _ _
   | exact LeO.none _
   | refine LeO.ite ?_ ?_
   | refine LeO.bind ?_ (fun _ => ?_)
def rows_Normal.T8 : Bool × List (List Nat × List Nat) := (true, [([], []), ([0], [0]), ([1], [1]), ([2], [2]), ([3], [3]), ([4, 3], [3, 4]), ([3, 5], [3, 5]), ([6, 3], [6]), ([7], [7]), ([7], [7]), ([9, 7], [7, 9]), ([8, 10, 7], [7, 8, 10]), ([11, 7], [7, 11]), ([12, 7], [7, 12]), ([13, 7], [7, 13]), ([7, 14], [7, 14]), ([15, 7], [15]), ([16], [16]), ([16], [16]), ([18, 16], [16, 18]), ([17, 19, 16], [16, 17, 19]), ([20, 16], [16, 20]), ([21, 16], [16, 21]), ([16], [16]), ([23, 16], [16, 23]), ([22, 24, 16], [16, 22, 24]), ([16, 25], [16, 25]), ([26, 16], [26])])
def rows_Normal.B8 : List Nat := [0, 1, 3, 7, 15, 31, 63, 127, 255, 255, 767, 2047, 4095, 8191, 16383, 32767, 65535, 131071, 131071, 393215, 1048575, 2097151, 4194303, 131071, 8519679, 33554431, 67108863, 134217727]
def rows_Normal.T9 : Bool × List (List Nat × List Nat) := (true, [([], []), ([], []), ([1], [1]), ([0, 2], [0, 2]), ([3], [3]), ([4], [4]), ([], []), ([6], [6]), ([5, 7], [5, 7]), ([0, 2, 0, 1, 2, 3, 4, 5, 6, 7, 8], [0, 2]), ([9, 0, 1, 2, 3, 4, 5, 6, 7, 8], [9]), ([10, 8, 0, 1, 2, 3, 4, 5, 6, 7, 8], [8, 10])])
def rows_Normal.B9 : List Nat := [0, 0, 2, 7, 15, 31, 0, 64, 255, 511, 1023, 2047]
set_option maxHeartbeats 8000000 in
set_option maxRecDepth 100000 in
theorem rows_Normal.calls (k : Nat) (A0 : Option Addr) (c0 : Nat) (l0 : List (S38)) (r : List (S38)) (w : World) (hr0 : Kd.C k38 w A0 l0.length l0) (hc0 : l0.length ≤ c0) (h : rows_Normal.f k l0 = some r) :
  Calls Tryz.prog 36 #[.slice A0 l0.length c0] w fun e w' => ∃ v0_ : Value, e = .returned (v0_) ∧ Kd.N k38 38 w' w.heap.size (fun k_ => (w.heap.size ≤ k_)) v0_ r ∧ Below w.heap.size w w' := by
 have hu38 := Tryz.underlying38
 have HR0 := am hr0
 have HC0 := am hc0
 clear hr0 hc0
 have HB := am (Below.refl w.heap.size w)
 have H : ((rows_moved.f k l0 0).bind fun t414 => (rows_Normal.l0 k ([] : List (S38)) t414 (t414.length : Int) 0)) = some r := h
 clear h
 replace H := Option.bind_eq_some_iff.mp H
 obtain ⟨t414, A20, H⟩ := H
 have A2 := am A20
 clear A20
 have H' := am H
 clear H
 go_enter Tryz.func36, Tryz.ntmps36
 go_wp2_with (first | ((with_reducible refine gate_callee (f := 63) rfl ?_); refine goesL_ (some 8) rfl rfl Tryz.func63 (by kernel_rfl) rfl #[.slice A0 l0.length c0, .int .i64 0] rfl zm ?_; (with_reducible refine (rows_moved.calls k _ _ l0 0 t414 _ ?side1 ?side2 A2.out).mono ?_); (case side1 => repeat (first | exact HR0.out | (with_reducible refine Kd.C_alloc ?_ _) | (with_reducible refine Kd.C_drewN ?_ _) | (with_reducible refine Kd.C_drew ?_))); (case side2 => exact HC0.out); rintro e w3 ⟨v415, rfl, ho0, hb⟩; refine ⟨_, rfl, ?_⟩; have n0_ := am (Kd.N_lower (Kd.N_mono (ok' := fun k_ => (w.heap.size ≤ k_)) (Kd.S_N (Kd.S_bound ho0)) (fun k_ hk_ => (Nat.le_trans (below_size (zb HB)) hk_.2.1))) (below_size (zb HB))); have n1_ := am (below_step (zb HB) hb); clear HB; have HO416 := n0_; have HB := n1_; clear n0_ n1_; (try clear hb); (try clear ho0); obtain ⟨Ao4, co4, eo4⟩ := Kd.N_slice HO416.out; subst eo4))
 go_loopg [3, 10] k (fun kq v3 v10 w' => ∃ (x3_1 : List (S38)) (x8_1 : List (S38)) (x10_1 : Int), v10 = .int .i64 x10_1 ∧ Aside0 (rows_Normal.l0 kq x3_1 x8_1 (t414.length : Int) x10_1 = some r) ∧ Aside0 (kq ≤ k) ∧ Aside0 (Kd.N k38 38 w' w.heap.size (fun k_ => (w.heap.size ≤ k_) ∧ some k_ ≠ ((.slice Ao4 t414.length co4) : Value).ownBlock) v3 x3_1) ∧ Aside0 (Kd.N k38 38 w' w.heap.size (fun k_ => (w.heap.size ≤ k_) ∧ some k_ ≠ (v3 : Value).ownBlock) (.slice Ao4 t414.length co4) x8_1) ∧ Aside0 (Below w.heap.size w w'))
 case atStart => exact ⟨(([] : List (S38))), (t414), (0), zr, H', ⟨Nat.le_refl _⟩, ⟨by first | exact Kd.S_nil _ _ _ _ _ | exact Kd.N_nil _ _ _ _ _ | exact Kd.V_nil _ _ _ _ _ | exact Kd.Q_nil _ _ _ _ _ | exact Kd.R_nil _ _ _ _ _⟩, ⟨by exact Kd.N_mono HO416.out (fun _ hk => ⟨hk, (by simp [Value.ownBlock])⟩)⟩, ⟨zb HB⟩⟩
 case round =>
  clear H'
  try clear p2
  try clear c3
  obtain ⟨x3_1, x8_1, x10_1, rfl, HA, HK1, HO_3, HO_8, HB⟩ := hrel
  have hl8_1 := (Kd.N_reads' HO_8.out).1
  rw [hl8_1] at HO_8
  (try simp only [hl8_1])
  (try simp only [hl8_1] at HO_3)
  cases gk with
  | zero => exact absurd HA.out (by simp [rows_Normal.l0])
  | succ k1 =>
   have H := HA.out
   clear HA
   simp only [rows_Normal.l0] at H
   by_cases c5 : x10_1 < (t414.length : Int)
   ·rw [if_pos c5] at H
    have c5b0 : decide (x10_1 < (t414.length : Int)) = true := decide_eq_true c5
    (try (have c5h0 := c5b0; simp only [hl8_1] at c5h0))
    clear c5
    by_cases c6 : 0 ≤ x10_1
    ·rw [if_pos c6] at H
     have c6b0 : decide (0 ≤ x10_1) = true := decide_eq_true c6
     clear c6
     by_cases c7 : x10_1 < (x8_1.length : Int)
     ·rw [if_pos c7] at H
      have c7b0 : decide (x10_1 < (x8_1.length : Int)) = true := decide_eq_true c7
      (try (have c7h0 := c7b0; simp only [hl8_1] at c7h0))
      clear c7
      by_cases c8 : ((rd_T38 x8_1 x10_1).f1) = 1
      ·rw [if_pos c8] at H
       have c8b0 : (((rd_T38 x8_1 x10_1).f1) == 1) = true := beq_iff_eq.mpr c8
       have c8b1 : (((rd_T38 x8_1 x10_1).f1) != 1) = false := bne_eq_false_iff_eq.mpr c8
       clear c8
       by_cases c9 : ((rd_T38 x8_1 x10_1).f3).toList = ([] : List UInt8)
       ·rw [if_pos c9] at H
        have c9b0 : (((rd_T38 x8_1 x10_1).f3).toList == ([] : List UInt8)) = true := beq_iff_eq.mpr c9
        have c9b1 : (((rd_T38 x8_1 x10_1).f3).toList != ([] : List UInt8)) = false := bne_eq_false_iff_eq.mpr c9
        clear c9
        have H' := am H
        clear H
        have p417 : 0 ≤ (x10_1 : Int) := of_decide_eq_true za
        have q417 : x10_1 < (x8_1.length : Int) := of_decide_eq_true za
        obtain ⟨ad417, A417_4, c417_4, e417, hx417_0, hx417_1, hx417_2, hx417_3, hx417_4, hl417_4, hi417_4⟩ := at_T38 (Kd.N_reads' HO_8.out).2.2 x10_1 p417 q417
        cases e417
        obtain ⟨ce417, hce417, hMe417, hcc417⟩ := Kd.N_get HO_8.out z38 x10_1 p417 (by first | exact q417 | exact of_decide_eq_true za | (have e_ := (Kd.N_reads' HO_8.out).1; omega))
        obtain ⟨ua417_4, uc417_4, rfl, ul417_4, ge417_4⟩ := k38_openF hMe417
        have hv417_4 := hcc417 4 _ rfl
        rw [add_field _ _ 4 (by omega)] at hv417_4
        replace hv417_4 := Option.some.inj (hv417_4.symm.trans hx417_4)
        injection hv417_4 with hva_ hvn_ hvc_
        rw [hva_] at ge417_4
        rw [hvc_] at ul417_4
        have HL417_4 := am (show Kd.V k45 45 _ w.heap.size _ _ ((rd_T38 x8_1 x10_1).f4) from Kd.V_mk ul417_4 ge417_4)
        clear hva_ hvn_ hvc_ ge417_4 ul417_4
        clear hcc417 hce417
        have HR417_4 := am hi417_4
        have HC417_4 := am hl417_4
        clear hi417_4 hl417_4
        replace p417 := eq_true p417
        replace q417 := eq_true q417
        go_wp2_with (first | ((with_reducible refine gate_dst (N := 5) rfl ?_); refine box_event ?hg (N := 5) ?hd (cs := #[.int .i64 0, .int .i64 0, .string (⟨#[]⟩ : ByteArray), .string (⟨#[]⟩ : ByteArray), .slice none 0 0]) (t := 38) ?hr ?_; (case hd => rfl); (case hg => rfl); (case hr => first | (go_simp; done) | (go_simp; rfl)); intro gb418 hg w10 hbox hb; have n0_ := am (Kd.N_below (Kd.N_elderB (by exact HO_3.out) gb418 (Nat.le_of_eq hg.symm)) hb); have n1_ := am (Kd.N_below (Kd.N_elderB (by exact HO_8.out) gb418 (Nat.le_of_eq hg.symm)) hb); have n4_ := am (below_step (zb HB) hb); have n5_ := am (hbox); have n7_ := am ((by rw [hg]; exact (below_size (zb HB)) : w.heap.size ≤ gb418)); clear HO_3; clear HO_8; clear HL417_4; clear HR417_4; clear HB; have HO_3 := n0_; have HO_8 := n1_; have HB := n4_; have BK418 := n5_; have GE418 := n7_; clear n0_ n1_ n4_ n5_ n7_; clear hb hbox hg; obtain ⟨hcz11_0, hcz11_1, hcz11_2, hcz11_3, hcz11_4, hfz11_0, hfz11_1, hfz11_2, hfz11_3, hfz11_4⟩ := cz5 BK418.out; obtain ⟨Ao12, co12, eo12⟩ := Kd.N_slice HO_3.out; subst eo12))
        (try simp only [← hl8_1])
        go_roundg k1
        case measure => have := HK1.out; omega
        case rel => exact ⟨(x3_1), (x8_1), (wrap64 (x10_1 + 1)), zr, H', ⟨by have := HK1.out; omega⟩, ⟨by (try simp only [hl8_1]); exact Kd.N_mono (Nf5 (g := gb418) (Kd.N_mono HO_3.out (fun k_ hk => (⟨hk, hk.2⟩ : _ ∧ k_ ≠ gb418))) (fun _ hk => hk.2) (.int .i64 ((rd_T38 x8_1 x10_1).f0)) (.int .i64 ((rd_T38 x8_1 x10_1).f1)) (.string ((rd_T38 x8_1 x10_1).f2)) (.string ((rd_T38 x8_1 x10_1).f3)) (.slice A417_4 ((rd_T38 x8_1 x10_1).f4).length c417_4)) (fun _ hk => ⟨hk.1.1.1, hk.1.1.2⟩)⟩, ⟨by (try simp only [hl8_1]); exact Kd.N_mono (Nf5 (g := gb418) (Kd.N_mono HO_8.out (fun k_ hk => (⟨hk, hk.2⟩ : _ ∧ k_ ≠ gb418))) (fun _ hk => hk.2) (.int .i64 ((rd_T38 x8_1 x10_1).f0)) (.int .i64 ((rd_T38 x8_1 x10_1).f1)) (.string ((rd_T38 x8_1 x10_1).f2)) (.string ((rd_T38 x8_1 x10_1).f3)) (.slice A417_4 ((rd_T38 x8_1 x10_1).f4).length c417_4)) (fun _ hk => ⟨hk.1.1.1, hk.1.1.2⟩)⟩, ⟨zb1 HB GE418⟩⟩
       ·rw [if_neg c9] at H
        have c9b0 : (((rd_T38 x8_1 x10_1).f3).toList == ([] : List UInt8)) = false := beq_eq_false_iff_ne.mpr c9
        have c9b1 : (((rd_T38 x8_1 x10_1).f3).toList != ([] : List UInt8)) = true := bne_iff_ne.mpr c9
        by_cases c13 : (x3_1.length : Int) > 0
        ·rw [if_pos c13] at H
         have c13b0 : decide (0 < (x3_1.length : Int)) = true := decide_eq_true c13
         have c13b1 : decide (0 < x3_1.length) = true := decide_eq_true (by omega)
         (try (have c13h0 := c13b0; simp only [hl8_1] at c13h0))
         clear c13
         obtain ⟨ji14, hji14⟩ : ∃ j_ : Int, (wrap64 ((x3_1.length : Int) - 1)) = j_ := ⟨_, rfl⟩
         replace H : (if 0 ≤ (ji14) then (if (ji14) < (x3_1.length : Int) then (if ((rd_T38 x3_1 (ji14)).f1) = 1 then (if ((rd_T38 x3_1 (ji14)).f0) = ((rd_T38 x8_1 x10_1).f0) then (if ((rd_T38 x3_1 (ji14)).f3).size + ((rd_T38 x8_1 x10_1).f3).size ≤ 9223372036854775807 then (rows_Normal.l0 k1 (x3_1.set ((ji14) : Int).toNat (⟨(rd_T38 x3_1 (ji14)).f0, (rd_T38 x3_1 (ji14)).f1, (rd_T38 x3_1 (ji14)).f2, ((rd_T38 x3_1 (ji14)).f3) ++ ((rd_T38 x8_1 x10_1).f3), (rd_T38 x3_1 (ji14)).f4⟩ : S38)) x8_1 (t414.length : Int) (wrap64 (x10_1 + 1))) else (none)) else (if x3_1.length < 1954687338268 then (rows_Normal.l0 k1 (x3_1 ++ [(⟨(rd_T38 x8_1 x10_1).f0, (rd_T38 x8_1 x10_1).f1, (rd_T38 x8_1 x10_1).f2, (rd_T38 x8_1 x10_1).f3, (rd_T38 x8_1 x10_1).f4⟩ : S38)]) x8_1 (t414.length : Int) (wrap64 (x10_1 + 1))) else (none))) else (if x3_1.length < 1954687338268 then (rows_Normal.l0 k1 (x3_1 ++ [(⟨(rd_T38 x8_1 x10_1).f0, (rd_T38 x8_1 x10_1).f1, (rd_T38 x8_1 x10_1).f2, (rd_T38 x8_1 x10_1).f3, (rd_T38 x8_1 x10_1).f4⟩ : S38)]) x8_1 (t414.length : Int) (wrap64 (x10_1 + 1))) else (none))) else (none)) else (none)) = some r := by first | (rw [hji14] at H; exact H) | (simp only [hji14] at H ⊢; exact H)
         have hji14w : (IntKind.i64.wrap ((x3_1.length : Int) - 1)) = ji14 := (i64_w _).trans hji14
         by_cases c15 : 0 ≤ (ji14)
         ·rw [if_pos c15] at H
          have c15b0 : decide (0 ≤ (ji14)) = true := decide_eq_true c15
          clear c15
          by_cases c16 : (ji14) < (x3_1.length : Int)
          ·rw [if_pos c16] at H
           have c16b0 : decide ((ji14) < (x3_1.length : Int)) = true := decide_eq_true c16
           (try (have c16h0 := c16b0; simp only [hl8_1] at c16h0))
           clear c16
           by_cases c17 : ((rd_T38 x3_1 (ji14)).f1) = 1
           ·rw [if_pos c17] at H
            have c17b0 : (((rd_T38 x3_1 (ji14)).f1) == 1) = true := beq_iff_eq.mpr c17
            have c17b1 : (((rd_T38 x3_1 (ji14)).f1) != 1) = false := bne_eq_false_iff_eq.mpr c17
            clear c17
            by_cases c18 : ((rd_T38 x3_1 (ji14)).f0) = ((rd_T38 x8_1 x10_1).f0)
            ·rw [if_pos c18] at H
             have c18b0 : (((rd_T38 x3_1 (ji14)).f0) == ((rd_T38 x8_1 x10_1).f0)) = true := beq_iff_eq.mpr c18
             have c18b1 : (((rd_T38 x3_1 (ji14)).f0) != ((rd_T38 x8_1 x10_1).f0)) = false := bne_eq_false_iff_eq.mpr c18
             clear c18
             by_cases c19 : ((rd_T38 x3_1 (ji14)).f3).size + ((rd_T38 x8_1 x10_1).f3).size ≤ 9223372036854775807
             ·rw [if_pos c19] at H
              have c19b0 := eq_true c19
              have c19b1 : decide (((rd_T38 x3_1 (ji14)).f3).size + ((rd_T38 x8_1 x10_1).f3).size ≤ 9223372036854775807) = true := decide_eq_true c19
              try have c19b2 : (9223372036854775807 < ((rd_T38 x3_1 (ji14)).f3).size + ((rd_T38 x8_1 x10_1).f3).size) = False := eq_false (Nat.not_lt.2 c19)
              obtain ⟨y422, hy422⟩ : ∃ y_ : List (S38), y_ = (x3_1.set ((ji14) : Int).toNat (⟨(rd_T38 x3_1 (ji14)).f0, (rd_T38 x3_1 (ji14)).f1, (rd_T38 x3_1 (ji14)).f2, ((rd_T38 x3_1 (ji14)).f3) ++ ((rd_T38 x8_1 x10_1).f3), (rd_T38 x3_1 (ji14)).f4⟩ : S38)) := ⟨_, rfl⟩
              replace H : (rows_Normal.l0 k1 y422 x8_1 (t414.length : Int) (wrap64 (x10_1 + 1))) = some r := by first | (rw [hy422]; with_reducible exact H) | (have H2_ := (Option.bind_some _ _).symm.trans H; rw [hy422]; with_reducible exact H2_) | (have H2_ := (Option.bind_some _ _).symm.trans H; with_reducible exact H2_) | with_reducible exact H | (rw [hy422]; exact H) | exact H
              have Ny422 := am hy422
              clear hy422
              have H' := am H
              clear H
              have p417 : 0 ≤ (x10_1 : Int) := of_decide_eq_true za
              have q417 : x10_1 < (x8_1.length : Int) := of_decide_eq_true za
              obtain ⟨ad417, A417_4, c417_4, e417, hx417_0, hx417_1, hx417_2, hx417_3, hx417_4, hl417_4, hi417_4⟩ := at_T38 (Kd.N_reads' HO_8.out).2.2 x10_1 p417 q417
              cases e417
              obtain ⟨ce417, hce417, hMe417, hcc417⟩ := Kd.N_get HO_8.out z38 x10_1 p417 (by first | exact q417 | exact of_decide_eq_true za | (have e_ := (Kd.N_reads' HO_8.out).1; omega))
              obtain ⟨ua417_4, uc417_4, rfl, ul417_4, ge417_4⟩ := k38_openF hMe417
              have hv417_4 := hcc417 4 _ rfl
              rw [add_field _ _ 4 (by omega)] at hv417_4
              replace hv417_4 := Option.some.inj (hv417_4.symm.trans hx417_4)
              injection hv417_4 with hva_ hvn_ hvc_
              rw [hva_] at ge417_4
              rw [hvc_] at ul417_4
              have HL417_4 := am (show Kd.V k45 45 _ w.heap.size _ _ ((rd_T38 x8_1 x10_1).f4) from Kd.V_mk ul417_4 ge417_4)
              clear hva_ hvn_ hvc_ ge417_4 ul417_4
              clear hcc417 hce417
              have HR417_4 := am hi417_4
              have HC417_4 := am hl417_4
              clear hi417_4 hl417_4
              replace p417 := eq_true p417
              replace q417 := eq_true q417
              try go_wp2_with (first | ((with_reducible refine gate_dst (N := 5) rfl ?_); refine box_event ?hg (N := 5) ?hd (cs := #[.int .i64 0, .int .i64 0, .string (⟨#[]⟩ : ByteArray), .string (⟨#[]⟩ : ByteArray), .slice none 0 0]) (t := 38) ?hr ?_; (case hd => rfl); (case hg => rfl); (case hr => first | (go_simp; done) | (go_simp; rfl)); intro gb418 hg w21 hbox hb; have n0_ := am (Kd.N_below (Kd.N_elderB (by exact HO_3.out) gb418 (Nat.le_of_eq hg.symm)) hb); have n1_ := am (Kd.N_below (Kd.N_elderB (by exact HO_8.out) gb418 (Nat.le_of_eq hg.symm)) hb); have n4_ := am (below_step (zb HB) hb); have n5_ := am (hbox); have n7_ := am ((by rw [hg]; exact (below_size (zb HB)) : w.heap.size ≤ gb418)); clear HO_3; clear HO_8; clear HL417_4; clear HR417_4; clear HB; have HO_3 := n0_; have HO_8 := n1_; have HB := n4_; have BK418 := n5_; have GE418 := n7_; clear n0_ n1_ n4_ n5_ n7_; clear hb hbox hg; obtain ⟨hcz22_0, hcz22_1, hcz22_2, hcz22_3, hcz22_4, hfz22_0, hfz22_1, hfz22_2, hfz22_3, hfz22_4⟩ := cz5 BK418.out; obtain ⟨Ao23, co23, eo23⟩ := Kd.N_slice HO_3.out; subst eo23))
              have n0_ : Aside0 (Kd.N k38 38 (((((w21.setCell ⟨gb418, 0, none⟩ (.int .i64 ((rd_T38 x8_1 x10_1).f0))).setCell ⟨gb418, 1, none⟩ (.int .i64 ((rd_T38 x8_1 x10_1).f1))).setCell ⟨gb418, 2, none⟩ (.string ((rd_T38 x8_1 x10_1).f2))).setCell ⟨gb418, 3, none⟩ (.string ((rd_T38 x8_1 x10_1).f3))).setCell ⟨gb418, 4, none⟩ (.slice A417_4 ((rd_T38 x8_1 x10_1).f4).length c417_4)) w.heap.size (fun k_ => (w.heap.size ≤ k_) ∧ some k_ ≠ (.slice (some ad417) x8_1.length co4 : Value).ownBlock ∧ k_ ≠ gb418) (.slice Ao23 x3_1.length co23) x3_1) := ⟨by exact Kd.N_mono (Nf5 (g := gb418) (Kd.N_mono HO_3.out (fun k_ hk => (⟨hk, hk.2⟩ : _ ∧ k_ ≠ gb418))) (fun _ hk => hk.2) (.int .i64 ((rd_T38 x8_1 x10_1).f0)) (.int .i64 ((rd_T38 x8_1 x10_1).f1)) (.string ((rd_T38 x8_1 x10_1).f2)) (.string ((rd_T38 x8_1 x10_1).f3)) (.slice A417_4 ((rd_T38 x8_1 x10_1).f4).length c417_4)) (fun _ hk => ⟨hk.1.1.1, ⟨hk.1.1.2, hk.1.2⟩⟩)⟩
              have n1_ : Aside0 (Kd.N k38 38 (((((w21.setCell ⟨gb418, 0, none⟩ (.int .i64 ((rd_T38 x8_1 x10_1).f0))).setCell ⟨gb418, 1, none⟩ (.int .i64 ((rd_T38 x8_1 x10_1).f1))).setCell ⟨gb418, 2, none⟩ (.string ((rd_T38 x8_1 x10_1).f2))).setCell ⟨gb418, 3, none⟩ (.string ((rd_T38 x8_1 x10_1).f3))).setCell ⟨gb418, 4, none⟩ (.slice A417_4 ((rd_T38 x8_1 x10_1).f4).length c417_4)) w.heap.size (fun k_ => (w.heap.size ≤ k_) ∧ some k_ ≠ (.slice Ao23 x3_1.length co23 : Value).ownBlock ∧ k_ ≠ gb418) (.slice (some ad417) x8_1.length co4) x8_1) := ⟨by exact Kd.N_mono (Nf5 (g := gb418) (Kd.N_mono HO_8.out (fun k_ hk => (⟨hk, hk.2⟩ : _ ∧ k_ ≠ gb418))) (fun _ hk => hk.2) (.int .i64 ((rd_T38 x8_1 x10_1).f0)) (.int .i64 ((rd_T38 x8_1 x10_1).f1)) (.string ((rd_T38 x8_1 x10_1).f2)) (.string ((rd_T38 x8_1 x10_1).f3)) (.slice A417_4 ((rd_T38 x8_1 x10_1).f4).length c417_4)) (fun _ hk => ⟨hk.1.1.1, ⟨hk.1.1.2, hk.1.2⟩⟩)⟩
              have n3_ : Aside0 ((((((w21.setCell ⟨gb418, 0, none⟩ (.int .i64 ((rd_T38 x8_1 x10_1).f0))).setCell ⟨gb418, 1, none⟩ (.int .i64 ((rd_T38 x8_1 x10_1).f1))).setCell ⟨gb418, 2, none⟩ (.string ((rd_T38 x8_1 x10_1).f2))).setCell ⟨gb418, 3, none⟩ (.string ((rd_T38 x8_1 x10_1).f3))).setCell ⟨gb418, 4, none⟩ (.slice A417_4 ((rd_T38 x8_1 x10_1).f4).length c417_4)).heap[gb418]? = some (.cells #[.int .i64 ((rd_T38 x8_1 x10_1).f0), .int .i64 ((rd_T38 x8_1 x10_1).f1), .string ((rd_T38 x8_1 x10_1).f2), .string ((rd_T38 x8_1 x10_1).f3), .slice A417_4 ((rd_T38 x8_1 x10_1).f4).length c417_4] 38 (0, 0))) := ⟨by refine blk_put (cs := #[.int .i64 ((rd_T38 x8_1 x10_1).f0), .int .i64 ((rd_T38 x8_1 x10_1).f1), .string ((rd_T38 x8_1 x10_1).f2), .string ((rd_T38 x8_1 x10_1).f3), .slice none 0 0]) ?_ 4 _ rfl; refine blk_put (cs := #[.int .i64 ((rd_T38 x8_1 x10_1).f0), .int .i64 ((rd_T38 x8_1 x10_1).f1), .string ((rd_T38 x8_1 x10_1).f2), .string (⟨#[]⟩ : ByteArray), .slice none 0 0]) ?_ 3 _ rfl; refine blk_put (cs := #[.int .i64 ((rd_T38 x8_1 x10_1).f0), .int .i64 ((rd_T38 x8_1 x10_1).f1), .string (⟨#[]⟩ : ByteArray), .string (⟨#[]⟩ : ByteArray), .slice none 0 0]) ?_ 2 _ rfl; refine blk_put (cs := #[.int .i64 ((rd_T38 x8_1 x10_1).f0), .int .i64 0, .string (⟨#[]⟩ : ByteArray), .string (⟨#[]⟩ : ByteArray), .slice none 0 0]) ?_ 1 _ rfl; refine blk_put (cs := #[.int .i64 0, .int .i64 0, .string (⟨#[]⟩ : ByteArray), .string (⟨#[]⟩ : ByteArray), .slice none 0 0]) ?_ 0 _ rfl; exact BK418.out⟩
              have n4_ : Aside0 (Below w.heap.size w (((((w21.setCell ⟨gb418, 0, none⟩ (.int .i64 ((rd_T38 x8_1 x10_1).f0))).setCell ⟨gb418, 1, none⟩ (.int .i64 ((rd_T38 x8_1 x10_1).f1))).setCell ⟨gb418, 2, none⟩ (.string ((rd_T38 x8_1 x10_1).f2))).setCell ⟨gb418, 3, none⟩ (.string ((rd_T38 x8_1 x10_1).f3))).setCell ⟨gb418, 4, none⟩ (.slice A417_4 ((rd_T38 x8_1 x10_1).f4).length c417_4))) := ⟨zb1 HB GE418⟩
              (try clear HO_3)
              (try clear HO_8)
              (try clear BK418)
              (try clear HB)
              generalize (((((w21.setCell ⟨gb418, 0, none⟩ (.int .i64 ((rd_T38 x8_1 x10_1).f0))).setCell ⟨gb418, 1, none⟩ (.int .i64 ((rd_T38 x8_1 x10_1).f1))).setCell ⟨gb418, 2, none⟩ (.string ((rd_T38 x8_1 x10_1).f2))).setCell ⟨gb418, 3, none⟩ (.string ((rd_T38 x8_1 x10_1).f3))).setCell ⟨gb418, 4, none⟩ (.slice A417_4 ((rd_T38 x8_1 x10_1).f4).length c417_4)) = w24 at n0_ n1_ n3_ n4_ ⊢
              have HO_3 := n0_
              have HO_8 := n1_
              have BK418 := n3_
              have HB := n4_
              clear n0_ n1_ n3_ n4_
              have n0_ := am (Kd.N_drew HO_3.out)
              have n1_ := am (Kd.N_drew HO_8.out)
              have n3_ := am (blk_drew BK418.out)
              have n4_ := am (below_drew1 HB.out)
              clear HO_3
              clear HO_8
              clear BK418
              clear HB
              have HO_3 := n0_
              have HO_8 := n1_
              have BK418 := n3_
              have HB := n4_
              clear n0_ n1_ n3_ n4_
              have p419 : 0 ≤ ((ji14) : Int) := of_decide_eq_true za
              have q419 : (ji14) < (x3_1.length : Int) := of_decide_eq_true za
              obtain ⟨ad419, A419_4, c419_4, e419, hx419_0, hx419_1, hx419_2, hx419_3, hx419_4, hl419_4, hi419_4⟩ := at_T38 (Kd.N_reads' HO_3.out).2.2 (ji14) p419 q419
              cases e419
              obtain ⟨ce419, hce419, hMe419, hcc419⟩ := Kd.N_get HO_3.out z38 (ji14) p419 (by first | exact q419 | exact of_decide_eq_true za | (have e_ := (Kd.N_reads' HO_3.out).1; omega))
              obtain ⟨ua419_4, uc419_4, rfl, ul419_4, ge419_4⟩ := k38_openF hMe419
              have hv419_4 := hcc419 4 _ rfl
              rw [add_field _ _ 4 (by omega)] at hv419_4
              replace hv419_4 := Option.some.inj (hv419_4.symm.trans hx419_4)
              injection hv419_4 with hva_ hvn_ hvc_
              rw [hva_] at ge419_4
              rw [hvc_] at ul419_4
              have HL419_4 := am (show Kd.V k45 45 _ w.heap.size _ _ ((rd_T38 x3_1 (ji14)).f4) from Kd.V_mk ul419_4 ge419_4)
              clear hva_ hvn_ hvc_ ge419_4 ul419_4
              clear hcc419 hce419
              have HR419_4 := am hi419_4
              have HC419_4 := am hl419_4
              clear hi419_4 hl419_4
              replace p419 := eq_true p419
              replace q419 := eq_true q419
              have p420 : 0 ≤ ((ji14) : Int) := of_decide_eq_true za
              have q420 : (ji14) < (x3_1.length : Int) := of_decide_eq_true za
              obtain ⟨ad420, A420_4, c420_4, e420, hx420_0, hx420_1, hx420_2, hx420_3, hx420_4, hl420_4, hi420_4⟩ := at_T38 (Kd.N_reads' HO_3.out).2.2 (ji14) p420 q420
              obtain rfl : ad419 = ad420 := (by injection e420)
              obtain ⟨ce420, hce420, hMe420, hcc420⟩ := Kd.N_get HO_3.out z38 (ji14) p420 (by first | exact q420 | exact of_decide_eq_true za | (have e_ := (Kd.N_reads' HO_3.out).1; omega))
              obtain ⟨ua420_4, uc420_4, rfl, ul420_4, ge420_4⟩ := k38_openF hMe420
              have hv420_4 := hcc420 4 _ rfl
              rw [add_field _ _ 4 (by omega)] at hv420_4
              replace hv420_4 := Option.some.inj (hv420_4.symm.trans hx420_4)
              injection hv420_4 with hva_ hvn_ hvc_
              rw [hva_] at ge420_4
              rw [hvc_] at ul420_4
              have HL420_4 := am (show Kd.V k45 45 _ w.heap.size _ _ ((rd_T38 x3_1 (ji14)).f4) from Kd.V_mk ul420_4 ge420_4)
              clear hva_ hvn_ hvc_ ge420_4 ul420_4
              clear hcc420 hce420
              have HR420_4 := am hi420_4
              have HC420_4 := am hl420_4
              clear hi420_4 hl420_4
              replace p420 := eq_true p420
              replace q420 := eq_true q420
              have ea_ := Option.some.inj (hx419_4.symm.trans hx420_4)
              injection ea_ with ea_ en_ ec_
              subst ea_
              subst ec_
              clear en_
              have hz0 : w24.cell? ⟨gb418, 0, none⟩ = some (.int .i64 ((rd_T38 x8_1 x10_1).f0)) := (blk_cell BK418.out 0).trans rfl
              have hz1 : w24.cell? ⟨gb418, 1, none⟩ = some (.int .i64 ((rd_T38 x8_1 x10_1).f1)) := (blk_cell BK418.out 1).trans rfl
              have hz2 : w24.cell? ⟨gb418, 2, none⟩ = some (.string ((rd_T38 x8_1 x10_1).f2)) := (blk_cell BK418.out 2).trans rfl
              have hz3 : w24.cell? ⟨gb418, 3, none⟩ = some (.string ((rd_T38 x8_1 x10_1).f3)) := (blk_cell BK418.out 3).trans rfl
              have hz4 : w24.cell? ⟨gb418, 4, none⟩ = some (.slice A417_4 ((rd_T38 x8_1 x10_1).f4).length c417_4) := (blk_cell BK418.out 4).trans rfl
              have hz5 : w24.cell? (ad419.add (((ji14)).toNat * 5)) = some (.int .i64 ((rd_T38 x3_1 (ji14)).f0)) := hx419_0
              have hz6 : w24.cell? ⟨(ad419.add (((ji14)).toNat * 5)).block, (ad419.add (((ji14)).toNat * 5)).off + 1, none⟩ = some (.int .i64 ((rd_T38 x3_1 (ji14)).f1)) := hx419_1
              have hz7 : w24.cell? ⟨(ad419.add (((ji14)).toNat * 5)).block, (ad419.add (((ji14)).toNat * 5)).off + 2, none⟩ = some (.string ((rd_T38 x3_1 (ji14)).f2)) := hx419_2
              have hz8 : w24.cell? ⟨(ad419.add (((ji14)).toNat * 5)).block, (ad419.add (((ji14)).toNat * 5)).off + 3, none⟩ = some (.string ((rd_T38 x3_1 (ji14)).f3)) := hx419_3
              have hz9 : w24.cell? ⟨(ad419.add (((ji14)).toNat * 5)).block, (ad419.add (((ji14)).toNat * 5)).off + 4, none⟩ = some (.slice A419_4 ((rd_T38 x3_1 (ji14)).f4).length c419_4) := hx419_4
              go_region
              clear hz0 hz1 hz2 hz3 hz4 hz5 hz6 hz7 hz8 hz9
              generalize w24.drew = w25 at HO_3 HO_8 BK418 HB HL419_4 HL420_4 HR419_4 HR420_4 hx419_0 hx419_1 hx419_2 hx419_3 hx419_4 hx420_0 hx420_1 hx420_2 hx420_3 hx420_4 ⊢
              try go_wp2
              have n0_ := am (Kd.N_drew HO_3.out)
              have n1_ := am (Kd.N_drew HO_8.out)
              have n5_ := am (blk_drew BK418.out)
              have n8_ := am (below_drew1 HB.out)
              clear HO_3
              clear HO_8
              clear HL419_4
              clear HL420_4
              clear BK418
              clear HR419_4
              clear HR420_4
              clear HB
              have HO_3 := n0_
              have HO_8 := n1_
              have BK418 := n5_
              have HB := n8_
              clear n0_ n1_ n5_ n8_
              have p421 : 0 ≤ ((ji14) : Int) := of_decide_eq_true za
              have q421 : (ji14) < (x3_1.length : Int) := of_decide_eq_true za
              obtain ⟨ad421, A421_4, c421_4, e421, hx421_0, hx421_1, hx421_2, hx421_3, hx421_4, hl421_4, hi421_4⟩ := at_T38 (Kd.N_reads' HO_3.out).2.2 (ji14) p421 q421
              obtain rfl : ad419 = ad421 := (by injection e421)
              obtain ⟨ce421, hce421, hMe421, hcc421⟩ := Kd.N_get HO_3.out z38 (ji14) p421 (by first | exact q421 | exact of_decide_eq_true za | (have e_ := (Kd.N_reads' HO_3.out).1; omega))
              obtain ⟨ua421_4, uc421_4, rfl, ul421_4, ge421_4⟩ := k38_openF hMe421
              have hv421_4 := hcc421 4 _ rfl
              rw [add_field _ _ 4 (by omega)] at hv421_4
              replace hv421_4 := Option.some.inj (hv421_4.symm.trans hx421_4)
              injection hv421_4 with hva_ hvn_ hvc_
              rw [hva_] at ge421_4
              rw [hvc_] at ul421_4
              have HL421_4 := am (show Kd.V k45 45 _ w.heap.size _ _ ((rd_T38 x3_1 (ji14)).f4) from Kd.V_mk ul421_4 ge421_4)
              clear hva_ hvn_ hvc_ ge421_4 ul421_4
              clear hcc421 hce421
              have HR421_4 := am hi421_4
              have HC421_4 := am hl421_4
              clear hi421_4 hl421_4
              replace p421 := eq_true p421
              replace q421 := eq_true q421
              have p20 : 0 ≤ ((ji14) : Int) := of_decide_eq_true za
              have q20 : ((ji14) : Int) < ((x3_1.length : Int) : Int) := of_decide_eq_true za
              obtain ⟨go20, co20, eo20, gb20, gl20, cl20, HG20⟩ := Kd.N_form HO_3.out (by omega)
              (first | cases eo20 | (injection eo20 with ea_ en_ ec_; (first | subst ea_ | (injection ea_ with ea_; subst ea_)); subst ec_; clear en_))
              have GB20 := am gb20
              have GG20 := am HG20
              clear gb20 gl20 HG20
              (first | simp only [add_plain] at hx419_0 | skip)
              (first | simp only [add_plain] at hx419_1 | skip)
              (first | simp only [add_plain] at hx419_2 | skip)
              (first | simp only [add_plain] at hx419_3 | skip)
              (first | simp only [add_plain] at hx419_4 | skip)
              (first | simp only [add_plain] at hx420_0 | skip)
              (first | simp only [add_plain] at hx420_1 | skip)
              (first | simp only [add_plain] at hx420_2 | skip)
              (first | simp only [add_plain] at hx420_3 | skip)
              (first | simp only [add_plain] at hx420_4 | skip)
              (first | simp only [add_plain] at hx421_0 | skip)
              (first | simp only [add_plain] at hx421_1 | skip)
              (first | simp only [add_plain] at hx421_2 | skip)
              (first | simp only [add_plain] at hx421_3 | skip)
              (first | simp only [add_plain] at hx421_4 | skip)
              obtain ⟨ce20, hcl20, hM20, hcc20, hfr20⟩ := Kd.N_elem HO_3.out z38 ((ji14) : Int) p20 q20
              obtain ⟨ua20_4, uc20_4, rfl, ul20_4, ge20_4⟩ := k38_openF hM20
              have hx20_0 : World.cell? _ ⟨go20, ((ji14) : Int).toNat * 5, none⟩ = some (.int .i64 ((rd_T38 x3_1 (ji14)).f0)) := hcc20 0 _ rfl
              have hx20_1 : World.cell? _ ⟨go20, ((ji14) : Int).toNat * 5 + 1, none⟩ = some (.int .i64 ((rd_T38 x3_1 (ji14)).f1)) := hcc20 1 _ rfl
              have hx20_2 : World.cell? _ ⟨go20, ((ji14) : Int).toNat * 5 + 2, none⟩ = some (.string ((rd_T38 x3_1 (ji14)).f2)) := hcc20 2 _ rfl
              have hx20_3 : World.cell? _ ⟨go20, ((ji14) : Int).toNat * 5 + 3, none⟩ = some (.string ((rd_T38 x3_1 (ji14)).f3)) := hcc20 3 _ rfl
              have hx20_4 : World.cell? _ ⟨go20, ((ji14) : Int).toNat * 5 + 4, none⟩ = some (.slice ua20_4 ((rd_T38 x3_1 (ji14)).f4).length uc20_4) := hcc20 4 _ rfl
              have hf20_0 : World.frozen? _ ⟨go20, ((ji14) : Int).toNat * 5, none⟩ = false := hfr20 0
              have hf20_1 : World.frozen? _ ⟨go20, ((ji14) : Int).toNat * 5 + 1, none⟩ = false := hfr20 1
              have hf20_2 : World.frozen? _ ⟨go20, ((ji14) : Int).toNat * 5 + 2, none⟩ = false := hfr20 2
              have hf20_3 : World.frozen? _ ⟨go20, ((ji14) : Int).toNat * 5 + 3, none⟩ = false := hfr20 3
              have hf20_4 : World.frozen? _ ⟨go20, ((ji14) : Int).toNat * 5 + 4, none⟩ = false := hfr20 4
              clear hcl20 hcc20 hfr20 hM20
              replace p20 := eq_true p20
              replace q20 := eq_true q20
              have HX27 := am (show Kd.N k38 38 _ w.heap.size (fun k_ => (w.heap.size ≤ k_) ∧ some k_ ≠ (.slice (some ad417) x8_1.length co4 : Value).ownBlock ∧ k_ ≠ gb418) (.slice (some ⟨go20, 0, none⟩) x3_1.length co23) x3_1 from (Kd.N_mono (HO_3.out) (fun k_ hk => ⟨hk.1, ⟨hk.2.1, hk.2.2⟩⟩)))
              obtain ⟨ce27, hcl27, hM27, hcc27, hfr27⟩ := Kd.N_elem HX27.out z38 ((ji14) : Int) (of_decide_eq_true za) (by have h_ : ((ji14) : Int) < ((x3_1.length : Int) : Int) := of_decide_eq_true za; first | exact h_ | (have e_ := (Kd.N_reads' HO_3.out).1; omega) | simpa using h_)
              obtain ⟨ua27_4, uc27_4, rfl, ul27_4, ge27_4⟩ := k38_openF hM27
              have HP27 := (Kd.N_seg HX27.out ((ji14) : Int) (of_decide_eq_true za) (by have h_ : ((ji14) : Int) < ((x3_1.length : Int) : Int) := of_decide_eq_true za; first | exact h_ | (have e_ := (Kd.N_reads' HO_3.out).1; omega) | simpa using h_) (seg := [.string (((rd_T38 x3_1 (ji14)).f3) ++ ((rd_T38 x8_1 x10_1).f3))]) (j := 3) hcl27 hcc27 (show 4 ≤ 5 from by decide) (x' := (⟨(rd_T38 x3_1 (ji14)).f0, (rd_T38 x3_1 (ji14)).f1, (rd_T38 x3_1 (ji14)).f2, ((rd_T38 x3_1 (ji14)).f3) ++ ((rd_T38 x8_1 x10_1).f3), (rd_T38 x3_1 (ji14)).f4⟩ : S38)) (k38_mkF _ _ (⟨(rd_T38 x3_1 (ji14)).f0, (rd_T38 x3_1 (ji14)).f1, (rd_T38 x3_1 (ji14)).f2, ((rd_T38 x3_1 (ji14)).f3) ++ ((rd_T38 x8_1 x10_1).f3), (rd_T38 x3_1 (ji14)).f4⟩ : S38) ul27_4 ge27_4) (fun _ hk => hk)).1
              rw [← Ny422.out] at HP27
              have HQ27 := am HP27
              clear hcl27 hcc27 hfr27 hM27 HP27
              have hz0 : w25.cell? ⟨gb418, 0, none⟩ = some (.int .i64 ((rd_T38 x8_1 x10_1).f0)) := (blk_cell BK418.out 0).trans rfl
              have hz1 : w25.cell? ⟨gb418, 1, none⟩ = some (.int .i64 ((rd_T38 x8_1 x10_1).f1)) := (blk_cell BK418.out 1).trans rfl
              have hz2 : w25.cell? ⟨gb418, 2, none⟩ = some (.string ((rd_T38 x8_1 x10_1).f2)) := (blk_cell BK418.out 2).trans rfl
              have hz3 : w25.cell? ⟨gb418, 3, none⟩ = some (.string ((rd_T38 x8_1 x10_1).f3)) := (blk_cell BK418.out 3).trans rfl
              have hz4 : w25.cell? ⟨gb418, 4, none⟩ = some (.slice A417_4 ((rd_T38 x8_1 x10_1).f4).length c417_4) := (blk_cell BK418.out 4).trans rfl
              have hz5 : w25.cell? ⟨go20, ((ji14)).toNat * 5, none⟩ = some (.int .i64 ((rd_T38 x3_1 (ji14)).f0)) := hx421_0
              have hz6 : w25.cell? ⟨go20, ((ji14)).toNat * 5 + 1, none⟩ = some (.int .i64 ((rd_T38 x3_1 (ji14)).f1)) := hx421_1
              have hz7 : w25.cell? ⟨go20, ((ji14)).toNat * 5 + 2, none⟩ = some (.string ((rd_T38 x3_1 (ji14)).f2)) := hx421_2
              have hz8 : w25.cell? ⟨go20, ((ji14)).toNat * 5 + 3, none⟩ = some (.string ((rd_T38 x3_1 (ji14)).f3)) := hx421_3
              have hz9 : w25.cell? ⟨go20, ((ji14)).toNat * 5 + 4, none⟩ = some (.slice A421_4 ((rd_T38 x3_1 (ji14)).f4).length c421_4) := hx421_4
              have hfBK418_0 : World.frozen? w25 ⟨gb418, 0, none⟩ = false := blk_frozen BK418.out 0
              have hfBK418_1 : World.frozen? w25 ⟨gb418, 1, none⟩ = false := blk_frozen BK418.out 1
              have hfBK418_2 : World.frozen? w25 ⟨gb418, 2, none⟩ = false := blk_frozen BK418.out 2
              have hfBK418_3 : World.frozen? w25 ⟨gb418, 3, none⟩ = false := blk_frozen BK418.out 3
              have hfBK418_4 : World.frozen? w25 ⟨gb418, 4, none⟩ = false := blk_frozen BK418.out 4
              have yhf20_4 : World.frozen? w25 ⟨go20, ((ji14) : Int).toNat * 5 + 4, none⟩ = false := hf20_4
              have yhf20_3 : World.frozen? w25 ⟨go20, ((ji14) : Int).toNat * 5 + 3, none⟩ = false := hf20_3
              have yhf20_2 : World.frozen? w25 ⟨go20, ((ji14) : Int).toNat * 5 + 2, none⟩ = false := hf20_2
              have yhf20_1 : World.frozen? w25 ⟨go20, ((ji14) : Int).toNat * 5 + 1, none⟩ = false := hf20_1
              have yhf20_0 : World.frozen? w25 ⟨go20, ((ji14) : Int).toNat * 5, none⟩ = false := hf20_0
              go_region
              try rw [show ∀ (w : World) a v, (w.setCell a v).drew = w.drew.setCell a v from fun _ _ _ => rfl]
              clear hz0 hz1 hz2 hz3 hz4 hz5 hz6 hz7 hz8 hz9 hfBK418_0 hfBK418_1 hfBK418_2 hfBK418_3 hfBK418_4 yhf20_4 yhf20_3 yhf20_2 yhf20_1 yhf20_0
              generalize w25.drew = w26 at HO_3 HO_8 BK418 HB GG20 HL421_4 HQ27 HR421_4 hf20_0 hf20_1 hf20_2 hf20_3 hf20_4 hx20_0 hx20_1 hx20_2 hx20_3 hx20_4 hx419_0 hx419_1 hx419_2 hx419_3 hx419_4 hx420_0 hx420_1 hx420_2 hx420_3 hx420_4 hx421_0 hx421_1 hx421_2 hx421_3 hx421_4 ⊢
              try go_wp2
              (try simp only [← hl8_1])
              go_roundg k1
              case measure => have := HK1.out; omega
              case rel => exact ⟨(y422), (x8_1), (wrap64 (x10_1 + 1)), zr, H', ⟨by have := HK1.out; omega⟩, ⟨by (try simp only [hl8_1]); exact Kd.N_mono HQ27.out (fun _ hk => ⟨hk.1, hk.2.1⟩)⟩, ⟨by (try simp only [hl8_1]); exact Kd.N_mono (Kd.N_far (p := ⟨go20, ((ji14) : Int).toNat * 5 + 3, none⟩) (Kd.N_mono HO_8.out (fun k_ hk => (⟨hk, fun e_ => hk.2.1 (by rw [e_]; rfl)⟩ : _ ∧ k_ ≠ go20))) (fun _ hk => hk.2) (.string (((rd_T38 x3_1 (ji14)).f3) ++ ((rd_T38 x8_1 x10_1).f3)))) (fun _ hk => ⟨hk.1.1, hk.1.2.1⟩)⟩, ⟨zb2 HB GB20 GE418⟩⟩
             ·rw [if_neg c19] at H
              exact absurd H (by simp)
            ·rw [if_neg c18] at H
             have c18b0 : (((rd_T38 x3_1 (ji14)).f0) == ((rd_T38 x8_1 x10_1).f0)) = false := beq_eq_false_iff_ne.mpr c18
             have c18b1 : (((rd_T38 x3_1 (ji14)).f0) != ((rd_T38 x8_1 x10_1).f0)) = true := bne_iff_ne.mpr c18
             by_cases c28 : x3_1.length < 1954687338268
             ·rw [if_pos c28] at H
              have LMc28 := am c28
              clear c28
              obtain ⟨y423, hy423⟩ : ∃ y_ : List (S38), y_ = (x3_1 ++ [(⟨(rd_T38 x8_1 x10_1).f0, (rd_T38 x8_1 x10_1).f1, (rd_T38 x8_1 x10_1).f2, (rd_T38 x8_1 x10_1).f3, (rd_T38 x8_1 x10_1).f4⟩ : S38)]) := ⟨_, rfl⟩
              replace H : (rows_Normal.l0 k1 y423 x8_1 (t414.length : Int) (wrap64 (x10_1 + 1))) = some r := by first | (rw [hy423]; with_reducible exact H) | (have H2_ := (Option.bind_some _ _).symm.trans H; rw [hy423]; with_reducible exact H2_) | (have H2_ := (Option.bind_some _ _).symm.trans H; with_reducible exact H2_) | with_reducible exact H | (rw [hy423]; exact H) | exact H
              have Ny423 := am hy423
              clear hy423
              have H' := am H
              clear H
              have p417 : 0 ≤ (x10_1 : Int) := of_decide_eq_true za
              have q417 : x10_1 < (x8_1.length : Int) := of_decide_eq_true za
              obtain ⟨ad417, A417_4, c417_4, e417, hx417_0, hx417_1, hx417_2, hx417_3, hx417_4, hl417_4, hi417_4⟩ := at_T38 (Kd.N_reads' HO_8.out).2.2 x10_1 p417 q417
              cases e417
              obtain ⟨ce417, hce417, hMe417, hcc417⟩ := Kd.N_get HO_8.out z38 x10_1 p417 (by first | exact q417 | exact of_decide_eq_true za | (have e_ := (Kd.N_reads' HO_8.out).1; omega))
              obtain ⟨ua417_4, uc417_4, rfl, ul417_4, ge417_4⟩ := k38_openF hMe417
              have hv417_4 := hcc417 4 _ rfl
              rw [add_field _ _ 4 (by omega)] at hv417_4
              replace hv417_4 := Option.some.inj (hv417_4.symm.trans hx417_4)
              injection hv417_4 with hva_ hvn_ hvc_
              rw [hva_] at ge417_4
              rw [hvc_] at ul417_4
              have HL417_4 := am (show Kd.V k45 45 _ w.heap.size _ _ ((rd_T38 x8_1 x10_1).f4) from Kd.V_mk ul417_4 ge417_4)
              clear hva_ hvn_ hvc_ ge417_4 ul417_4
              clear hcc417 hce417
              have HR417_4 := am hi417_4
              have HC417_4 := am hl417_4
              clear hi417_4 hl417_4
              replace p417 := eq_true p417
              replace q417 := eq_true q417
              try go_wp2_with (first | ((with_reducible refine gate_dst (N := 5) rfl ?_); refine box_event ?hg (N := 5) ?hd (cs := #[.int .i64 0, .int .i64 0, .string (⟨#[]⟩ : ByteArray), .string (⟨#[]⟩ : ByteArray), .slice none 0 0]) (t := 38) ?hr ?_; (case hd => rfl); (case hg => rfl); (case hr => first | (go_simp; done) | (go_simp; rfl)); intro gb418 hg w29 hbox hb; have n0_ := am (Kd.N_below (Kd.N_elderB (by exact HO_3.out) gb418 (Nat.le_of_eq hg.symm)) hb); have n1_ := am (Kd.N_below (Kd.N_elderB (by exact HO_8.out) gb418 (Nat.le_of_eq hg.symm)) hb); have n2_ := am (Kd.V_below (Kd.V_elderB (by exact HL417_4.out) gb418 (Nat.le_of_eq hg.symm)) hb); have n4_ := am (below_step (zb HB) hb); have n5_ := am (hbox); have n7_ := am ((by rw [hg]; exact (below_size (zb HB)) : w.heap.size ≤ gb418)); clear HO_3; clear HO_8; clear HL417_4; clear HR417_4; clear HB; have HO_3 := n0_; have HO_8 := n1_; have HL417_4 := n2_; have HB := n4_; have BK418 := n5_; have GE418 := n7_; clear n0_ n1_ n2_ n4_ n5_ n7_; clear hb hbox hg; obtain ⟨hcz30_0, hcz30_1, hcz30_2, hcz30_3, hcz30_4, hfz30_0, hfz30_1, hfz30_2, hfz30_3, hfz30_4⟩ := cz5 BK418.out; obtain ⟨Ao31, co31, eo31⟩ := Kd.N_slice HO_3.out; subst eo31))
              have n0_ : Aside0 (Kd.N k38 38 (((((w29.setCell ⟨gb418, 0, none⟩ (.int .i64 ((rd_T38 x8_1 x10_1).f0))).setCell ⟨gb418, 1, none⟩ (.int .i64 ((rd_T38 x8_1 x10_1).f1))).setCell ⟨gb418, 2, none⟩ (.string ((rd_T38 x8_1 x10_1).f2))).setCell ⟨gb418, 3, none⟩ (.string ((rd_T38 x8_1 x10_1).f3))).setCell ⟨gb418, 4, none⟩ (.slice A417_4 ((rd_T38 x8_1 x10_1).f4).length c417_4)) w.heap.size (fun k_ => (w.heap.size ≤ k_) ∧ some k_ ≠ (.slice (some ad417) x8_1.length co4 : Value).ownBlock ∧ k_ ≠ gb418) (.slice Ao31 x3_1.length co31) x3_1) := ⟨by exact Kd.N_mono (Nf5 (g := gb418) (Kd.N_mono HO_3.out (fun k_ hk => (⟨hk, hk.2⟩ : _ ∧ k_ ≠ gb418))) (fun _ hk => hk.2) (.int .i64 ((rd_T38 x8_1 x10_1).f0)) (.int .i64 ((rd_T38 x8_1 x10_1).f1)) (.string ((rd_T38 x8_1 x10_1).f2)) (.string ((rd_T38 x8_1 x10_1).f3)) (.slice A417_4 ((rd_T38 x8_1 x10_1).f4).length c417_4)) (fun _ hk => ⟨hk.1.1.1, ⟨hk.1.1.2, hk.1.2⟩⟩)⟩
              have n1_ : Aside0 (Kd.N k38 38 (((((w29.setCell ⟨gb418, 0, none⟩ (.int .i64 ((rd_T38 x8_1 x10_1).f0))).setCell ⟨gb418, 1, none⟩ (.int .i64 ((rd_T38 x8_1 x10_1).f1))).setCell ⟨gb418, 2, none⟩ (.string ((rd_T38 x8_1 x10_1).f2))).setCell ⟨gb418, 3, none⟩ (.string ((rd_T38 x8_1 x10_1).f3))).setCell ⟨gb418, 4, none⟩ (.slice A417_4 ((rd_T38 x8_1 x10_1).f4).length c417_4)) w.heap.size (fun k_ => (w.heap.size ≤ k_) ∧ some k_ ≠ (.slice Ao31 x3_1.length co31 : Value).ownBlock ∧ k_ ≠ gb418) (.slice (some ad417) x8_1.length co4) x8_1) := ⟨by exact Kd.N_mono (Nf5 (g := gb418) (Kd.N_mono HO_8.out (fun k_ hk => (⟨hk, hk.2⟩ : _ ∧ k_ ≠ gb418))) (fun _ hk => hk.2) (.int .i64 ((rd_T38 x8_1 x10_1).f0)) (.int .i64 ((rd_T38 x8_1 x10_1).f1)) (.string ((rd_T38 x8_1 x10_1).f2)) (.string ((rd_T38 x8_1 x10_1).f3)) (.slice A417_4 ((rd_T38 x8_1 x10_1).f4).length c417_4)) (fun _ hk => ⟨hk.1.1.1, ⟨hk.1.1.2, hk.1.2⟩⟩)⟩
              have n2_ : Aside0 (Kd.V k45 45 (((((w29.setCell ⟨gb418, 0, none⟩ (.int .i64 ((rd_T38 x8_1 x10_1).f0))).setCell ⟨gb418, 1, none⟩ (.int .i64 ((rd_T38 x8_1 x10_1).f1))).setCell ⟨gb418, 2, none⟩ (.string ((rd_T38 x8_1 x10_1).f2))).setCell ⟨gb418, 3, none⟩ (.string ((rd_T38 x8_1 x10_1).f3))).setCell ⟨gb418, 4, none⟩ (.slice A417_4 ((rd_T38 x8_1 x10_1).f4).length c417_4)) w.heap.size (fun k_ => (w.heap.size ≤ k_) ∧ some k_ ≠ (.slice Ao31 x3_1.length co31 : Value).ownBlock ∧ some k_ ≠ (.slice (some ad417) x8_1.length co4 : Value).ownBlock ∧ k_ ≠ gb418) (.slice A417_4 ((rd_T38 x8_1 x10_1).f4).length c417_4) ((rd_T38 x8_1 x10_1).f4)) := ⟨by exact Kd.V_mono (Vf5 (g := gb418) (Kd.V_mono HL417_4.out (fun k_ hk => (⟨hk, hk.2⟩ : _ ∧ k_ ≠ gb418))) (fun _ hk => hk.2) (.int .i64 ((rd_T38 x8_1 x10_1).f0)) (.int .i64 ((rd_T38 x8_1 x10_1).f1)) (.string ((rd_T38 x8_1 x10_1).f2)) (.string ((rd_T38 x8_1 x10_1).f3)) (.slice A417_4 ((rd_T38 x8_1 x10_1).f4).length c417_4)) (fun _ hk => ⟨hk.1.1.1.1, ⟨hk.1.1.1.2, ⟨hk.1.1.2, hk.1.2⟩⟩⟩)⟩
              have n3_ : Aside0 ((((((w29.setCell ⟨gb418, 0, none⟩ (.int .i64 ((rd_T38 x8_1 x10_1).f0))).setCell ⟨gb418, 1, none⟩ (.int .i64 ((rd_T38 x8_1 x10_1).f1))).setCell ⟨gb418, 2, none⟩ (.string ((rd_T38 x8_1 x10_1).f2))).setCell ⟨gb418, 3, none⟩ (.string ((rd_T38 x8_1 x10_1).f3))).setCell ⟨gb418, 4, none⟩ (.slice A417_4 ((rd_T38 x8_1 x10_1).f4).length c417_4)).heap[gb418]? = some (.cells #[.int .i64 ((rd_T38 x8_1 x10_1).f0), .int .i64 ((rd_T38 x8_1 x10_1).f1), .string ((rd_T38 x8_1 x10_1).f2), .string ((rd_T38 x8_1 x10_1).f3), .slice A417_4 ((rd_T38 x8_1 x10_1).f4).length c417_4] 38 (0, 0))) := ⟨by refine blk_put (cs := #[.int .i64 ((rd_T38 x8_1 x10_1).f0), .int .i64 ((rd_T38 x8_1 x10_1).f1), .string ((rd_T38 x8_1 x10_1).f2), .string ((rd_T38 x8_1 x10_1).f3), .slice none 0 0]) ?_ 4 _ rfl; refine blk_put (cs := #[.int .i64 ((rd_T38 x8_1 x10_1).f0), .int .i64 ((rd_T38 x8_1 x10_1).f1), .string ((rd_T38 x8_1 x10_1).f2), .string (⟨#[]⟩ : ByteArray), .slice none 0 0]) ?_ 3 _ rfl; refine blk_put (cs := #[.int .i64 ((rd_T38 x8_1 x10_1).f0), .int .i64 ((rd_T38 x8_1 x10_1).f1), .string (⟨#[]⟩ : ByteArray), .string (⟨#[]⟩ : ByteArray), .slice none 0 0]) ?_ 2 _ rfl; refine blk_put (cs := #[.int .i64 ((rd_T38 x8_1 x10_1).f0), .int .i64 0, .string (⟨#[]⟩ : ByteArray), .string (⟨#[]⟩ : ByteArray), .slice none 0 0]) ?_ 1 _ rfl; refine blk_put (cs := #[.int .i64 0, .int .i64 0, .string (⟨#[]⟩ : ByteArray), .string (⟨#[]⟩ : ByteArray), .slice none 0 0]) ?_ 0 _ rfl; exact BK418.out⟩
              have n4_ : Aside0 (Below w.heap.size w (((((w29.setCell ⟨gb418, 0, none⟩ (.int .i64 ((rd_T38 x8_1 x10_1).f0))).setCell ⟨gb418, 1, none⟩ (.int .i64 ((rd_T38 x8_1 x10_1).f1))).setCell ⟨gb418, 2, none⟩ (.string ((rd_T38 x8_1 x10_1).f2))).setCell ⟨gb418, 3, none⟩ (.string ((rd_T38 x8_1 x10_1).f3))).setCell ⟨gb418, 4, none⟩ (.slice A417_4 ((rd_T38 x8_1 x10_1).f4).length c417_4))) := ⟨zb1 HB GE418⟩
              (try clear HO_3)
              (try clear HO_8)
              (try clear HL417_4)
              (try clear BK418)
              (try clear HB)
              generalize (((((w29.setCell ⟨gb418, 0, none⟩ (.int .i64 ((rd_T38 x8_1 x10_1).f0))).setCell ⟨gb418, 1, none⟩ (.int .i64 ((rd_T38 x8_1 x10_1).f1))).setCell ⟨gb418, 2, none⟩ (.string ((rd_T38 x8_1 x10_1).f2))).setCell ⟨gb418, 3, none⟩ (.string ((rd_T38 x8_1 x10_1).f3))).setCell ⟨gb418, 4, none⟩ (.slice A417_4 ((rd_T38 x8_1 x10_1).f4).length c417_4)) = w32 at n0_ n1_ n2_ n3_ n4_ ⊢
              have HO_3 := n0_
              have HO_8 := n1_
              have HL417_4 := n2_
              have BK418 := n3_
              have HB := n4_
              clear n0_ n1_ n2_ n3_ n4_
              have n0_ := am (Kd.N_drew HO_3.out)
              have n1_ := am (Kd.N_drew HO_8.out)
              have n2_ := am (Kd.V_drew HL417_4.out)
              have n3_ := am (blk_drew BK418.out)
              have n4_ := am (below_drew1 HB.out)
              clear HO_3
              clear HO_8
              clear HL417_4
              clear BK418
              clear HB
              have HO_3 := n0_
              have HO_8 := n1_
              have HL417_4 := n2_
              have BK418 := n3_
              have HB := n4_
              clear n0_ n1_ n2_ n3_ n4_
              have p419 : 0 ≤ ((ji14) : Int) := of_decide_eq_true za
              have q419 : (ji14) < (x3_1.length : Int) := of_decide_eq_true za
              obtain ⟨ad419, A419_4, c419_4, e419, hx419_0, hx419_1, hx419_2, hx419_3, hx419_4, hl419_4, hi419_4⟩ := at_T38 (Kd.N_reads' HO_3.out).2.2 (ji14) p419 q419
              cases e419
              obtain ⟨ce419, hce419, hMe419, hcc419⟩ := Kd.N_get HO_3.out z38 (ji14) p419 (by first | exact q419 | exact of_decide_eq_true za | (have e_ := (Kd.N_reads' HO_3.out).1; omega))
              obtain ⟨ua419_4, uc419_4, rfl, ul419_4, ge419_4⟩ := k38_openF hMe419
              have hv419_4 := hcc419 4 _ rfl
              rw [add_field _ _ 4 (by omega)] at hv419_4
              replace hv419_4 := Option.some.inj (hv419_4.symm.trans hx419_4)
              injection hv419_4 with hva_ hvn_ hvc_
              rw [hva_] at ge419_4
              rw [hvc_] at ul419_4
              have HL419_4 := am (show Kd.V k45 45 _ w.heap.size _ _ ((rd_T38 x3_1 (ji14)).f4) from Kd.V_mk ul419_4 ge419_4)
              clear hva_ hvn_ hvc_ ge419_4 ul419_4
              clear hcc419 hce419
              have HR419_4 := am hi419_4
              have HC419_4 := am hl419_4
              clear hi419_4 hl419_4
              replace p419 := eq_true p419
              replace q419 := eq_true q419
              have p420 : 0 ≤ ((ji14) : Int) := of_decide_eq_true za
              have q420 : (ji14) < (x3_1.length : Int) := of_decide_eq_true za
              obtain ⟨ad420, A420_4, c420_4, e420, hx420_0, hx420_1, hx420_2, hx420_3, hx420_4, hl420_4, hi420_4⟩ := at_T38 (Kd.N_reads' HO_3.out).2.2 (ji14) p420 q420
              obtain rfl : ad419 = ad420 := (by injection e420)
              obtain ⟨ce420, hce420, hMe420, hcc420⟩ := Kd.N_get HO_3.out z38 (ji14) p420 (by first | exact q420 | exact of_decide_eq_true za | (have e_ := (Kd.N_reads' HO_3.out).1; omega))
              obtain ⟨ua420_4, uc420_4, rfl, ul420_4, ge420_4⟩ := k38_openF hMe420
              have hv420_4 := hcc420 4 _ rfl
              rw [add_field _ _ 4 (by omega)] at hv420_4
              replace hv420_4 := Option.some.inj (hv420_4.symm.trans hx420_4)
              injection hv420_4 with hva_ hvn_ hvc_
              rw [hva_] at ge420_4
              rw [hvc_] at ul420_4
              have HL420_4 := am (show Kd.V k45 45 _ w.heap.size _ _ ((rd_T38 x3_1 (ji14)).f4) from Kd.V_mk ul420_4 ge420_4)
              clear hva_ hvn_ hvc_ ge420_4 ul420_4
              clear hcc420 hce420
              have HR420_4 := am hi420_4
              have HC420_4 := am hl420_4
              clear hi420_4 hl420_4
              replace p420 := eq_true p420
              replace q420 := eq_true q420
              have ea_ := Option.some.inj (hx419_4.symm.trans hx420_4)
              injection ea_ with ea_ en_ ec_
              subst ea_
              subst ec_
              clear en_
              have hz0 : w32.cell? ⟨gb418, 0, none⟩ = some (.int .i64 ((rd_T38 x8_1 x10_1).f0)) := (blk_cell BK418.out 0).trans rfl
              have hz1 : w32.cell? ⟨gb418, 1, none⟩ = some (.int .i64 ((rd_T38 x8_1 x10_1).f1)) := (blk_cell BK418.out 1).trans rfl
              have hz2 : w32.cell? ⟨gb418, 2, none⟩ = some (.string ((rd_T38 x8_1 x10_1).f2)) := (blk_cell BK418.out 2).trans rfl
              have hz3 : w32.cell? ⟨gb418, 3, none⟩ = some (.string ((rd_T38 x8_1 x10_1).f3)) := (blk_cell BK418.out 3).trans rfl
              have hz4 : w32.cell? ⟨gb418, 4, none⟩ = some (.slice A417_4 ((rd_T38 x8_1 x10_1).f4).length c417_4) := (blk_cell BK418.out 4).trans rfl
              have hz5 : w32.cell? (ad419.add (((ji14)).toNat * 5)) = some (.int .i64 ((rd_T38 x3_1 (ji14)).f0)) := hx419_0
              have hz6 : w32.cell? ⟨(ad419.add (((ji14)).toNat * 5)).block, (ad419.add (((ji14)).toNat * 5)).off + 1, none⟩ = some (.int .i64 ((rd_T38 x3_1 (ji14)).f1)) := hx419_1
              have hz7 : w32.cell? ⟨(ad419.add (((ji14)).toNat * 5)).block, (ad419.add (((ji14)).toNat * 5)).off + 2, none⟩ = some (.string ((rd_T38 x3_1 (ji14)).f2)) := hx419_2
              have hz8 : w32.cell? ⟨(ad419.add (((ji14)).toNat * 5)).block, (ad419.add (((ji14)).toNat * 5)).off + 3, none⟩ = some (.string ((rd_T38 x3_1 (ji14)).f3)) := hx419_3
              have hz9 : w32.cell? ⟨(ad419.add (((ji14)).toNat * 5)).block, (ad419.add (((ji14)).toNat * 5)).off + 4, none⟩ = some (.slice A419_4 ((rd_T38 x3_1 (ji14)).f4).length c419_4) := hx419_4
              go_region
              clear hz0 hz1 hz2 hz3 hz4 hz5 hz6 hz7 hz8 hz9
              generalize w32.drew = w33 at HO_3 HO_8 HL417_4 BK418 HB HL419_4 HL420_4 HR419_4 HR420_4 hx419_0 hx419_1 hx419_2 hx419_3 hx419_4 hx420_0 hx420_1 hx420_2 hx420_3 hx420_4 ⊢
              obtain ⟨hcz34_0, hcz34_1, hcz34_2, hcz34_3, hcz34_4, hfz34_0, hfz34_1, hfz34_2, hfz34_3, hfz34_4⟩ := cz5 BK418.out
              try go_wp2_with (first | ((with_reducible refine gate_builtin (b := .append) (xs := #[.tmp 16, .tmp 18]) rfl ?_); at_builtin; refine Kd.N_append k38 (w0 := w) w.heap.size rfl (.tmp 16) (.tmp 18) 22 38 (.agg #[(.int .i64 0), (.int .i64 0), (.string ⟨#[]⟩), (.string ⟨#[]⟩), (.slice none 0 0)]) 72 rfl Tryz.underlying22 info38 rfl (by decide) (by omega) (.slice (some ad419) x3_1.length co31) x3_1 (⟨(rd_T38 x8_1 x10_1).f0, (rd_T38 x8_1 x10_1).f1, (rd_T38 x8_1 x10_1).f2, (rd_T38 x8_1 x10_1).f3, (rd_T38 x8_1 x10_1).f4⟩ : S38) [.int .i64 ((rd_T38 x8_1 x10_1).f0), .int .i64 ((rd_T38 x8_1 x10_1).f1), .string ((rd_T38 x8_1 x10_1).f2), .string ((rd_T38 x8_1 x10_1).f3), .slice A417_4 ((rd_T38 x8_1 x10_1).f4).length c417_4] (fun k_ => (w.heap.size ≤ k_) ∧ some k_ ≠ (.slice (some ad417) x8_1.length co4 : Value).ownBlock ∧ k_ ≠ gb418) (fun k_ => ((fun k_ => (w.heap.size ≤ k_) ∧ some k_ ≠ (.slice (some ad417) x8_1.length co4 : Value).ownBlock ∧ k_ ≠ gb418)) k_ ∧ some k_ ≠ (.slice (some ad419) x3_1.length co31 : Value).ownBlock) rfl rfl ?aP (fun _ hk => hk) ?aF ?aO ?aB ?aS ?aL ?_; (case aP => exact (k38_mkF _ _ (⟨(rd_T38 x8_1 x10_1).f0, (rd_T38 x8_1 x10_1).f1, (rd_T38 x8_1 x10_1).f2, (rd_T38 x8_1 x10_1).f3, (rd_T38 x8_1 x10_1).f4⟩ : S38) (Kd.V_reads' (Kd.V_mono (ok' := (fun k_ => ((fun k_ => (w.heap.size ≤ k_) ∧ some k_ ≠ (.slice (some ad417) x8_1.length co4 : Value).ownBlock ∧ k_ ≠ gb418)) k_ ∧ some k_ ≠ (.slice (some ad419) x3_1.length co31 : Value).ownBlock)) (HL417_4.out) (fun k_ hk => ⟨⟨hk.1, ⟨hk.2.2.1, hk.2.2.2⟩⟩, hk.2.1⟩))).2.1 (Kd.V_F (Kd.V_mono (ok' := (fun k_ => ((fun k_ => (w.heap.size ≤ k_) ∧ some k_ ≠ (.slice (some ad417) x8_1.length co4 : Value).ownBlock ∧ k_ ≠ gb418)) k_ ∧ some k_ ≠ (.slice (some ad419) x3_1.length co31 : Value).ownBlock)) (HL417_4.out) (fun k_ hk => ⟨⟨hk.1, ⟨hk.2.2.1, hk.2.2.2⟩⟩, hk.2.1⟩))))); (case aB => exact (zb1 HB GE418)); (case aF => exact (fun k_ hk => ⟨(Nat.le_trans (below_size (zb1 HB GE418)) hk), Kd.fresh' (Kd.N_lt (by exact HO_8.out)) k_ hk, Kd.freshB (by exact BK418.out) k_ hk⟩)); (case aO => exact (by exact HO_3.out)); (case aS => exact (below_size (zb1 HB GE418))); (case aL => have := LMc28.out; omega); intro v424 w35 ho hb hg hat; rw [← Ny423.out] at ho; have n0_ := am (Kd.N_afterv (ok := (fun k_ => (w.heap.size ≤ k_) ∧ k_ ≠ gb418)) (by exact Kd.N_mono HO_8.out (fun _ hk => ⟨⟨hk.1, hk.2.2⟩, hk.2.1⟩)) hg hat); have n5_ := am (hb); have n6_ := am (ho); clear HO_8; clear HL417_4; clear BK418; clear HL419_4; clear HL420_4; clear HB; clear HO_3; have HO_8 := n0_; have HB := n5_; have HO425 := n6_; clear n0_ n5_ n6_; clear ho hb hg hat))
              (try simp only [← hl8_1])
              go_roundg k1
              case measure => have := HK1.out; omega
              case rel => exact ⟨(y423), (x8_1), (wrap64 (x10_1 + 1)), zr, H', ⟨by have := HK1.out; omega⟩, ⟨by (try simp only [hl8_1]); exact Kd.N_mono HO425.out (fun _ hk => ⟨hk.1, hk.2.1⟩)⟩, ⟨by (try simp only [hl8_1]); exact Kd.N_mono HO_8.out (fun _ hk => ⟨hk.1.1, hk.2⟩)⟩, ⟨zb1 HB GE418⟩⟩
             ·rw [if_neg c28] at H
              exact absurd H (by simp)
           ·rw [if_neg c17] at H
            have c17b0 : (((rd_T38 x3_1 (ji14)).f1) == 1) = false := beq_eq_false_iff_ne.mpr c17
            have c17b1 : (((rd_T38 x3_1 (ji14)).f1) != 1) = true := bne_iff_ne.mpr c17
            by_cases c36 : x3_1.length < 1954687338268
            ·rw [if_pos c36] at H
             have LMc36 := am c36
             clear c36
             obtain ⟨y426, hy426⟩ : ∃ y_ : List (S38), y_ = (x3_1 ++ [(⟨(rd_T38 x8_1 x10_1).f0, (rd_T38 x8_1 x10_1).f1, (rd_T38 x8_1 x10_1).f2, (rd_T38 x8_1 x10_1).f3, (rd_T38 x8_1 x10_1).f4⟩ : S38)]) := ⟨_, rfl⟩
             replace H : (rows_Normal.l0 k1 y426 x8_1 (t414.length : Int) (wrap64 (x10_1 + 1))) = some r := by first | (rw [hy426]; with_reducible exact H) | (have H2_ := (Option.bind_some _ _).symm.trans H; rw [hy426]; with_reducible exact H2_) | (have H2_ := (Option.bind_some _ _).symm.trans H; with_reducible exact H2_) | with_reducible exact H | (rw [hy426]; exact H) | exact H
             have Ny426 := am hy426
             clear hy426
             have H' := am H
             clear H
             have p417 : 0 ≤ (x10_1 : Int) := of_decide_eq_true za
             have q417 : x10_1 < (x8_1.length : Int) := of_decide_eq_true za
             obtain ⟨ad417, A417_4, c417_4, e417, hx417_0, hx417_1, hx417_2, hx417_3, hx417_4, hl417_4, hi417_4⟩ := at_T38 (Kd.N_reads' HO_8.out).2.2 x10_1 p417 q417
             cases e417
             obtain ⟨ce417, hce417, hMe417, hcc417⟩ := Kd.N_get HO_8.out z38 x10_1 p417 (by first | exact q417 | exact of_decide_eq_true za | (have e_ := (Kd.N_reads' HO_8.out).1; omega))
             obtain ⟨ua417_4, uc417_4, rfl, ul417_4, ge417_4⟩ := k38_openF hMe417
             have hv417_4 := hcc417 4 _ rfl
             rw [add_field _ _ 4 (by omega)] at hv417_4
             replace hv417_4 := Option.some.inj (hv417_4.symm.trans hx417_4)
             injection hv417_4 with hva_ hvn_ hvc_
             rw [hva_] at ge417_4
             rw [hvc_] at ul417_4
             have HL417_4 := am (show Kd.V k45 45 _ w.heap.size _ _ ((rd_T38 x8_1 x10_1).f4) from Kd.V_mk ul417_4 ge417_4)
             clear hva_ hvn_ hvc_ ge417_4 ul417_4
             clear hcc417 hce417
             have HR417_4 := am hi417_4
             have HC417_4 := am hl417_4
             clear hi417_4 hl417_4
             replace p417 := eq_true p417
             replace q417 := eq_true q417
             try go_wp2_with (first | ((with_reducible refine gate_dst (N := 5) rfl ?_); refine box_event ?hg (N := 5) ?hd (cs := #[.int .i64 0, .int .i64 0, .string (⟨#[]⟩ : ByteArray), .string (⟨#[]⟩ : ByteArray), .slice none 0 0]) (t := 38) ?hr ?_; (case hd => rfl); (case hg => rfl); (case hr => first | (go_simp; done) | (go_simp; rfl)); intro gb418 hg w37 hbox hb; have n0_ := am (Kd.N_below (Kd.N_elderB (by exact HO_3.out) gb418 (Nat.le_of_eq hg.symm)) hb); have n1_ := am (Kd.N_below (Kd.N_elderB (by exact HO_8.out) gb418 (Nat.le_of_eq hg.symm)) hb); have n2_ := am (Kd.V_below (Kd.V_elderB (by exact HL417_4.out) gb418 (Nat.le_of_eq hg.symm)) hb); have n4_ := am (below_step (zb HB) hb); have n5_ := am (hbox); have n7_ := am ((by rw [hg]; exact (below_size (zb HB)) : w.heap.size ≤ gb418)); clear HO_3; clear HO_8; clear HL417_4; clear HR417_4; clear HB; have HO_3 := n0_; have HO_8 := n1_; have HL417_4 := n2_; have HB := n4_; have BK418 := n5_; have GE418 := n7_; clear n0_ n1_ n2_ n4_ n5_ n7_; clear hb hbox hg; obtain ⟨hcz38_0, hcz38_1, hcz38_2, hcz38_3, hcz38_4, hfz38_0, hfz38_1, hfz38_2, hfz38_3, hfz38_4⟩ := cz5 BK418.out; obtain ⟨Ao39, co39, eo39⟩ := Kd.N_slice HO_3.out; subst eo39))
             have n0_ : Aside0 (Kd.N k38 38 (((((w37.setCell ⟨gb418, 0, none⟩ (.int .i64 ((rd_T38 x8_1 x10_1).f0))).setCell ⟨gb418, 1, none⟩ (.int .i64 ((rd_T38 x8_1 x10_1).f1))).setCell ⟨gb418, 2, none⟩ (.string ((rd_T38 x8_1 x10_1).f2))).setCell ⟨gb418, 3, none⟩ (.string ((rd_T38 x8_1 x10_1).f3))).setCell ⟨gb418, 4, none⟩ (.slice A417_4 ((rd_T38 x8_1 x10_1).f4).length c417_4)) w.heap.size (fun k_ => (w.heap.size ≤ k_) ∧ some k_ ≠ (.slice (some ad417) x8_1.length co4 : Value).ownBlock ∧ k_ ≠ gb418) (.slice Ao39 x3_1.length co39) x3_1) := ⟨by exact Kd.N_mono (Nf5 (g := gb418) (Kd.N_mono HO_3.out (fun k_ hk => (⟨hk, hk.2⟩ : _ ∧ k_ ≠ gb418))) (fun _ hk => hk.2) (.int .i64 ((rd_T38 x8_1 x10_1).f0)) (.int .i64 ((rd_T38 x8_1 x10_1).f1)) (.string ((rd_T38 x8_1 x10_1).f2)) (.string ((rd_T38 x8_1 x10_1).f3)) (.slice A417_4 ((rd_T38 x8_1 x10_1).f4).length c417_4)) (fun _ hk => ⟨hk.1.1.1, ⟨hk.1.1.2, hk.1.2⟩⟩)⟩
             have n1_ : Aside0 (Kd.N k38 38 (((((w37.setCell ⟨gb418, 0, none⟩ (.int .i64 ((rd_T38 x8_1 x10_1).f0))).setCell ⟨gb418, 1, none⟩ (.int .i64 ((rd_T38 x8_1 x10_1).f1))).setCell ⟨gb418, 2, none⟩ (.string ((rd_T38 x8_1 x10_1).f2))).setCell ⟨gb418, 3, none⟩ (.string ((rd_T38 x8_1 x10_1).f3))).setCell ⟨gb418, 4, none⟩ (.slice A417_4 ((rd_T38 x8_1 x10_1).f4).length c417_4)) w.heap.size (fun k_ => (w.heap.size ≤ k_) ∧ some k_ ≠ (.slice Ao39 x3_1.length co39 : Value).ownBlock ∧ k_ ≠ gb418) (.slice (some ad417) x8_1.length co4) x8_1) := ⟨by exact Kd.N_mono (Nf5 (g := gb418) (Kd.N_mono HO_8.out (fun k_ hk => (⟨hk, hk.2⟩ : _ ∧ k_ ≠ gb418))) (fun _ hk => hk.2) (.int .i64 ((rd_T38 x8_1 x10_1).f0)) (.int .i64 ((rd_T38 x8_1 x10_1).f1)) (.string ((rd_T38 x8_1 x10_1).f2)) (.string ((rd_T38 x8_1 x10_1).f3)) (.slice A417_4 ((rd_T38 x8_1 x10_1).f4).length c417_4)) (fun _ hk => ⟨hk.1.1.1, ⟨hk.1.1.2, hk.1.2⟩⟩)⟩
             have n2_ : Aside0 (Kd.V k45 45 (((((w37.setCell ⟨gb418, 0, none⟩ (.int .i64 ((rd_T38 x8_1 x10_1).f0))).setCell ⟨gb418, 1, none⟩ (.int .i64 ((rd_T38 x8_1 x10_1).f1))).setCell ⟨gb418, 2, none⟩ (.string ((rd_T38 x8_1 x10_1).f2))).setCell ⟨gb418, 3, none⟩ (.string ((rd_T38 x8_1 x10_1).f3))).setCell ⟨gb418, 4, none⟩ (.slice A417_4 ((rd_T38 x8_1 x10_1).f4).length c417_4)) w.heap.size (fun k_ => (w.heap.size ≤ k_) ∧ some k_ ≠ (.slice Ao39 x3_1.length co39 : Value).ownBlock ∧ some k_ ≠ (.slice (some ad417) x8_1.length co4 : Value).ownBlock ∧ k_ ≠ gb418) (.slice A417_4 ((rd_T38 x8_1 x10_1).f4).length c417_4) ((rd_T38 x8_1 x10_1).f4)) := ⟨by exact Kd.V_mono (Vf5 (g := gb418) (Kd.V_mono HL417_4.out (fun k_ hk => (⟨hk, hk.2⟩ : _ ∧ k_ ≠ gb418))) (fun _ hk => hk.2) (.int .i64 ((rd_T38 x8_1 x10_1).f0)) (.int .i64 ((rd_T38 x8_1 x10_1).f1)) (.string ((rd_T38 x8_1 x10_1).f2)) (.string ((rd_T38 x8_1 x10_1).f3)) (.slice A417_4 ((rd_T38 x8_1 x10_1).f4).length c417_4)) (fun _ hk => ⟨hk.1.1.1.1, ⟨hk.1.1.1.2, ⟨hk.1.1.2, hk.1.2⟩⟩⟩)⟩
             have n3_ : Aside0 ((((((w37.setCell ⟨gb418, 0, none⟩ (.int .i64 ((rd_T38 x8_1 x10_1).f0))).setCell ⟨gb418, 1, none⟩ (.int .i64 ((rd_T38 x8_1 x10_1).f1))).setCell ⟨gb418, 2, none⟩ (.string ((rd_T38 x8_1 x10_1).f2))).setCell ⟨gb418, 3, none⟩ (.string ((rd_T38 x8_1 x10_1).f3))).setCell ⟨gb418, 4, none⟩ (.slice A417_4 ((rd_T38 x8_1 x10_1).f4).length c417_4)).heap[gb418]? = some (.cells #[.int .i64 ((rd_T38 x8_1 x10_1).f0), .int .i64 ((rd_T38 x8_1 x10_1).f1), .string ((rd_T38 x8_1 x10_1).f2), .string ((rd_T38 x8_1 x10_1).f3), .slice A417_4 ((rd_T38 x8_1 x10_1).f4).length c417_4] 38 (0, 0))) := ⟨by refine blk_put (cs := #[.int .i64 ((rd_T38 x8_1 x10_1).f0), .int .i64 ((rd_T38 x8_1 x10_1).f1), .string ((rd_T38 x8_1 x10_1).f2), .string ((rd_T38 x8_1 x10_1).f3), .slice none 0 0]) ?_ 4 _ rfl; refine blk_put (cs := #[.int .i64 ((rd_T38 x8_1 x10_1).f0), .int .i64 ((rd_T38 x8_1 x10_1).f1), .string ((rd_T38 x8_1 x10_1).f2), .string (⟨#[]⟩ : ByteArray), .slice none 0 0]) ?_ 3 _ rfl; refine blk_put (cs := #[.int .i64 ((rd_T38 x8_1 x10_1).f0), .int .i64 ((rd_T38 x8_1 x10_1).f1), .string (⟨#[]⟩ : ByteArray), .string (⟨#[]⟩ : ByteArray), .slice none 0 0]) ?_ 2 _ rfl; refine blk_put (cs := #[.int .i64 ((rd_T38 x8_1 x10_1).f0), .int .i64 0, .string (⟨#[]⟩ : ByteArray), .string (⟨#[]⟩ : ByteArray), .slice none 0 0]) ?_ 1 _ rfl; refine blk_put (cs := #[.int .i64 0, .int .i64 0, .string (⟨#[]⟩ : ByteArray), .string (⟨#[]⟩ : ByteArray), .slice none 0 0]) ?_ 0 _ rfl; exact BK418.out⟩
             have n4_ : Aside0 (Below w.heap.size w (((((w37.setCell ⟨gb418, 0, none⟩ (.int .i64 ((rd_T38 x8_1 x10_1).f0))).setCell ⟨gb418, 1, none⟩ (.int .i64 ((rd_T38 x8_1 x10_1).f1))).setCell ⟨gb418, 2, none⟩ (.string ((rd_T38 x8_1 x10_1).f2))).setCell ⟨gb418, 3, none⟩ (.string ((rd_T38 x8_1 x10_1).f3))).setCell ⟨gb418, 4, none⟩ (.slice A417_4 ((rd_T38 x8_1 x10_1).f4).length c417_4))) := ⟨zb1 HB GE418⟩
             (try clear HO_3)
             (try clear HO_8)
             (try clear HL417_4)
             (try clear BK418)
             (try clear HB)
             generalize (((((w37.setCell ⟨gb418, 0, none⟩ (.int .i64 ((rd_T38 x8_1 x10_1).f0))).setCell ⟨gb418, 1, none⟩ (.int .i64 ((rd_T38 x8_1 x10_1).f1))).setCell ⟨gb418, 2, none⟩ (.string ((rd_T38 x8_1 x10_1).f2))).setCell ⟨gb418, 3, none⟩ (.string ((rd_T38 x8_1 x10_1).f3))).setCell ⟨gb418, 4, none⟩ (.slice A417_4 ((rd_T38 x8_1 x10_1).f4).length c417_4)) = w40 at n0_ n1_ n2_ n3_ n4_ ⊢
             have HO_3 := n0_
             have HO_8 := n1_
             have HL417_4 := n2_
             have BK418 := n3_
             have HB := n4_
             clear n0_ n1_ n2_ n3_ n4_
             have n0_ := am (Kd.N_drew HO_3.out)
             have n1_ := am (Kd.N_drew HO_8.out)
             have n2_ := am (Kd.V_drew HL417_4.out)
             have n3_ := am (blk_drew BK418.out)
             have n4_ := am (below_drew1 HB.out)
             clear HO_3
             clear HO_8
             clear HL417_4
             clear BK418
             clear HB
             have HO_3 := n0_
             have HO_8 := n1_
             have HL417_4 := n2_
             have BK418 := n3_
             have HB := n4_
             clear n0_ n1_ n2_ n3_ n4_
             have p419 : 0 ≤ ((ji14) : Int) := of_decide_eq_true za
             have q419 : (ji14) < (x3_1.length : Int) := of_decide_eq_true za
             obtain ⟨ad419, A419_4, c419_4, e419, hx419_0, hx419_1, hx419_2, hx419_3, hx419_4, hl419_4, hi419_4⟩ := at_T38 (Kd.N_reads' HO_3.out).2.2 (ji14) p419 q419
             cases e419
             obtain ⟨ce419, hce419, hMe419, hcc419⟩ := Kd.N_get HO_3.out z38 (ji14) p419 (by first | exact q419 | exact of_decide_eq_true za | (have e_ := (Kd.N_reads' HO_3.out).1; omega))
             obtain ⟨ua419_4, uc419_4, rfl, ul419_4, ge419_4⟩ := k38_openF hMe419
             have hv419_4 := hcc419 4 _ rfl
             rw [add_field _ _ 4 (by omega)] at hv419_4
             replace hv419_4 := Option.some.inj (hv419_4.symm.trans hx419_4)
             injection hv419_4 with hva_ hvn_ hvc_
             rw [hva_] at ge419_4
             rw [hvc_] at ul419_4
             have HL419_4 := am (show Kd.V k45 45 _ w.heap.size _ _ ((rd_T38 x3_1 (ji14)).f4) from Kd.V_mk ul419_4 ge419_4)
             clear hva_ hvn_ hvc_ ge419_4 ul419_4
             clear hcc419 hce419
             have HR419_4 := am hi419_4
             have HC419_4 := am hl419_4
             clear hi419_4 hl419_4
             replace p419 := eq_true p419
             replace q419 := eq_true q419
             have hz0 : w40.cell? ⟨gb418, 0, none⟩ = some (.int .i64 ((rd_T38 x8_1 x10_1).f0)) := (blk_cell BK418.out 0).trans rfl
             have hz1 : w40.cell? ⟨gb418, 1, none⟩ = some (.int .i64 ((rd_T38 x8_1 x10_1).f1)) := (blk_cell BK418.out 1).trans rfl
             have hz2 : w40.cell? ⟨gb418, 2, none⟩ = some (.string ((rd_T38 x8_1 x10_1).f2)) := (blk_cell BK418.out 2).trans rfl
             have hz3 : w40.cell? ⟨gb418, 3, none⟩ = some (.string ((rd_T38 x8_1 x10_1).f3)) := (blk_cell BK418.out 3).trans rfl
             have hz4 : w40.cell? ⟨gb418, 4, none⟩ = some (.slice A417_4 ((rd_T38 x8_1 x10_1).f4).length c417_4) := (blk_cell BK418.out 4).trans rfl
             have hz5 : w40.cell? (ad419.add (((ji14)).toNat * 5)) = some (.int .i64 ((rd_T38 x3_1 (ji14)).f0)) := hx419_0
             have hz6 : w40.cell? ⟨(ad419.add (((ji14)).toNat * 5)).block, (ad419.add (((ji14)).toNat * 5)).off + 1, none⟩ = some (.int .i64 ((rd_T38 x3_1 (ji14)).f1)) := hx419_1
             have hz7 : w40.cell? ⟨(ad419.add (((ji14)).toNat * 5)).block, (ad419.add (((ji14)).toNat * 5)).off + 2, none⟩ = some (.string ((rd_T38 x3_1 (ji14)).f2)) := hx419_2
             have hz8 : w40.cell? ⟨(ad419.add (((ji14)).toNat * 5)).block, (ad419.add (((ji14)).toNat * 5)).off + 3, none⟩ = some (.string ((rd_T38 x3_1 (ji14)).f3)) := hx419_3
             have hz9 : w40.cell? ⟨(ad419.add (((ji14)).toNat * 5)).block, (ad419.add (((ji14)).toNat * 5)).off + 4, none⟩ = some (.slice A419_4 ((rd_T38 x3_1 (ji14)).f4).length c419_4) := hx419_4
             go_region
             clear hz0 hz1 hz2 hz3 hz4 hz5 hz6 hz7 hz8 hz9
             generalize w40.drew = w41 at HO_3 HO_8 HL417_4 BK418 HB HL419_4 HR419_4 hx419_0 hx419_1 hx419_2 hx419_3 hx419_4 ⊢
             obtain ⟨hcz42_0, hcz42_1, hcz42_2, hcz42_3, hcz42_4, hfz42_0, hfz42_1, hfz42_2, hfz42_3, hfz42_4⟩ := cz5 BK418.out
             try go_wp2_with (first | ((with_reducible refine gate_builtin (b := .append) (xs := #[.tmp 16, .tmp 18]) rfl ?_); at_builtin; refine Kd.N_append k38 (w0 := w) w.heap.size rfl (.tmp 16) (.tmp 18) 22 38 (.agg #[(.int .i64 0), (.int .i64 0), (.string ⟨#[]⟩), (.string ⟨#[]⟩), (.slice none 0 0)]) 72 rfl Tryz.underlying22 info38 rfl (by decide) (by omega) (.slice (some ad419) x3_1.length co39) x3_1 (⟨(rd_T38 x8_1 x10_1).f0, (rd_T38 x8_1 x10_1).f1, (rd_T38 x8_1 x10_1).f2, (rd_T38 x8_1 x10_1).f3, (rd_T38 x8_1 x10_1).f4⟩ : S38) [.int .i64 ((rd_T38 x8_1 x10_1).f0), .int .i64 ((rd_T38 x8_1 x10_1).f1), .string ((rd_T38 x8_1 x10_1).f2), .string ((rd_T38 x8_1 x10_1).f3), .slice A417_4 ((rd_T38 x8_1 x10_1).f4).length c417_4] (fun k_ => (w.heap.size ≤ k_) ∧ some k_ ≠ (.slice (some ad417) x8_1.length co4 : Value).ownBlock ∧ k_ ≠ gb418) (fun k_ => ((fun k_ => (w.heap.size ≤ k_) ∧ some k_ ≠ (.slice (some ad417) x8_1.length co4 : Value).ownBlock ∧ k_ ≠ gb418)) k_ ∧ some k_ ≠ (.slice (some ad419) x3_1.length co39 : Value).ownBlock) rfl rfl ?aP (fun _ hk => hk) ?aF ?aO ?aB ?aS ?aL ?_; (case aP => exact (k38_mkF _ _ (⟨(rd_T38 x8_1 x10_1).f0, (rd_T38 x8_1 x10_1).f1, (rd_T38 x8_1 x10_1).f2, (rd_T38 x8_1 x10_1).f3, (rd_T38 x8_1 x10_1).f4⟩ : S38) (Kd.V_reads' (Kd.V_mono (ok' := (fun k_ => ((fun k_ => (w.heap.size ≤ k_) ∧ some k_ ≠ (.slice (some ad417) x8_1.length co4 : Value).ownBlock ∧ k_ ≠ gb418)) k_ ∧ some k_ ≠ (.slice (some ad419) x3_1.length co39 : Value).ownBlock)) (HL417_4.out) (fun k_ hk => ⟨⟨hk.1, ⟨hk.2.2.1, hk.2.2.2⟩⟩, hk.2.1⟩))).2.1 (Kd.V_F (Kd.V_mono (ok' := (fun k_ => ((fun k_ => (w.heap.size ≤ k_) ∧ some k_ ≠ (.slice (some ad417) x8_1.length co4 : Value).ownBlock ∧ k_ ≠ gb418)) k_ ∧ some k_ ≠ (.slice (some ad419) x3_1.length co39 : Value).ownBlock)) (HL417_4.out) (fun k_ hk => ⟨⟨hk.1, ⟨hk.2.2.1, hk.2.2.2⟩⟩, hk.2.1⟩))))); (case aB => exact (zb1 HB GE418)); (case aF => exact (fun k_ hk => ⟨(Nat.le_trans (below_size (zb1 HB GE418)) hk), Kd.fresh' (Kd.N_lt (by exact HO_8.out)) k_ hk, Kd.freshB (by exact BK418.out) k_ hk⟩)); (case aO => exact (by exact HO_3.out)); (case aS => exact (below_size (zb1 HB GE418))); (case aL => have := LMc36.out; omega); intro v427 w43 ho hb hg hat; rw [← Ny426.out] at ho; have n0_ := am (Kd.N_afterv (ok := (fun k_ => (w.heap.size ≤ k_) ∧ k_ ≠ gb418)) (by exact Kd.N_mono HO_8.out (fun _ hk => ⟨⟨hk.1, hk.2.2⟩, hk.2.1⟩)) hg hat); have n4_ := am (hb); have n5_ := am (ho); clear HO_8; clear HL417_4; clear BK418; clear HL419_4; clear HB; clear HO_3; have HO_8 := n0_; have HB := n4_; have HO428 := n5_; clear n0_ n4_ n5_; clear ho hb hg hat))
             (try simp only [← hl8_1])
             go_roundg k1
             case measure => have := HK1.out; omega
             case rel => exact ⟨(y426), (x8_1), (wrap64 (x10_1 + 1)), zr, H', ⟨by have := HK1.out; omega⟩, ⟨by (try simp only [hl8_1]); exact Kd.N_mono HO428.out (fun _ hk => ⟨hk.1, hk.2.1⟩)⟩, ⟨by (try simp only [hl8_1]); exact Kd.N_mono HO_8.out (fun _ hk => ⟨hk.1.1, hk.2⟩)⟩, ⟨zb1 HB GE418⟩⟩
            ·rw [if_neg c36] at H
             exact absurd H (by simp)
          ·rw [if_neg c16] at H
           exact absurd H (by simp)
         ·rw [if_neg c15] at H
          exact absurd H (by simp)
        ·rw [if_neg c13] at H
         have c13b0 : decide (0 < (x3_1.length : Int)) = false := decide_eq_false c13
         have c13b1 : decide (0 < x3_1.length) = false := decide_eq_false (by omega)
         (try (have c13h0 := c13b0; simp only [hl8_1] at c13h0))
         clear c13
         by_cases c44 : x3_1.length < 1954687338268
         ·rw [if_pos c44] at H
          have LMc44 := am c44
          clear c44
          obtain ⟨y429, hy429⟩ : ∃ y_ : List (S38), y_ = (x3_1 ++ [(⟨(rd_T38 x8_1 x10_1).f0, (rd_T38 x8_1 x10_1).f1, (rd_T38 x8_1 x10_1).f2, (rd_T38 x8_1 x10_1).f3, (rd_T38 x8_1 x10_1).f4⟩ : S38)]) := ⟨_, rfl⟩
          replace H : (rows_Normal.l0 k1 y429 x8_1 (t414.length : Int) (wrap64 (x10_1 + 1))) = some r := by first | (rw [hy429]; with_reducible exact H) | (have H2_ := (Option.bind_some _ _).symm.trans H; rw [hy429]; with_reducible exact H2_) | (have H2_ := (Option.bind_some _ _).symm.trans H; with_reducible exact H2_) | with_reducible exact H | (rw [hy429]; exact H) | exact H
          have Ny429 := am hy429
          clear hy429
          have H' := am H
          clear H
          have p417 : 0 ≤ (x10_1 : Int) := of_decide_eq_true za
          have q417 : x10_1 < (x8_1.length : Int) := of_decide_eq_true za
          obtain ⟨ad417, A417_4, c417_4, e417, hx417_0, hx417_1, hx417_2, hx417_3, hx417_4, hl417_4, hi417_4⟩ := at_T38 (Kd.N_reads' HO_8.out).2.2 x10_1 p417 q417
          cases e417
          obtain ⟨ce417, hce417, hMe417, hcc417⟩ := Kd.N_get HO_8.out z38 x10_1 p417 (by first | exact q417 | exact of_decide_eq_true za | (have e_ := (Kd.N_reads' HO_8.out).1; omega))
          obtain ⟨ua417_4, uc417_4, rfl, ul417_4, ge417_4⟩ := k38_openF hMe417
          have hv417_4 := hcc417 4 _ rfl
          rw [add_field _ _ 4 (by omega)] at hv417_4
          replace hv417_4 := Option.some.inj (hv417_4.symm.trans hx417_4)
          injection hv417_4 with hva_ hvn_ hvc_
          rw [hva_] at ge417_4
          rw [hvc_] at ul417_4
          have HL417_4 := am (show Kd.V k45 45 _ w.heap.size _ _ ((rd_T38 x8_1 x10_1).f4) from Kd.V_mk ul417_4 ge417_4)
          clear hva_ hvn_ hvc_ ge417_4 ul417_4
          clear hcc417 hce417
          have HR417_4 := am hi417_4
          have HC417_4 := am hl417_4
          clear hi417_4 hl417_4
          replace p417 := eq_true p417
          replace q417 := eq_true q417
          try go_wp2_with (first | ((with_reducible refine gate_dst (N := 5) rfl ?_); refine box_event ?hg (N := 5) ?hd (cs := #[.int .i64 0, .int .i64 0, .string (⟨#[]⟩ : ByteArray), .string (⟨#[]⟩ : ByteArray), .slice none 0 0]) (t := 38) ?hr ?_; (case hd => rfl); (case hg => rfl); (case hr => first | (go_simp; done) | (go_simp; rfl)); intro gb418 hg w45 hbox hb; have n0_ := am (Kd.N_below (Kd.N_elderB (by exact HO_3.out) gb418 (Nat.le_of_eq hg.symm)) hb); have n1_ := am (Kd.N_below (Kd.N_elderB (by exact HO_8.out) gb418 (Nat.le_of_eq hg.symm)) hb); have n2_ := am (Kd.V_below (Kd.V_elderB (by exact HL417_4.out) gb418 (Nat.le_of_eq hg.symm)) hb); have n4_ := am (below_step (zb HB) hb); have n5_ := am (hbox); have n7_ := am ((by rw [hg]; exact (below_size (zb HB)) : w.heap.size ≤ gb418)); clear HO_3; clear HO_8; clear HL417_4; clear HR417_4; clear HB; have HO_3 := n0_; have HO_8 := n1_; have HL417_4 := n2_; have HB := n4_; have BK418 := n5_; have GE418 := n7_; clear n0_ n1_ n2_ n4_ n5_ n7_; clear hb hbox hg; obtain ⟨hcz46_0, hcz46_1, hcz46_2, hcz46_3, hcz46_4, hfz46_0, hfz46_1, hfz46_2, hfz46_3, hfz46_4⟩ := cz5 BK418.out; obtain ⟨Ao47, co47, eo47⟩ := Kd.N_slice HO_3.out; subst eo47))
          have n0_ : Aside0 (Kd.N k38 38 (((((w45.setCell ⟨gb418, 0, none⟩ (.int .i64 ((rd_T38 x8_1 x10_1).f0))).setCell ⟨gb418, 1, none⟩ (.int .i64 ((rd_T38 x8_1 x10_1).f1))).setCell ⟨gb418, 2, none⟩ (.string ((rd_T38 x8_1 x10_1).f2))).setCell ⟨gb418, 3, none⟩ (.string ((rd_T38 x8_1 x10_1).f3))).setCell ⟨gb418, 4, none⟩ (.slice A417_4 ((rd_T38 x8_1 x10_1).f4).length c417_4)) w.heap.size (fun k_ => (w.heap.size ≤ k_) ∧ some k_ ≠ (.slice (some ad417) x8_1.length co4 : Value).ownBlock ∧ k_ ≠ gb418) (.slice Ao47 x3_1.length co47) x3_1) := ⟨by exact Kd.N_mono (Nf5 (g := gb418) (Kd.N_mono HO_3.out (fun k_ hk => (⟨hk, hk.2⟩ : _ ∧ k_ ≠ gb418))) (fun _ hk => hk.2) (.int .i64 ((rd_T38 x8_1 x10_1).f0)) (.int .i64 ((rd_T38 x8_1 x10_1).f1)) (.string ((rd_T38 x8_1 x10_1).f2)) (.string ((rd_T38 x8_1 x10_1).f3)) (.slice A417_4 ((rd_T38 x8_1 x10_1).f4).length c417_4)) (fun _ hk => ⟨hk.1.1.1, ⟨hk.1.1.2, hk.1.2⟩⟩)⟩
          have n1_ : Aside0 (Kd.N k38 38 (((((w45.setCell ⟨gb418, 0, none⟩ (.int .i64 ((rd_T38 x8_1 x10_1).f0))).setCell ⟨gb418, 1, none⟩ (.int .i64 ((rd_T38 x8_1 x10_1).f1))).setCell ⟨gb418, 2, none⟩ (.string ((rd_T38 x8_1 x10_1).f2))).setCell ⟨gb418, 3, none⟩ (.string ((rd_T38 x8_1 x10_1).f3))).setCell ⟨gb418, 4, none⟩ (.slice A417_4 ((rd_T38 x8_1 x10_1).f4).length c417_4)) w.heap.size (fun k_ => (w.heap.size ≤ k_) ∧ some k_ ≠ (.slice Ao47 x3_1.length co47 : Value).ownBlock ∧ k_ ≠ gb418) (.slice (some ad417) x8_1.length co4) x8_1) := ⟨by exact Kd.N_mono (Nf5 (g := gb418) (Kd.N_mono HO_8.out (fun k_ hk => (⟨hk, hk.2⟩ : _ ∧ k_ ≠ gb418))) (fun _ hk => hk.2) (.int .i64 ((rd_T38 x8_1 x10_1).f0)) (.int .i64 ((rd_T38 x8_1 x10_1).f1)) (.string ((rd_T38 x8_1 x10_1).f2)) (.string ((rd_T38 x8_1 x10_1).f3)) (.slice A417_4 ((rd_T38 x8_1 x10_1).f4).length c417_4)) (fun _ hk => ⟨hk.1.1.1, ⟨hk.1.1.2, hk.1.2⟩⟩)⟩
          have n2_ : Aside0 (Kd.V k45 45 (((((w45.setCell ⟨gb418, 0, none⟩ (.int .i64 ((rd_T38 x8_1 x10_1).f0))).setCell ⟨gb418, 1, none⟩ (.int .i64 ((rd_T38 x8_1 x10_1).f1))).setCell ⟨gb418, 2, none⟩ (.string ((rd_T38 x8_1 x10_1).f2))).setCell ⟨gb418, 3, none⟩ (.string ((rd_T38 x8_1 x10_1).f3))).setCell ⟨gb418, 4, none⟩ (.slice A417_4 ((rd_T38 x8_1 x10_1).f4).length c417_4)) w.heap.size (fun k_ => (w.heap.size ≤ k_) ∧ some k_ ≠ (.slice Ao47 x3_1.length co47 : Value).ownBlock ∧ some k_ ≠ (.slice (some ad417) x8_1.length co4 : Value).ownBlock ∧ k_ ≠ gb418) (.slice A417_4 ((rd_T38 x8_1 x10_1).f4).length c417_4) ((rd_T38 x8_1 x10_1).f4)) := ⟨by exact Kd.V_mono (Vf5 (g := gb418) (Kd.V_mono HL417_4.out (fun k_ hk => (⟨hk, hk.2⟩ : _ ∧ k_ ≠ gb418))) (fun _ hk => hk.2) (.int .i64 ((rd_T38 x8_1 x10_1).f0)) (.int .i64 ((rd_T38 x8_1 x10_1).f1)) (.string ((rd_T38 x8_1 x10_1).f2)) (.string ((rd_T38 x8_1 x10_1).f3)) (.slice A417_4 ((rd_T38 x8_1 x10_1).f4).length c417_4)) (fun _ hk => ⟨hk.1.1.1.1, ⟨hk.1.1.1.2, ⟨hk.1.1.2, hk.1.2⟩⟩⟩)⟩
          have n3_ : Aside0 ((((((w45.setCell ⟨gb418, 0, none⟩ (.int .i64 ((rd_T38 x8_1 x10_1).f0))).setCell ⟨gb418, 1, none⟩ (.int .i64 ((rd_T38 x8_1 x10_1).f1))).setCell ⟨gb418, 2, none⟩ (.string ((rd_T38 x8_1 x10_1).f2))).setCell ⟨gb418, 3, none⟩ (.string ((rd_T38 x8_1 x10_1).f3))).setCell ⟨gb418, 4, none⟩ (.slice A417_4 ((rd_T38 x8_1 x10_1).f4).length c417_4)).heap[gb418]? = some (.cells #[.int .i64 ((rd_T38 x8_1 x10_1).f0), .int .i64 ((rd_T38 x8_1 x10_1).f1), .string ((rd_T38 x8_1 x10_1).f2), .string ((rd_T38 x8_1 x10_1).f3), .slice A417_4 ((rd_T38 x8_1 x10_1).f4).length c417_4] 38 (0, 0))) := ⟨by refine blk_put (cs := #[.int .i64 ((rd_T38 x8_1 x10_1).f0), .int .i64 ((rd_T38 x8_1 x10_1).f1), .string ((rd_T38 x8_1 x10_1).f2), .string ((rd_T38 x8_1 x10_1).f3), .slice none 0 0]) ?_ 4 _ rfl; refine blk_put (cs := #[.int .i64 ((rd_T38 x8_1 x10_1).f0), .int .i64 ((rd_T38 x8_1 x10_1).f1), .string ((rd_T38 x8_1 x10_1).f2), .string (⟨#[]⟩ : ByteArray), .slice none 0 0]) ?_ 3 _ rfl; refine blk_put (cs := #[.int .i64 ((rd_T38 x8_1 x10_1).f0), .int .i64 ((rd_T38 x8_1 x10_1).f1), .string (⟨#[]⟩ : ByteArray), .string (⟨#[]⟩ : ByteArray), .slice none 0 0]) ?_ 2 _ rfl; refine blk_put (cs := #[.int .i64 ((rd_T38 x8_1 x10_1).f0), .int .i64 0, .string (⟨#[]⟩ : ByteArray), .string (⟨#[]⟩ : ByteArray), .slice none 0 0]) ?_ 1 _ rfl; refine blk_put (cs := #[.int .i64 0, .int .i64 0, .string (⟨#[]⟩ : ByteArray), .string (⟨#[]⟩ : ByteArray), .slice none 0 0]) ?_ 0 _ rfl; exact BK418.out⟩
          have n4_ : Aside0 (Below w.heap.size w (((((w45.setCell ⟨gb418, 0, none⟩ (.int .i64 ((rd_T38 x8_1 x10_1).f0))).setCell ⟨gb418, 1, none⟩ (.int .i64 ((rd_T38 x8_1 x10_1).f1))).setCell ⟨gb418, 2, none⟩ (.string ((rd_T38 x8_1 x10_1).f2))).setCell ⟨gb418, 3, none⟩ (.string ((rd_T38 x8_1 x10_1).f3))).setCell ⟨gb418, 4, none⟩ (.slice A417_4 ((rd_T38 x8_1 x10_1).f4).length c417_4))) := ⟨zb1 HB GE418⟩
          (try clear HO_3)
          (try clear HO_8)
          (try clear HL417_4)
          (try clear BK418)
          (try clear HB)
          generalize (((((w45.setCell ⟨gb418, 0, none⟩ (.int .i64 ((rd_T38 x8_1 x10_1).f0))).setCell ⟨gb418, 1, none⟩ (.int .i64 ((rd_T38 x8_1 x10_1).f1))).setCell ⟨gb418, 2, none⟩ (.string ((rd_T38 x8_1 x10_1).f2))).setCell ⟨gb418, 3, none⟩ (.string ((rd_T38 x8_1 x10_1).f3))).setCell ⟨gb418, 4, none⟩ (.slice A417_4 ((rd_T38 x8_1 x10_1).f4).length c417_4)) = w48 at n0_ n1_ n2_ n3_ n4_ ⊢
          have HO_3 := n0_
          have HO_8 := n1_
          have HL417_4 := n2_
          have BK418 := n3_
          have HB := n4_
          clear n0_ n1_ n2_ n3_ n4_
          have n0_ := am (Kd.N_drew HO_3.out)
          have n1_ := am (Kd.N_drew HO_8.out)
          have n2_ := am (Kd.V_drew HL417_4.out)
          have n3_ := am (blk_drew BK418.out)
          have n4_ := am (below_drew1 HB.out)
          clear HO_3
          clear HO_8
          clear HL417_4
          clear BK418
          clear HB
          have HO_3 := n0_
          have HO_8 := n1_
          have HL417_4 := n2_
          have BK418 := n3_
          have HB := n4_
          clear n0_ n1_ n2_ n3_ n4_
          have hz0 : w48.cell? ⟨gb418, 0, none⟩ = some (.int .i64 ((rd_T38 x8_1 x10_1).f0)) := (blk_cell BK418.out 0).trans rfl
          have hz1 : w48.cell? ⟨gb418, 1, none⟩ = some (.int .i64 ((rd_T38 x8_1 x10_1).f1)) := (blk_cell BK418.out 1).trans rfl
          have hz2 : w48.cell? ⟨gb418, 2, none⟩ = some (.string ((rd_T38 x8_1 x10_1).f2)) := (blk_cell BK418.out 2).trans rfl
          have hz3 : w48.cell? ⟨gb418, 3, none⟩ = some (.string ((rd_T38 x8_1 x10_1).f3)) := (blk_cell BK418.out 3).trans rfl
          have hz4 : w48.cell? ⟨gb418, 4, none⟩ = some (.slice A417_4 ((rd_T38 x8_1 x10_1).f4).length c417_4) := (blk_cell BK418.out 4).trans rfl
          go_region
          clear hz0 hz1 hz2 hz3 hz4
          generalize w48.drew = w49 at HO_3 HO_8 HL417_4 BK418 HB ⊢
          obtain ⟨hcz50_0, hcz50_1, hcz50_2, hcz50_3, hcz50_4, hfz50_0, hfz50_1, hfz50_2, hfz50_3, hfz50_4⟩ := cz5 BK418.out
          try go_wp2_with (first | ((with_reducible refine gate_builtin (b := .append) (xs := #[.tmp 16, .tmp 18]) rfl ?_); at_builtin; refine Kd.N_append k38 (w0 := w) w.heap.size rfl (.tmp 16) (.tmp 18) 22 38 (.agg #[(.int .i64 0), (.int .i64 0), (.string ⟨#[]⟩), (.string ⟨#[]⟩), (.slice none 0 0)]) 72 rfl Tryz.underlying22 info38 rfl (by decide) (by omega) (.slice Ao47 x3_1.length co47) x3_1 (⟨(rd_T38 x8_1 x10_1).f0, (rd_T38 x8_1 x10_1).f1, (rd_T38 x8_1 x10_1).f2, (rd_T38 x8_1 x10_1).f3, (rd_T38 x8_1 x10_1).f4⟩ : S38) [.int .i64 ((rd_T38 x8_1 x10_1).f0), .int .i64 ((rd_T38 x8_1 x10_1).f1), .string ((rd_T38 x8_1 x10_1).f2), .string ((rd_T38 x8_1 x10_1).f3), .slice A417_4 ((rd_T38 x8_1 x10_1).f4).length c417_4] (fun k_ => (w.heap.size ≤ k_) ∧ some k_ ≠ (.slice (some ad417) x8_1.length co4 : Value).ownBlock ∧ k_ ≠ gb418) (fun k_ => ((fun k_ => (w.heap.size ≤ k_) ∧ some k_ ≠ (.slice (some ad417) x8_1.length co4 : Value).ownBlock ∧ k_ ≠ gb418)) k_ ∧ some k_ ≠ (.slice Ao47 x3_1.length co47 : Value).ownBlock) rfl rfl ?aP (fun _ hk => hk) ?aF ?aO ?aB ?aS ?aL ?_; (case aP => exact (k38_mkF _ _ (⟨(rd_T38 x8_1 x10_1).f0, (rd_T38 x8_1 x10_1).f1, (rd_T38 x8_1 x10_1).f2, (rd_T38 x8_1 x10_1).f3, (rd_T38 x8_1 x10_1).f4⟩ : S38) (Kd.V_reads' (Kd.V_mono (ok' := (fun k_ => ((fun k_ => (w.heap.size ≤ k_) ∧ some k_ ≠ (.slice (some ad417) x8_1.length co4 : Value).ownBlock ∧ k_ ≠ gb418)) k_ ∧ some k_ ≠ (.slice Ao47 x3_1.length co47 : Value).ownBlock)) (HL417_4.out) (fun k_ hk => ⟨⟨hk.1, ⟨hk.2.2.1, hk.2.2.2⟩⟩, hk.2.1⟩))).2.1 (Kd.V_F (Kd.V_mono (ok' := (fun k_ => ((fun k_ => (w.heap.size ≤ k_) ∧ some k_ ≠ (.slice (some ad417) x8_1.length co4 : Value).ownBlock ∧ k_ ≠ gb418)) k_ ∧ some k_ ≠ (.slice Ao47 x3_1.length co47 : Value).ownBlock)) (HL417_4.out) (fun k_ hk => ⟨⟨hk.1, ⟨hk.2.2.1, hk.2.2.2⟩⟩, hk.2.1⟩))))); (case aB => exact (zb1 HB GE418)); (case aF => exact (fun k_ hk => ⟨(Nat.le_trans (below_size (zb1 HB GE418)) hk), Kd.fresh' (Kd.N_lt (by exact HO_8.out)) k_ hk, Kd.freshB (by exact BK418.out) k_ hk⟩)); (case aO => exact (by exact HO_3.out)); (case aS => exact (below_size (zb1 HB GE418))); (case aL => have := LMc44.out; omega); intro v430 w51 ho hb hg hat; rw [← Ny429.out] at ho; have n0_ := am (Kd.N_afterv (ok := (fun k_ => (w.heap.size ≤ k_) ∧ k_ ≠ gb418)) (by exact Kd.N_mono HO_8.out (fun _ hk => ⟨⟨hk.1, hk.2.2⟩, hk.2.1⟩)) hg hat); have n3_ := am (hb); have n4_ := am (ho); clear HO_8; clear HL417_4; clear BK418; clear HB; clear HO_3; have HO_8 := n0_; have HB := n3_; have HO431 := n4_; clear n0_ n3_ n4_; clear ho hb hg hat))
          (try simp only [← hl8_1])
          go_roundg k1
          case measure => have := HK1.out; omega
          case rel => exact ⟨(y429), (x8_1), (wrap64 (x10_1 + 1)), zr, H', ⟨by have := HK1.out; omega⟩, ⟨by (try simp only [hl8_1]); exact Kd.N_mono HO431.out (fun _ hk => ⟨hk.1, hk.2.1⟩)⟩, ⟨by (try simp only [hl8_1]); exact Kd.N_mono HO_8.out (fun _ hk => ⟨hk.1.1, hk.2⟩)⟩, ⟨zb1 HB GE418⟩⟩
         ·rw [if_neg c44] at H
          exact absurd H (by simp)
      ·rw [if_neg c8] at H
       have c8b0 : (((rd_T38 x8_1 x10_1).f1) == 1) = false := beq_eq_false_iff_ne.mpr c8
       have c8b1 : (((rd_T38 x8_1 x10_1).f1) != 1) = true := bne_iff_ne.mpr c8
       by_cases c52 : x3_1.length < 1954687338268
       ·rw [if_pos c52] at H
        have LMc52 := am c52
        clear c52
        obtain ⟨y432, hy432⟩ : ∃ y_ : List (S38), y_ = (x3_1 ++ [(⟨(rd_T38 x8_1 x10_1).f0, (rd_T38 x8_1 x10_1).f1, (rd_T38 x8_1 x10_1).f2, (rd_T38 x8_1 x10_1).f3, (rd_T38 x8_1 x10_1).f4⟩ : S38)]) := ⟨_, rfl⟩
        replace H : (rows_Normal.l0 k1 y432 x8_1 (t414.length : Int) (wrap64 (x10_1 + 1))) = some r := by first | (rw [hy432]; with_reducible exact H) | (have H2_ := (Option.bind_some _ _).symm.trans H; rw [hy432]; with_reducible exact H2_) | (have H2_ := (Option.bind_some _ _).symm.trans H; with_reducible exact H2_) | with_reducible exact H | (rw [hy432]; exact H) | exact H
        have Ny432 := am hy432
        clear hy432
        have H' := am H
        clear H
        have p417 : 0 ≤ (x10_1 : Int) := of_decide_eq_true za
        have q417 : x10_1 < (x8_1.length : Int) := of_decide_eq_true za
        obtain ⟨ad417, A417_4, c417_4, e417, hx417_0, hx417_1, hx417_2, hx417_3, hx417_4, hl417_4, hi417_4⟩ := at_T38 (Kd.N_reads' HO_8.out).2.2 x10_1 p417 q417
        cases e417
        obtain ⟨ce417, hce417, hMe417, hcc417⟩ := Kd.N_get HO_8.out z38 x10_1 p417 (by first | exact q417 | exact of_decide_eq_true za | (have e_ := (Kd.N_reads' HO_8.out).1; omega))
        obtain ⟨ua417_4, uc417_4, rfl, ul417_4, ge417_4⟩ := k38_openF hMe417
        have hv417_4 := hcc417 4 _ rfl
        rw [add_field _ _ 4 (by omega)] at hv417_4
        replace hv417_4 := Option.some.inj (hv417_4.symm.trans hx417_4)
        injection hv417_4 with hva_ hvn_ hvc_
        rw [hva_] at ge417_4
        rw [hvc_] at ul417_4
        have HL417_4 := am (show Kd.V k45 45 _ w.heap.size _ _ ((rd_T38 x8_1 x10_1).f4) from Kd.V_mk ul417_4 ge417_4)
        clear hva_ hvn_ hvc_ ge417_4 ul417_4
        clear hcc417 hce417
        have HR417_4 := am hi417_4
        have HC417_4 := am hl417_4
        clear hi417_4 hl417_4
        replace p417 := eq_true p417
        replace q417 := eq_true q417
        try go_wp2_with (first | ((with_reducible refine gate_dst (N := 5) rfl ?_); refine box_event ?hg (N := 5) ?hd (cs := #[.int .i64 0, .int .i64 0, .string (⟨#[]⟩ : ByteArray), .string (⟨#[]⟩ : ByteArray), .slice none 0 0]) (t := 38) ?hr ?_; (case hd => rfl); (case hg => rfl); (case hr => first | (go_simp; done) | (go_simp; rfl)); intro gb418 hg w53 hbox hb; have n0_ := am (Kd.N_below (Kd.N_elderB (by exact HO_3.out) gb418 (Nat.le_of_eq hg.symm)) hb); have n1_ := am (Kd.N_below (Kd.N_elderB (by exact HO_8.out) gb418 (Nat.le_of_eq hg.symm)) hb); have n2_ := am (Kd.V_below (Kd.V_elderB (by exact HL417_4.out) gb418 (Nat.le_of_eq hg.symm)) hb); have n4_ := am (below_step (zb HB) hb); have n5_ := am (hbox); have n7_ := am ((by rw [hg]; exact (below_size (zb HB)) : w.heap.size ≤ gb418)); clear HO_3; clear HO_8; clear HL417_4; clear HR417_4; clear HB; have HO_3 := n0_; have HO_8 := n1_; have HL417_4 := n2_; have HB := n4_; have BK418 := n5_; have GE418 := n7_; clear n0_ n1_ n2_ n4_ n5_ n7_; clear hb hbox hg; obtain ⟨hcz54_0, hcz54_1, hcz54_2, hcz54_3, hcz54_4, hfz54_0, hfz54_1, hfz54_2, hfz54_3, hfz54_4⟩ := cz5 BK418.out; obtain ⟨Ao55, co55, eo55⟩ := Kd.N_slice HO_3.out; subst eo55))
        have n0_ : Aside0 (Kd.N k38 38 (((((w53.setCell ⟨gb418, 0, none⟩ (.int .i64 ((rd_T38 x8_1 x10_1).f0))).setCell ⟨gb418, 1, none⟩ (.int .i64 ((rd_T38 x8_1 x10_1).f1))).setCell ⟨gb418, 2, none⟩ (.string ((rd_T38 x8_1 x10_1).f2))).setCell ⟨gb418, 3, none⟩ (.string ((rd_T38 x8_1 x10_1).f3))).setCell ⟨gb418, 4, none⟩ (.slice A417_4 ((rd_T38 x8_1 x10_1).f4).length c417_4)) w.heap.size (fun k_ => (w.heap.size ≤ k_) ∧ some k_ ≠ (.slice (some ad417) x8_1.length co4 : Value).ownBlock ∧ k_ ≠ gb418) (.slice Ao55 x3_1.length co55) x3_1) := ⟨by exact Kd.N_mono (Nf5 (g := gb418) (Kd.N_mono HO_3.out (fun k_ hk => (⟨hk, hk.2⟩ : _ ∧ k_ ≠ gb418))) (fun _ hk => hk.2) (.int .i64 ((rd_T38 x8_1 x10_1).f0)) (.int .i64 ((rd_T38 x8_1 x10_1).f1)) (.string ((rd_T38 x8_1 x10_1).f2)) (.string ((rd_T38 x8_1 x10_1).f3)) (.slice A417_4 ((rd_T38 x8_1 x10_1).f4).length c417_4)) (fun _ hk => ⟨hk.1.1.1, ⟨hk.1.1.2, hk.1.2⟩⟩)⟩
        have n1_ : Aside0 (Kd.N k38 38 (((((w53.setCell ⟨gb418, 0, none⟩ (.int .i64 ((rd_T38 x8_1 x10_1).f0))).setCell ⟨gb418, 1, none⟩ (.int .i64 ((rd_T38 x8_1 x10_1).f1))).setCell ⟨gb418, 2, none⟩ (.string ((rd_T38 x8_1 x10_1).f2))).setCell ⟨gb418, 3, none⟩ (.string ((rd_T38 x8_1 x10_1).f3))).setCell ⟨gb418, 4, none⟩ (.slice A417_4 ((rd_T38 x8_1 x10_1).f4).length c417_4)) w.heap.size (fun k_ => (w.heap.size ≤ k_) ∧ some k_ ≠ (.slice Ao55 x3_1.length co55 : Value).ownBlock ∧ k_ ≠ gb418) (.slice (some ad417) x8_1.length co4) x8_1) := ⟨by exact Kd.N_mono (Nf5 (g := gb418) (Kd.N_mono HO_8.out (fun k_ hk => (⟨hk, hk.2⟩ : _ ∧ k_ ≠ gb418))) (fun _ hk => hk.2) (.int .i64 ((rd_T38 x8_1 x10_1).f0)) (.int .i64 ((rd_T38 x8_1 x10_1).f1)) (.string ((rd_T38 x8_1 x10_1).f2)) (.string ((rd_T38 x8_1 x10_1).f3)) (.slice A417_4 ((rd_T38 x8_1 x10_1).f4).length c417_4)) (fun _ hk => ⟨hk.1.1.1, ⟨hk.1.1.2, hk.1.2⟩⟩)⟩
        have n2_ : Aside0 (Kd.V k45 45 (((((w53.setCell ⟨gb418, 0, none⟩ (.int .i64 ((rd_T38 x8_1 x10_1).f0))).setCell ⟨gb418, 1, none⟩ (.int .i64 ((rd_T38 x8_1 x10_1).f1))).setCell ⟨gb418, 2, none⟩ (.string ((rd_T38 x8_1 x10_1).f2))).setCell ⟨gb418, 3, none⟩ (.string ((rd_T38 x8_1 x10_1).f3))).setCell ⟨gb418, 4, none⟩ (.slice A417_4 ((rd_T38 x8_1 x10_1).f4).length c417_4)) w.heap.size (fun k_ => (w.heap.size ≤ k_) ∧ some k_ ≠ (.slice Ao55 x3_1.length co55 : Value).ownBlock ∧ some k_ ≠ (.slice (some ad417) x8_1.length co4 : Value).ownBlock ∧ k_ ≠ gb418) (.slice A417_4 ((rd_T38 x8_1 x10_1).f4).length c417_4) ((rd_T38 x8_1 x10_1).f4)) := ⟨by exact Kd.V_mono (Vf5 (g := gb418) (Kd.V_mono HL417_4.out (fun k_ hk => (⟨hk, hk.2⟩ : _ ∧ k_ ≠ gb418))) (fun _ hk => hk.2) (.int .i64 ((rd_T38 x8_1 x10_1).f0)) (.int .i64 ((rd_T38 x8_1 x10_1).f1)) (.string ((rd_T38 x8_1 x10_1).f2)) (.string ((rd_T38 x8_1 x10_1).f3)) (.slice A417_4 ((rd_T38 x8_1 x10_1).f4).length c417_4)) (fun _ hk => ⟨hk.1.1.1.1, ⟨hk.1.1.1.2, ⟨hk.1.1.2, hk.1.2⟩⟩⟩)⟩
        have n3_ : Aside0 ((((((w53.setCell ⟨gb418, 0, none⟩ (.int .i64 ((rd_T38 x8_1 x10_1).f0))).setCell ⟨gb418, 1, none⟩ (.int .i64 ((rd_T38 x8_1 x10_1).f1))).setCell ⟨gb418, 2, none⟩ (.string ((rd_T38 x8_1 x10_1).f2))).setCell ⟨gb418, 3, none⟩ (.string ((rd_T38 x8_1 x10_1).f3))).setCell ⟨gb418, 4, none⟩ (.slice A417_4 ((rd_T38 x8_1 x10_1).f4).length c417_4)).heap[gb418]? = some (.cells #[.int .i64 ((rd_T38 x8_1 x10_1).f0), .int .i64 ((rd_T38 x8_1 x10_1).f1), .string ((rd_T38 x8_1 x10_1).f2), .string ((rd_T38 x8_1 x10_1).f3), .slice A417_4 ((rd_T38 x8_1 x10_1).f4).length c417_4] 38 (0, 0))) := ⟨by refine blk_put (cs := #[.int .i64 ((rd_T38 x8_1 x10_1).f0), .int .i64 ((rd_T38 x8_1 x10_1).f1), .string ((rd_T38 x8_1 x10_1).f2), .string ((rd_T38 x8_1 x10_1).f3), .slice none 0 0]) ?_ 4 _ rfl; refine blk_put (cs := #[.int .i64 ((rd_T38 x8_1 x10_1).f0), .int .i64 ((rd_T38 x8_1 x10_1).f1), .string ((rd_T38 x8_1 x10_1).f2), .string (⟨#[]⟩ : ByteArray), .slice none 0 0]) ?_ 3 _ rfl; refine blk_put (cs := #[.int .i64 ((rd_T38 x8_1 x10_1).f0), .int .i64 ((rd_T38 x8_1 x10_1).f1), .string (⟨#[]⟩ : ByteArray), .string (⟨#[]⟩ : ByteArray), .slice none 0 0]) ?_ 2 _ rfl; refine blk_put (cs := #[.int .i64 ((rd_T38 x8_1 x10_1).f0), .int .i64 0, .string (⟨#[]⟩ : ByteArray), .string (⟨#[]⟩ : ByteArray), .slice none 0 0]) ?_ 1 _ rfl; refine blk_put (cs := #[.int .i64 0, .int .i64 0, .string (⟨#[]⟩ : ByteArray), .string (⟨#[]⟩ : ByteArray), .slice none 0 0]) ?_ 0 _ rfl; exact BK418.out⟩
        have n4_ : Aside0 (Below w.heap.size w (((((w53.setCell ⟨gb418, 0, none⟩ (.int .i64 ((rd_T38 x8_1 x10_1).f0))).setCell ⟨gb418, 1, none⟩ (.int .i64 ((rd_T38 x8_1 x10_1).f1))).setCell ⟨gb418, 2, none⟩ (.string ((rd_T38 x8_1 x10_1).f2))).setCell ⟨gb418, 3, none⟩ (.string ((rd_T38 x8_1 x10_1).f3))).setCell ⟨gb418, 4, none⟩ (.slice A417_4 ((rd_T38 x8_1 x10_1).f4).length c417_4))) := ⟨zb1 HB GE418⟩
        (try clear HO_3)
        (try clear HO_8)
        (try clear HL417_4)
        (try clear BK418)
        (try clear HB)
        generalize (((((w53.setCell ⟨gb418, 0, none⟩ (.int .i64 ((rd_T38 x8_1 x10_1).f0))).setCell ⟨gb418, 1, none⟩ (.int .i64 ((rd_T38 x8_1 x10_1).f1))).setCell ⟨gb418, 2, none⟩ (.string ((rd_T38 x8_1 x10_1).f2))).setCell ⟨gb418, 3, none⟩ (.string ((rd_T38 x8_1 x10_1).f3))).setCell ⟨gb418, 4, none⟩ (.slice A417_4 ((rd_T38 x8_1 x10_1).f4).length c417_4)) = w56 at n0_ n1_ n2_ n3_ n4_ ⊢
        have HO_3 := n0_
        have HO_8 := n1_
        have HL417_4 := n2_
        have BK418 := n3_
        have HB := n4_
        clear n0_ n1_ n2_ n3_ n4_
        have n0_ := am (Kd.N_drew HO_3.out)
        have n1_ := am (Kd.N_drew HO_8.out)
        have n2_ := am (Kd.V_drew HL417_4.out)
        have n3_ := am (blk_drew BK418.out)
        have n4_ := am (below_drew1 HB.out)
        clear HO_3
        clear HO_8
        clear HL417_4
        clear BK418
        clear HB
        have HO_3 := n0_
        have HO_8 := n1_
        have HL417_4 := n2_
        have BK418 := n3_
        have HB := n4_
        clear n0_ n1_ n2_ n3_ n4_
        have hz0 : w56.cell? ⟨gb418, 0, none⟩ = some (.int .i64 ((rd_T38 x8_1 x10_1).f0)) := (blk_cell BK418.out 0).trans rfl
        have hz1 : w56.cell? ⟨gb418, 1, none⟩ = some (.int .i64 ((rd_T38 x8_1 x10_1).f1)) := (blk_cell BK418.out 1).trans rfl
        have hz2 : w56.cell? ⟨gb418, 2, none⟩ = some (.string ((rd_T38 x8_1 x10_1).f2)) := (blk_cell BK418.out 2).trans rfl
        have hz3 : w56.cell? ⟨gb418, 3, none⟩ = some (.string ((rd_T38 x8_1 x10_1).f3)) := (blk_cell BK418.out 3).trans rfl
        have hz4 : w56.cell? ⟨gb418, 4, none⟩ = some (.slice A417_4 ((rd_T38 x8_1 x10_1).f4).length c417_4) := (blk_cell BK418.out 4).trans rfl
        go_region
        clear hz0 hz1 hz2 hz3 hz4
        generalize w56.drew = w57 at HO_3 HO_8 HL417_4 BK418 HB ⊢
        obtain ⟨hcz58_0, hcz58_1, hcz58_2, hcz58_3, hcz58_4, hfz58_0, hfz58_1, hfz58_2, hfz58_3, hfz58_4⟩ := cz5 BK418.out
        try go_wp2_with (first | ((with_reducible refine gate_builtin (b := .append) (xs := #[.tmp 16, .tmp 18]) rfl ?_); at_builtin; refine Kd.N_append k38 (w0 := w) w.heap.size rfl (.tmp 16) (.tmp 18) 22 38 (.agg #[(.int .i64 0), (.int .i64 0), (.string ⟨#[]⟩), (.string ⟨#[]⟩), (.slice none 0 0)]) 72 rfl Tryz.underlying22 info38 rfl (by decide) (by omega) (.slice Ao55 x3_1.length co55) x3_1 (⟨(rd_T38 x8_1 x10_1).f0, (rd_T38 x8_1 x10_1).f1, (rd_T38 x8_1 x10_1).f2, (rd_T38 x8_1 x10_1).f3, (rd_T38 x8_1 x10_1).f4⟩ : S38) [.int .i64 ((rd_T38 x8_1 x10_1).f0), .int .i64 ((rd_T38 x8_1 x10_1).f1), .string ((rd_T38 x8_1 x10_1).f2), .string ((rd_T38 x8_1 x10_1).f3), .slice A417_4 ((rd_T38 x8_1 x10_1).f4).length c417_4] (fun k_ => (w.heap.size ≤ k_) ∧ some k_ ≠ (.slice (some ad417) x8_1.length co4 : Value).ownBlock ∧ k_ ≠ gb418) (fun k_ => ((fun k_ => (w.heap.size ≤ k_) ∧ some k_ ≠ (.slice (some ad417) x8_1.length co4 : Value).ownBlock ∧ k_ ≠ gb418)) k_ ∧ some k_ ≠ (.slice Ao55 x3_1.length co55 : Value).ownBlock) rfl rfl ?aP (fun _ hk => hk) ?aF ?aO ?aB ?aS ?aL ?_; (case aP => exact (k38_mkF _ _ (⟨(rd_T38 x8_1 x10_1).f0, (rd_T38 x8_1 x10_1).f1, (rd_T38 x8_1 x10_1).f2, (rd_T38 x8_1 x10_1).f3, (rd_T38 x8_1 x10_1).f4⟩ : S38) (Kd.V_reads' (Kd.V_mono (ok' := (fun k_ => ((fun k_ => (w.heap.size ≤ k_) ∧ some k_ ≠ (.slice (some ad417) x8_1.length co4 : Value).ownBlock ∧ k_ ≠ gb418)) k_ ∧ some k_ ≠ (.slice Ao55 x3_1.length co55 : Value).ownBlock)) (HL417_4.out) (fun k_ hk => ⟨⟨hk.1, ⟨hk.2.2.1, hk.2.2.2⟩⟩, hk.2.1⟩))).2.1 (Kd.V_F (Kd.V_mono (ok' := (fun k_ => ((fun k_ => (w.heap.size ≤ k_) ∧ some k_ ≠ (.slice (some ad417) x8_1.length co4 : Value).ownBlock ∧ k_ ≠ gb418)) k_ ∧ some k_ ≠ (.slice Ao55 x3_1.length co55 : Value).ownBlock)) (HL417_4.out) (fun k_ hk => ⟨⟨hk.1, ⟨hk.2.2.1, hk.2.2.2⟩⟩, hk.2.1⟩))))); (case aB => exact (zb1 HB GE418)); (case aF => exact (fun k_ hk => ⟨(Nat.le_trans (below_size (zb1 HB GE418)) hk), Kd.fresh' (Kd.N_lt (by exact HO_8.out)) k_ hk, Kd.freshB (by exact BK418.out) k_ hk⟩)); (case aO => exact (by exact HO_3.out)); (case aS => exact (below_size (zb1 HB GE418))); (case aL => have := LMc52.out; omega); intro v433 w59 ho hb hg hat; rw [← Ny432.out] at ho; have n0_ := am (Kd.N_afterv (ok := (fun k_ => (w.heap.size ≤ k_) ∧ k_ ≠ gb418)) (by exact Kd.N_mono HO_8.out (fun _ hk => ⟨⟨hk.1, hk.2.2⟩, hk.2.1⟩)) hg hat); have n3_ := am (hb); have n4_ := am (ho); clear HO_8; clear HL417_4; clear BK418; clear HB; clear HO_3; have HO_8 := n0_; have HB := n3_; have HO434 := n4_; clear n0_ n3_ n4_; clear ho hb hg hat))
        (try simp only [← hl8_1])
        go_roundg k1
        case measure => have := HK1.out; omega
        case rel => exact ⟨(y432), (x8_1), (wrap64 (x10_1 + 1)), zr, H', ⟨by have := HK1.out; omega⟩, ⟨by (try simp only [hl8_1]); exact Kd.N_mono HO434.out (fun _ hk => ⟨hk.1, hk.2.1⟩)⟩, ⟨by (try simp only [hl8_1]); exact Kd.N_mono HO_8.out (fun _ hk => ⟨hk.1.1, hk.2⟩)⟩, ⟨zb1 HB GE418⟩⟩
       ·rw [if_neg c52] at H
        exact absurd H (by simp)
     ·rw [if_neg c7] at H
      exact absurd H (by simp)
    ·rw [if_neg c6] at H
     exact absurd H (by simp)
   ·rw [if_neg c5] at H
    have c5b0 : decide (x10_1 < (t414.length : Int)) = false := decide_eq_false c5
    (try (have c5h0 := c5b0; simp only [hl8_1] at c5h0))
    clear c5
    obtain rfl := Option.some.inj H
    go_wp2
    go_ret
    exact ⟨_, ze, by exact Kd.N_mono HO_3.out (fun _ hk => hk.1), zb HB⟩


attribute [local go_sem high] eqA45
mutual
def clean_Rows.l0 : Nat → List (S38) → Bool → List (S38) → List Int → Int → Bool → Bool → List ByteArray → List ByteArray → List ByteArray → List (S60) → Bool → Bool → Option ((List (S38)) × Int)
 | 0, _, _, _, _, _, _, _, _, _, _, _, _, _ => none
 | k + 1, x0, x2, x10, x11, x12, x436000, x436001, x436002, x436003, x436004, x436005, x436006, x436007 => if x12 < (x0.length : Int) then (if 0 ≤ x12 then (if 0 ≤ ((rd_T38 x0 x12).f0) then (if ((rd_T38 x0 x12).f0) ≤ (x11.length : Int) then ((some (x11.take (((rd_T38 x0 x12).f0) : Int).toNat : List Int)).bind fun y443 => (if ((rd_T38 x0 x12).f0) > 0 then (if 0 ≤ (wrap64 (((rd_T38 x0 x12).f0) - 1)) then (if (wrap64 (((rd_T38 x0 x12).f0) - 1)) < (y443.length : Int) then (clean_Rows.j1 k x0 x2 x10 y443 x12 (rd y443 (wrap64 (((rd_T38 x0 x12).f0) - 1))) x436000 x436001 x436002 x436003 x436004 x436005 x436006 x436007 ((rd_T38 x0 x12).f0) ((rd_T38 x0 x12).f1) ((rd_T38 x0 x12).f2) ((rd_T38 x0 x12).f3) ((rd_T38 x0 x12).f4)) else (none)) else (none)) else (clean_Rows.j1 k x0 x2 x10 y443 x12 0 x436000 x436001 x436002 x436003 x436004 x436005 x436006 x436007 ((rd_T38 x0 x12).f0) ((rd_T38 x0 x12).f1) ((rd_T38 x0 x12).f2) ((rd_T38 x0 x12).f3) ((rd_T38 x0 x12).f4)))) else (none)) else (none)) else (none)) else ((rows_Normal.f k x10).bind fun t438 => (some (t438, 0)))
def clean_Rows.j1 : Nat → List (S38) → Bool → List (S38) → List Int → Int → Int → Bool → Bool → List ByteArray → List ByteArray → List ByteArray → List (S60) → Bool → Bool → Int → Int → ByteArray → ByteArray → List (S45) → Option ((List (S38)) × Int)
 | 0, _, _, _, _, _, _, _, _, _, _, _, _, _, _, _, _, _, _, _ => none
 | k + 1, x0, x2, x10, x11, x12, x14, x436000, x436001, x436002, x436003, x436004, x436005, x436006, x436007, x443000, x443001, x443002, x443003, x443004 => (clean_becomes.f k x443000 x443001 x443002 x443003 x443004 x436000 x436001 x436002 x436003 x436004 x436005 x436006 x436007 x2).bind fun t447 => (if t447 = 1 then ((rows_End.f k x0 x12).bind fun t448 => (clean_Rows.l0 k x0 x2 x10 x11 t448 x436000 x436001 x436002 x436003 x436004 x436005 x436006 x436007)) else (if t447 = 2 then (if x11.length < 17592186044416 then (clean_Rows.l0 k x0 x2 x10 (x11 ++ [wrap64 (x14 + 1)]) (wrap64 (x12 + 1)) x436000 x436001 x436002 x436003 x436004 x436005 x436006 x436007) else (none)) else ((clean_Attrs.f k (wrap64 (x443000 - x14)) x443001 x443002 x443003 x443004 x436000 x436001 x436002 x436003 x436004 x436005 x436006 x436007 x2).bind fun t452 => (if x10.length < 1954687338268 then (if x11.length < 17592186044416 then (clean_Rows.l0 k x0 x2 (x10 ++ [(⟨wrap64 (x443000 - x14), x443001, x443002, x443003, t452⟩ : S38)]) (x11 ++ [x14]) (wrap64 (x12 + 1)) x436000 x436001 x436002 x436003 x436004 x436005 x436006 x436007) else (none)) else (none)))))
end
def clean_Rows.f (k : Nat) (l0 : List (S38)) (a1_0 : Bool) (a1_1 : Bool) (l1_2 : List ByteArray) (l1_3 : List ByteArray) (l1_4 : List ByteArray) (l1_5 : List (S60)) (a1_6 : Bool) (a1_7 : Bool) (a2 : Bool) : Option ((List (S38)) × Int) := (config_Check.f a1_0 a1_1 l1_2 l1_3 l1_4 l1_5 a1_6 a1_7).bind fun t436 => (if t436 = 0 then ((rows_Check.f k l0).bind fun t437 => (if t437 = 0 then (clean_Rows.l0 k l0 a2 ([] : List (S38)) ([] : List Int) 0 a1_0 a1_1 l1_2 l1_3 l1_4 l1_5 a1_6 a1_7) else (some (([] : List (S38)), t437)))) else (some (([] : List (S38)), t436)))
theorem clean_Rows.mono_l : ∀ k, (∀ y0 y1 y2 y3 y4 y5 y6 y7 y8 y9 y10 y11 y12, LeO (clean_Rows.l0 k y0 y1 y2 y3 y4 y5 y6 y7 y8 y9 y10 y11 y12) (clean_Rows.l0 (k + 1) y0 y1 y2 y3 y4 y5 y6 y7 y8 y9 y10 y11 y12)) ∧ (∀ y0 y1 y2 y3 y4 y5 y6 y7 y8 y9 y10 y11 y12 y13 y14 y15 y16 y17 y18, LeO (clean_Rows.j1 k y0 y1 y2 y3 y4 y5 y6 y7 y8 y9 y10 y11 y12 y13 y14 y15 y16 y17 y18) (clean_Rows.j1 (k + 1) y0 y1 y2 y3 y4 y5 y6 y7 y8 y9 y10 y11 y12 y13 y14 y15 y16 y17 y18))
 | 0 => ⟨fun _ _ _ _ _ _ _ _ _ _ _ _ _ r h => by simp [clean_Rows.l0] at h, fun _ _ _ _ _ _ _ _ _ _ _ _ _ _ _ _ _ _ _ r h => by simp [clean_Rows.j1] at h⟩
 | k + 1 => by
  obtain ⟨ih0, ih1⟩ := clean_Rows.mono_l k
  refine ⟨?_, ?_⟩
  ·intro y0 y1 y2 y3 y4 y5 y6 y7 y8 y9 y10 y11 y12
   unfold clean_Rows.l0
   repeat' first
   | (with_reducible exact ih0 _ _ _ _ _ _ _ _ _ _ _ _ _)
   | (with_reducible exact ih1 _ _ _ _ _ _ _ _ _ _ _ _ _ _ _ _ _ _ _)
   | (with_reducible exact clean_Attrs.mono _ _ _ _ _ _ _ _ _ _ _ _ _ _ _)
   | (with_reducible exact clean_becomes.mono _ _ _ _ _ _ _ _ _ _ _ _ _ _ _)
   | (with_reducible exact rows_Check.mono _ _)
   | (with_reducible exact rows_End.mono _ _ _)
   | (with_reducible exact rows_Normal.mono _ _)
   | (with_reducible exact LeO.refl _)
   | (with_reducible exact LeO.none _)
   | (with_reducible refine LeO.ite ?_ ?_)
   | (with_reducible refine LeO.bind ?_ (fun _ => ?_))
   | exact ih0 _ _ _ _ _ _ _ _ _ _ _ _ _
   | exact ih1 _ _ _ _ _ _ _ _ _ _ _ _ _ _ _ _ _ _ _
   | exact clean_Attrs.mono _ _ _ _ _ _ _ _ _ _ _ _ _ _ _
   | exact clean_becomes.mono _ _ _ _ _ _ _ _ _ _ _ _ _ _ _
   | exact rows_Check.mono _ _
   | exact rows_End.mono _ _ _
   | exact rows_Normal.mono _ _
   | exact LeO.none _
   | refine LeO.ite ?_ ?_
   | refine LeO.bind ?_ (fun _ => ?_)
  ·intro y0 y1 y2 y3 y4 y5 y6 y7 y8 y9 y10 y11 y12 y13 y14 y15 y16 y17 y18
   unfold clean_Rows.j1
   repeat' first
   | (with_reducible exact ih0 _ _ _ _ _ _ _ _ _ _ _ _ _)
   | (with_reducible exact ih1 _ _ _ _ _ _ _ _ _ _ _ _ _ _ _ _ _ _ _)
   | (with_reducible exact clean_Attrs.mono _ _ _ _ _ _ _ _ _ _ _ _ _ _ _)
   | (with_reducible exact clean_becomes.mono _ _ _ _ _ _ _ _ _ _ _ _ _ _ _)
   | (with_reducible exact rows_Check.mono _ _)
   | (with_reducible exact rows_End.mono _ _ _)
   | (with_reducible exact rows_Normal.mono _ _)
   | (with_reducible exact LeO.refl _)
   | (with_reducible exact LeO.none _)
   | (with_reducible refine LeO.ite ?_ ?_)
   | (with_reducible refine LeO.bind ?_ (fun _ => ?_))
   | exact ih0 _ _ _ _ _ _ _ _ _ _ _ _ _
   | exact ih1 _ _ _ _ _ _ _ _ _ _ _ _ _ _ _ _ _ _ _
   | exact clean_Attrs.mono _ _ _ _ _ _ _ _ _ _ _ _ _ _ _
   | exact clean_becomes.mono _ _ _ _ _ _ _ _ _ _ _ _ _ _ _
   | exact rows_Check.mono _ _
   | exact rows_End.mono _ _ _
   | exact rows_Normal.mono _ _
   | exact LeO.none _
   | refine LeO.ite ?_ ?_
   | refine LeO.bind ?_ (fun _ => ?_)
theorem clean_Rows.mono : ∀ a0 a1 a2 a3 a4 a5 a6 a7 a8 a9 k, LeO (clean_Rows.f k a0 a1 a2 a3 a4 a5 a6 a7 a8 a9) (clean_Rows.f (k + 1) a0 a1 a2 a3 a4 a5 a6 a7 a8 a9) := by
 intro a0 a1 a2 a3 a4 a5 a6 a7 a8 a9 k
 obtain ⟨ih0, ih1⟩ := clean_Rows.mono_l k
 unfold clean_Rows.f
 repeat' first
   | (with_reducible exact ih0 _ _ _ _ _ _ _ _ _ _ _ _ _)
   | (with_reducible exact ih1 _ _ _ _ _ _ _ _ _ _ _ _ _ _ _ _ _ _ _)
   | (with_reducible exact clean_Attrs.mono _ _ _ _ _ _ _ _ _ _ _ _ _ _ _)
   | (with_reducible exact clean_becomes.mono _ _ _ _ _ _ _ _ _ _ _ _ _ _ _)
   | (with_reducible exact rows_Check.mono _ _)
   | (with_reducible exact rows_End.mono _ _ _)
   | (with_reducible exact rows_Normal.mono _ _)
   | (with_reducible exact LeO.refl _)
   | (with_reducible exact LeO.none _)
   | (with_reducible refine LeO.ite ?_ ?_)
   | (with_reducible refine LeO.bind ?_ (fun _ => ?_))
   | exact ih0 _ _ _ _ _ _ _ _ _ _ _ _ _
   | exact ih1 _ _ _ _ _ _ _ _ _ _ _ _ _ _ _ _ _ _ _
   | exact clean_Attrs.mono _ _ _ _ _ _ _ _ _ _ _ _ _ _ _
   | exact clean_becomes.mono _ _ _ _ _ _ _ _ _ _ _ _ _ _ _
   | exact rows_Check.mono _ _
   | exact rows_End.mono _ _ _
   | exact rows_Normal.mono _ _
   | exact LeO.none _
   | refine LeO.ite ?_ ?_
   | refine LeO.bind ?_ (fun _ => ?_)
set_option maxHeartbeats 8000000 in
set_option maxRecDepth 100000 in
theorem clean_Rows.calls (k : Nat) (A0 : Option Addr) (c0 : Nat) (l0 : List (S38)) (a1_0 : Bool) (a1_1 : Bool) (A1_2 : Option Addr) (c1_2 : Nat) (l1_2 : List ByteArray) (A1_3 : Option Addr) (c1_3 : Nat) (l1_3 : List ByteArray) (A1_4 : Option Addr) (c1_4 : Nat) (l1_4 : List ByteArray) (A1_5 : Option Addr) (c1_5 : Nat) (l1_5 : List (S60)) (a1_6 : Bool) (a1_7 : Bool) (a2 : Bool) (r1 : List (S38)) (r2 : Int) (w : World) (hr0 : Kd.C k38 w A0 l0.length l0) (hc0 : l0.length ≤ c0) (hr1_2 : Kd.C Kd.string w A1_2 l1_2.length l1_2) (hc1_2 : l1_2.length ≤ c1_2) (hr1_3 : Kd.C Kd.string w A1_3 l1_3.length l1_3) (hc1_3 : l1_3.length ≤ c1_3) (hr1_4 : Kd.C Kd.string w A1_4 l1_4.length l1_4) (hc1_4 : l1_4.length ≤ c1_4) (hr1_5 : Kd.C k60 w A1_5 l1_5.length l1_5) (hc1_5 : l1_5.length ≤ c1_5) (h : clean_Rows.f k l0 a1_0 a1_1 l1_2 l1_3 l1_4 l1_5 a1_6 a1_7 a2 = some (r1, r2)) :
  Calls Tryz.prog 14 #[.slice A0 l0.length c0, .agg #[.bool a1_0, .bool a1_1, .slice A1_2 l1_2.length c1_2, .slice A1_3 l1_3.length c1_3, .slice A1_4 l1_4.length c1_4, .slice A1_5 l1_5.length c1_5, .bool a1_6, .bool a1_7], .bool a2] w fun e w' => ∃ v0_ : Value, e = .returned (.tuple #[v0_, .int .i64 r2]) ∧ Kd.N k38 38 w' w.heap.size (fun k_ => (w.heap.size ≤ k_)) v0_ r1 ∧ Below w.heap.size w w' := by
 have hu32 := Tryz.underlying32
 have hu38 := Tryz.underlying38
 have HR0 := am hr0
 have HC0 := am hc0
 clear hr0 hc0
 have HR1_2 := am hr1_2
 have HC1_2 := am hc1_2
 clear hr1_2 hc1_2
 have HR1_3 := am hr1_3
 have HC1_3 := am hc1_3
 clear hr1_3 hc1_3
 have HR1_4 := am hr1_4
 have HC1_4 := am hc1_4
 clear hr1_4 hc1_4
 have HR1_5 := am hr1_5
 have HC1_5 := am hc1_5
 clear hr1_5 hc1_5
 have HB := am (Below.refl w.heap.size w)
 have H : ((config_Check.f a1_0 a1_1 l1_2 l1_3 l1_4 l1_5 a1_6 a1_7).bind fun t436 => (if t436 = 0 then ((rows_Check.f k l0).bind fun t437 => (if t437 = 0 then (clean_Rows.l0 k l0 a2 ([] : List (S38)) ([] : List Int) 0 a1_0 a1_1 l1_2 l1_3 l1_4 l1_5 a1_6 a1_7) else (some (([] : List (S38)), t437)))) else (some (([] : List (S38)), t436)))) = some (r1, r2) := h
 clear h
 replace H := Option.bind_eq_some_iff.mp H
 obtain ⟨t436, A40, H⟩ := H
 have A4 := am A40
 clear A40
 by_cases c5 : t436 = 0
 ·rw [if_pos c5] at H
  have c5b0 : (t436 == 0) = true := beq_iff_eq.mpr c5
  have c5b1 : (t436 != 0) = false := bne_eq_false_iff_eq.mpr c5
  clear c5
  replace H := Option.bind_eq_some_iff.mp H
  obtain ⟨t437, A60, H⟩ := H
  have A6 := am A60
  clear A60
  by_cases c7 : t437 = 0
  ·rw [if_pos c7] at H
   have c7b0 : (t437 == 0) = true := beq_iff_eq.mpr c7
   have c7b1 : (t437 != 0) = false := bne_eq_false_iff_eq.mpr c7
   clear c7
   have H' := am H
   clear H
   go_enter Tryz.func14, Tryz.ntmps14
   go_wp2_with (first | (go_step3) | ((with_reducible refine gate_dst (N := 4) rfl ?_); refine box_event ?hg (N := 4) ?hd (cs := #[.bool a1_0, .bool a1_1, .slice A1_2 l1_2.length c1_2, .slice A1_3 l1_3.length c1_3, .slice A1_4 l1_4.length c1_4, .slice A1_5 l1_5.length c1_5, .bool a1_6, .bool a1_7]) (t := 32) ?hr ?_; (case hd => rfl); (case hg => rfl); (case hr => first | (go_simp; done) | (go_simp; rfl)); intro gb435 hg w8 hbox hb; have n0_ := am (below_step (zb HB) hb); have n1_ := am (hbox); have n3_ := am ((by rw [hg]; exact (below_size (zb HB)) : w.heap.size ≤ gb435)); clear HB; have HB := n0_; have BK435 := n1_; have GE435 := n3_; clear n0_ n1_ n3_; clear hb hbox hg; obtain ⟨hcz9_0, hcz9_1, hcz9_2, hcz9_3, hcz9_4, hcz9_5, hcz9_6, hcz9_7, hfz9_0, hfz9_1, hfz9_2, hfz9_3, hfz9_4, hfz9_5, hfz9_6, hfz9_7⟩ := cz8 BK435.out) | ((with_reducible refine gate_callee (f := 32) rfl ?_); refine goesL_ (some 17) rfl rfl Tryz.func32 (by kernel_rfl) rfl #[.agg #[.bool a1_0, .bool a1_1, .slice A1_2 l1_2.length c1_2, .slice A1_3 l1_3.length c1_3, .slice A1_4 l1_4.length c1_4, .slice A1_5 l1_5.length c1_5, .bool a1_6, .bool a1_7]] rfl zm ?_; (with_reducible refine (config_Check.calls a1_0 a1_1 _ _ l1_2 _ _ l1_3 _ _ l1_4 _ _ l1_5 a1_6 a1_7 t436 _ ?side1 ?side2 ?side3 ?side4 ?side5 ?side6 ?side7 ?side8 A4.out).mono ?_); (case side1 => exact zc (Kd.C_below HR1_2.out HB.out)); (case side2 => exact HC1_2.out); (case side3 => exact zc (Kd.C_below HR1_3.out HB.out)); (case side4 => exact HC1_3.out); (case side5 => exact zc (Kd.C_below HR1_4.out HB.out)); (case side6 => exact HC1_4.out); (case side7 => exact zc (Kd.C_below HR1_5.out HB.out)); (case side8 => exact HC1_5.out); rintro e w10 ⟨rfl, hb⟩; refine ⟨_, rfl, ?_⟩; have n0_ := am (blk_below (by exact BK435.out) hb); have n1_ := am (below_step (zb1 HB GE435) hb); clear BK435; clear HB; have BK435 := n0_; have HB := n1_; clear n0_ n1_; (try clear hb)) | ((with_reducible refine gate_callee (f := 33) rfl ?_); refine goesL_ (some 22) rfl rfl Tryz.func33 (by kernel_rfl) rfl #[.slice A0 l0.length c0] rfl zm ?_; (with_reducible refine (rows_Check.calls k _ _ l0 t437 _ ?side1 ?side2 A6.out).mono ?_); (case side1 => exact zc (Kd.C_below HR0.out HB.out)); (case side2 => exact HC0.out); rintro e w11 ⟨rfl, hb⟩; refine ⟨_, rfl, ?_⟩; have n0_ := am (blk_below (by exact BK435.out) hb); have n1_ := am (below_step (zb1 HB GE435) hb); clear BK435; clear HB; have BK435 := n0_; have HB := n1_; clear n0_ n1_; (try clear hb)))
   go_loopg [10, 11, 12] k (fun kq v10 v11 v12 w' => ∃ (x10_1 : List (S38)) (x11_1 : List Int) (x12_1 : Int), v12 = .int .i64 x12_1 ∧ Aside0 (clean_Rows.l0 kq l0 a2 x10_1 x11_1 x12_1 a1_0 a1_1 l1_2 l1_3 l1_4 l1_5 a1_6 a1_7 = some (r1, r2)) ∧ Aside0 (kq ≤ k) ∧ Aside0 (Kd.N k38 38 w' w.heap.size (fun k_ => (w.heap.size ≤ k_) ∧ some k_ ≠ (v11 : Value).ownBlock ∧ k_ ≠ gb435) v10 x10_1) ∧ Aside0 (Kd.R (Kd.int .i64) 3 w' w.heap.size (fun k_ => (w.heap.size ≤ k_)) v11 x11_1) ∧ Aside0 (w'.heap[gb435]? = some (.cells #[.bool a1_0, .bool a1_1, (.slice A1_2 l1_2.length c1_2), (.slice A1_3 l1_3.length c1_3), (.slice A1_4 l1_4.length c1_4), (.slice A1_5 l1_5.length c1_5), .bool a1_6, .bool a1_7] 32 (0, 0))) ∧ Aside0 (Below w.heap.size w w'))
   case atStart => exact ⟨(([] : List (S38))), (([] : List Int)), (0), zr, H', ⟨Nat.le_refl _⟩, ⟨by first | exact Kd.S_nil _ _ _ _ _ | exact Kd.N_nil _ _ _ _ _ | exact Kd.V_nil _ _ _ _ _ | exact Kd.Q_nil _ _ _ _ _ | exact Kd.R_nil _ _ _ _ _⟩, ⟨by first | exact Kd.R_nil _ _ _ _ _ | exact Kd.N_nil _ _ _ _ _ | exact Kd.V_nil _ _ _ _ _ | exact Kd.Q_nil _ _ _ _ _ | exact Kd.S_nil _ _ _ _ _⟩, ⟨by exact BK435.out⟩, ⟨zb1 HB GE435⟩⟩
   case round =>
    clear H'
    try clear c1
    try clear p2
    try clear c3
    try clear c5
    try clear c5b0
    try clear c5b1
    try clear c7
    try clear c7b0
    try clear c7b1
    try clear hcz9_0
    try clear hcz9_1
    try clear hcz9_2
    try clear hcz9_3
    try clear hcz9_4
    try clear hcz9_5
    try clear hcz9_6
    try clear hcz9_7
    try clear hfz9_0
    try clear hfz9_1
    try clear hfz9_2
    try clear hfz9_3
    try clear hfz9_4
    try clear hfz9_5
    try clear hfz9_6
    try clear hfz9_7
    obtain ⟨x10_1, x11_1, x12_1, rfl, HA, HK1, HO_10, HO_11, BK435, HB⟩ := hrel
    cases gk with
    | zero => exact absurd HA.out (by simp [clean_Rows.l0])
    | succ k1 =>
     have H := HA.out
     clear HA
     simp only [clean_Rows.l0] at H
     by_cases c12 : x12_1 < (l0.length : Int)
     ·rw [if_pos c12] at H
      have c12b0 : decide (x12_1 < (l0.length : Int)) = true := decide_eq_true c12
      clear c12
      by_cases c13 : 0 ≤ x12_1
      ·rw [if_pos c13] at H
       have c13b0 : decide (0 ≤ x12_1) = true := decide_eq_true c13
       clear c13
       by_cases c14 : 0 ≤ ((rd_T38 l0 x12_1).f0)
       ·rw [if_pos c14] at H
        have c14b0 := eq_true c14
        have c14b1 : decide (0 ≤ ((rd_T38 l0 x12_1).f0)) = true := decide_eq_true c14
        clear c14
        by_cases c15 : ((rd_T38 l0 x12_1).f0) ≤ (x11_1.length : Int)
        ·rw [if_pos c15] at H
         have c15b0 := eq_true c15
         have c15b1 : decide (((rd_T38 l0 x12_1).f0) ≤ (x11_1.length : Int)) = true := decide_eq_true c15
         clear c15
         obtain ⟨y443, hy443⟩ : ∃ y_ : List Int, y_ = (x11_1.take (((rd_T38 l0 x12_1).f0) : Int).toNat) := ⟨_, rfl⟩
         replace H : (if ((rd_T38 l0 x12_1).f0) > 0 then (if 0 ≤ (wrap64 (((rd_T38 l0 x12_1).f0) - 1)) then (if (wrap64 (((rd_T38 l0 x12_1).f0) - 1)) < (y443.length : Int) then (clean_Rows.j1 k1 l0 a2 x10_1 y443 x12_1 (rd y443 (wrap64 (((rd_T38 l0 x12_1).f0) - 1))) a1_0 a1_1 l1_2 l1_3 l1_4 l1_5 a1_6 a1_7 ((rd_T38 l0 x12_1).f0) ((rd_T38 l0 x12_1).f1) ((rd_T38 l0 x12_1).f2) ((rd_T38 l0 x12_1).f3) ((rd_T38 l0 x12_1).f4)) else (none)) else (none)) else (clean_Rows.j1 k1 l0 a2 x10_1 y443 x12_1 0 a1_0 a1_1 l1_2 l1_3 l1_4 l1_5 a1_6 a1_7 ((rd_T38 l0 x12_1).f0) ((rd_T38 l0 x12_1).f1) ((rd_T38 l0 x12_1).f2) ((rd_T38 l0 x12_1).f3) ((rd_T38 l0 x12_1).f4))) = some (r1, r2) := by first | (rw [hy443]; with_reducible exact H) | (have H2_ := (Option.bind_some _ _).symm.trans H; rw [hy443]; with_reducible exact H2_) | (have H2_ := (Option.bind_some _ _).symm.trans H; with_reducible exact H2_) | with_reducible exact H | (rw [hy443]; exact H) | exact H
         have Ny443 := am hy443
         clear hy443
         have HC16 := am H
         clear H
         have p441 : 0 ≤ (x12_1 : Int) := of_decide_eq_true za
         have q441 : x12_1 < (l0.length : Int) := of_decide_eq_true za
         obtain ⟨ad441, A441_4, c441_4, e441, hx441_0, hx441_1, hx441_2, hx441_3, hx441_4, hl441_4, hi441_4⟩ := at_T38 HR0.out x12_1 p441 q441
         cases e441
         replace hx441_0 := (HB.out.cell (World.block_lt_of_cell? w _ hx441_0)).trans hx441_0
         replace hx441_1 := (HB.out.cell (World.block_lt_of_cell? w _ hx441_1)).trans hx441_1
         replace hx441_2 := (HB.out.cell (World.block_lt_of_cell? w _ hx441_2)).trans hx441_2
         replace hx441_3 := (HB.out.cell (World.block_lt_of_cell? w _ hx441_3)).trans hx441_3
         replace hx441_4 := (HB.out.cell (World.block_lt_of_cell? w _ hx441_4)).trans hx441_4
         have HR441_4 := am hi441_4
         have HC441_4 := am hl441_4
         clear hi441_4 hl441_4
         replace p441 := eq_true p441
         replace q441 := eq_true q441
         go_upto_if 40 with (first | ((with_reducible refine gate_dst (N := 13) rfl ?_); refine box_event ?hg (N := 13) ?hd (cs := #[.int .i64 0, .int .i64 0, .string (⟨#[]⟩ : ByteArray), .string (⟨#[]⟩ : ByteArray), .slice none 0 0]) (t := 38) ?hr ?_; (case hd => rfl); (case hg => rfl); (case hr => first | (go_simp; done) | (go_simp; rfl)); intro gb442 hg w17 hbox hb; have n0_ := am (Kd.N_below (Kd.N_elderB (by exact HO_10.out) gb442 (Nat.le_of_eq hg.symm)) hb); have n1_ := am (Kd.R_below (by exact HO_11.out) hb); have n2_ := am (blk_below (by exact BK435.out) hb); have n3_ := am (below_step (zb1 HB GE435) hb); have n4_ := am (hbox); have n5_ := am ((by rw [hg]; exact (below_size (zb1 HB GE435)) : w.heap.size ≤ gb442)); have n6_ := am ((by rw [hg]; exact (below_size (zb1 HB GE435)) : w.heap.size ≤ gb442)); have n7_ := am ((by rw [hg]; exact Nat.ne_of_lt (blk_lt (by exact BK435.out)) : gb435 ≠ gb442)); have n8_ := am ((by rw [hg]; exact Nat.ne_of_gt (blk_lt (by exact BK435.out)) : gb442 ≠ gb435)); clear HO_10; clear HO_11; clear BK435; clear HB; have HO_10 := n0_; have HO_11 := n1_; have BK435 := n2_; have HB := n3_; have BK442 := n4_; have GW442 := n5_; have GE442 := n6_; have NB435_442 := n7_; have NB442_435 := n8_; clear n0_ n1_ n2_ n3_ n4_ n5_ n6_ n7_ n8_; clear hb hbox hg; have hnb18 := NB442_435.out; have hnc18 := NB435_442.out; obtain ⟨hcz19_0, hcz19_1, hcz19_2, hcz19_3, hcz19_4, hfz19_0, hfz19_1, hfz19_2, hfz19_3, hfz19_4⟩ := cz5 BK442.out) | ((with_reducible refine gate_store (t := 38) (p := 13) rfl ?_); refine store_event (t := 38) (p := 13) (v := ?vo_w20) (w1 := (((((w17.setCell ⟨gb442, 0, none⟩ (.int .i64 ((rd_T38 l0 x12_1).f0))).setCell ⟨gb442, 1, none⟩ (.int .i64 ((rd_T38 l0 x12_1).f1))).setCell ⟨gb442, 2, none⟩ (.string ((rd_T38 l0 x12_1).f2))).setCell ⟨gb442, 3, none⟩ (.string ((rd_T38 l0 x12_1).f3))).setCell ⟨gb442, 4, none⟩ (.slice A441_4 ((rd_T38 l0 x12_1).f4).length c441_4))) ?hg ?ho ?hn ?hr ?_; (case ho => rfl); (case hg => rfl); (case hn => rfl); (case hr => first | (go_simp; done) | (go_simp; rfl)); intro w20 hw; have n0_ : Aside0 (Kd.N k38 38 w20 w.heap.size (fun k_ => (w.heap.size ≤ k_) ∧ some k_ ≠ (u11 : Value).ownBlock ∧ k_ ≠ gb435 ∧ k_ ≠ gb442) u10 x10_1) := ⟨(by rw [hw]; exact (by exact Kd.N_mono (Nf5 (g := gb442) (Kd.N_mono HO_10.out (fun k_ hk => (⟨hk, hk.2⟩ : _ ∧ k_ ≠ gb442))) (fun _ hk => hk.2) (.int .i64 ((rd_T38 l0 x12_1).f0)) (.int .i64 ((rd_T38 l0 x12_1).f1)) (.string ((rd_T38 l0 x12_1).f2)) (.string ((rd_T38 l0 x12_1).f3)) (.slice A441_4 ((rd_T38 l0 x12_1).f4).length c441_4)) (fun _ hk => ⟨hk.1.1.1, ⟨hk.1.1.2.1, ⟨hk.1.1.2.2, hk.1.2⟩⟩⟩)))⟩; have n1_ : Aside0 (Kd.R (Kd.int .i64) 3 w20 w.heap.size (fun k_ => (w.heap.size ≤ k_)) u11 x11_1) := ⟨(by rw [hw]; exact (by exact Kd.R_mono (Rf5 (g := gb442) (Kd.R_types HO_11.out BK442.out (by decide)) (fun _ hk => hk.2) (.int .i64 ((rd_T38 l0 x12_1).f0)) (.int .i64 ((rd_T38 l0 x12_1).f1)) (.string ((rd_T38 l0 x12_1).f2)) (.string ((rd_T38 l0 x12_1).f3)) (.slice A441_4 ((rd_T38 l0 x12_1).f4).length c441_4)) (fun _ hk => hk.1)))⟩; have n2_ : Aside0 (w20.heap[gb435]? = some (.cells #[.bool a1_0, .bool a1_1, .slice A1_2 l1_2.length c1_2, .slice A1_3 l1_3.length c1_3, .slice A1_4 l1_4.length c1_4, .slice A1_5 l1_5.length c1_5, .bool a1_6, .bool a1_7] 32 (0, 0))) := ⟨(by rw [hw]; exact (by refine blk_far ?_ NB435_442.out _; refine blk_far ?_ NB435_442.out _; refine blk_far ?_ NB435_442.out _; refine blk_far ?_ NB435_442.out _; refine blk_far ?_ NB435_442.out _; exact BK435.out))⟩; have n3_ : Aside0 (w20.heap[gb442]? = some (.cells #[.int .i64 ((rd_T38 l0 x12_1).f0), .int .i64 ((rd_T38 l0 x12_1).f1), .string ((rd_T38 l0 x12_1).f2), .string ((rd_T38 l0 x12_1).f3), .slice A441_4 ((rd_T38 l0 x12_1).f4).length c441_4] 38 (0, 0))) := ⟨(by rw [hw]; exact (by refine blk_put (cs := #[.int .i64 ((rd_T38 l0 x12_1).f0), .int .i64 ((rd_T38 l0 x12_1).f1), .string ((rd_T38 l0 x12_1).f2), .string ((rd_T38 l0 x12_1).f3), .slice none 0 0]) ?_ 4 _ rfl; refine blk_put (cs := #[.int .i64 ((rd_T38 l0 x12_1).f0), .int .i64 ((rd_T38 l0 x12_1).f1), .string ((rd_T38 l0 x12_1).f2), .string (⟨#[]⟩ : ByteArray), .slice none 0 0]) ?_ 3 _ rfl; refine blk_put (cs := #[.int .i64 ((rd_T38 l0 x12_1).f0), .int .i64 ((rd_T38 l0 x12_1).f1), .string (⟨#[]⟩ : ByteArray), .string (⟨#[]⟩ : ByteArray), .slice none 0 0]) ?_ 2 _ rfl; refine blk_put (cs := #[.int .i64 ((rd_T38 l0 x12_1).f0), .int .i64 0, .string (⟨#[]⟩ : ByteArray), .string (⟨#[]⟩ : ByteArray), .slice none 0 0]) ?_ 1 _ rfl; refine blk_put (cs := #[.int .i64 0, .int .i64 0, .string (⟨#[]⟩ : ByteArray), .string (⟨#[]⟩ : ByteArray), .slice none 0 0]) ?_ 0 _ rfl; exact BK442.out))⟩; have n4_ : Aside0 (Below w.heap.size w w20) := ⟨(by rw [hw]; exact (zb2 HB GE435 GE442))⟩; clear hw; clear HO_10; clear HO_11; clear BK435; clear BK442; clear HB; have HO_10 := n0_; have HO_11 := n1_; have BK435 := n2_; have BK442 := n3_; have HB := n4_; clear n0_ n1_ n2_ n3_ n4_; obtain ⟨hcz21_0, hcz21_1, hcz21_2, hcz21_3, hcz21_4, hfz21_0, hfz21_1, hfz21_2, hfz21_3, hfz21_4⟩ := cz5 BK442.out; obtain ⟨Ao22, co22, eo22⟩ := Kd.R_slice HO_11.out; subst eo22; have q23 : (((rd_T38 l0 x12_1).f0) : Int) ≤ ((x11_1.length : Int) : Int) := of_decide_eq_true za; obtain ⟨i023, hi023, _, hsz23, _⟩ := info_parts info3; have hcut23 := cut_to (P := Tryz.prog) 53 3 .i64 Tryz.underlying53 hi023 Ao22 x11_1.length co22 ((rd_T38 l0 x12_1).f0) (of_decide_eq_true za) q23 (Kd.R_reads' HO_11.out).2.1; have hr23 := Kd.R_take (m := (((rd_T38 l0 x12_1).f0) : Int).toNat) HO_11.out (by omega); have hy23 : y443.length = (((rd_T38 l0 x12_1).f0) : Int).toNat := (by rw [Ny443.out, List.length_take]; omega); rw [← Ny443.out] at hr23; rw [← hy23] at hr23 hcut23; clear hy23 hi023 hsz23 HO_11; have HO445 := am hr23; clear hr23; replace q23 := eq_true q23))
         (try simp only [Act.put, List.setIfInBounds_toArray, List.set_cons_zero, List.set_cons_succ])
         go_cut [14] (fun v14 wc => ∃ (kq : Nat) (x14_15 : Int), v14 = .int .i64 x14_15 ∧ Aside0 (clean_Rows.j1 kq l0 a2 x10_1 y443 x12_1 x14_15 a1_0 a1_1 l1_2 l1_3 l1_4 l1_5 a1_6 a1_7 ((rd_T38 l0 x12_1).f0) ((rd_T38 l0 x12_1).f1) ((rd_T38 l0 x12_1).f2) ((rd_T38 l0 x12_1).f3) ((rd_T38 l0 x12_1).f4) = some (r1, r2)) ∧ Aside0 (kq ≤ k1) ∧ Aside0 (Kd.N k38 38 wc w.heap.size (fun k_ => (w.heap.size ≤ k_) ∧ some k_ ≠ ((.slice Ao22 y443.length co22) : Value).ownBlock ∧ k_ ≠ gb435 ∧ k_ ≠ gb442) u10 x10_1) ∧ Aside0 (Kd.R (Kd.int .i64) 3 wc w.heap.size (fun k_ => (w.heap.size ≤ k_)) (.slice Ao22 y443.length co22) y443) ∧ Aside0 (wc.heap[gb435]? = some (.cells #[.bool a1_0, .bool a1_1, (.slice A1_2 l1_2.length c1_2), (.slice A1_3 l1_3.length c1_3), (.slice A1_4 l1_4.length c1_4), (.slice A1_5 l1_5.length c1_5), .bool a1_6, .bool a1_7] 32 (0, 0))) ∧ Aside0 (wc.heap[gb442]? = some (.cells #[.int .i64 ((rd_T38 l0 x12_1).f0), .int .i64 ((rd_T38 l0 x12_1).f1), .string ((rd_T38 l0 x12_1).f2), .string ((rd_T38 l0 x12_1).f3), (.slice A441_4 ((rd_T38 l0 x12_1).f4).length c441_4)] 38 (0, 0))) ∧ Aside0 (Below w.heap.size w wc))
         case first =>
          have H := HC16.out
          clear HC16
          by_cases c24 : ((rd_T38 l0 x12_1).f0) > 0
          ·rw [if_pos c24] at H
           have c24b0 : decide (0 < ((rd_T38 l0 x12_1).f0)) = true := decide_eq_true c24
           clear c24
           (first | rw [c24b0] | (simp only [i64_w, i32_w]; rw [c24b0]) | skip)
           obtain ⟨ji25, hji25⟩ : ∃ j_ : Int, (wrap64 (((rd_T38 l0 x12_1).f0) - 1)) = j_ := ⟨_, rfl⟩
           replace H : (if 0 ≤ (ji25) then (if (ji25) < (y443.length : Int) then (clean_Rows.j1 k1 l0 a2 x10_1 y443 x12_1 (rd y443 (ji25)) a1_0 a1_1 l1_2 l1_3 l1_4 l1_5 a1_6 a1_7 ((rd_T38 l0 x12_1).f0) ((rd_T38 l0 x12_1).f1) ((rd_T38 l0 x12_1).f2) ((rd_T38 l0 x12_1).f3) ((rd_T38 l0 x12_1).f4)) else (none)) else (none)) = some (r1, r2) := by first | (rw [hji25] at H; exact H) | (simp only [hji25] at H ⊢; exact H)
           have hji25w : (IntKind.i64.wrap (((rd_T38 l0 x12_1).f0) - 1)) = ji25 := (i64_w _).trans hji25
           by_cases c26 : 0 ≤ (ji25)
           ·rw [if_pos c26] at H
            have c26b0 : decide (0 ≤ (ji25)) = true := decide_eq_true c26
            clear c26
            by_cases c27 : (ji25) < (y443.length : Int)
            ·rw [if_pos c27] at H
             have c27b0 : decide ((ji25) < (y443.length : Int)) = true := decide_eq_true c27
             clear c27
             have H' := am H
             clear H
             have hnb28 := NB442_435.out
             have hnc28 := NB435_442.out
             obtain ⟨hcz29_0, hcz29_1, hcz29_2, hcz29_3, hcz29_4, hfz29_0, hfz29_1, hfz29_2, hfz29_3, hfz29_4⟩ := cz5 BK442.out
             have p446 : 0 ≤ ((ji25) : Int) := of_decide_eq_true za
             have q446 : (ji25) < (y443.length : Int) := of_decide_eq_true za
             obtain ⟨ad446, e446, hx446_0⟩ := Kd.at_int (Kd.R_reads' HO445.out).2.2 (ji25) p446 q446
             cases e446
             replace p446 := eq_true p446
             replace q446 := eq_true q446
             go_wp2_with (go_step3)
             go_meet
             case rel => exact ⟨_, (rd y443 (ji25)), (by first | rfl | (simp; done) | (simp only [← hji25] <;> (first | rfl | simp)) | (simp [*]; done)), H', ⟨by have := HK1.out; first | omega | exact Nat.le_refl _⟩, ⟨by exact HO_10.out⟩, ⟨by exact HO445.out⟩, ⟨by exact BK435.out⟩, ⟨by exact BK442.out⟩, ⟨zb2 HB GE435 GE442⟩⟩
            ·rw [if_neg c27] at H
             exact absurd H (by simp)
           ·rw [if_neg c26] at H
            exact absurd H (by simp)
          ·rw [if_neg c24] at H
           have c24b0 : decide (0 < ((rd_T38 l0 x12_1).f0)) = false := decide_eq_false c24
           clear c24
           (first | rw [c24b0] | (simp only [i64_w, i32_w]; rw [c24b0]) | skip)
           have H' := am H
           clear H
           go_wp2_with (go_step3)
           go_meet
           case rel => exact ⟨_, (0), zr, H', ⟨by have := HK1.out; first | omega | exact Nat.le_refl _⟩, ⟨by (with_reducible repeat (first | apply Kd.N_alloc | apply Kd.N_drewN | apply Kd.N_drew)); first | exact HO_10.out | exact Kd.N_mono HO_10.out (fun k_ hk => ⟨hk.1, (by have h_ := hk.2.1; revert h_; cases Ao22 <;> exact id), hk.2.2⟩)⟩, ⟨by exact HO445.out⟩, ⟨by exact BK435.out⟩, ⟨by exact BK442.out⟩, ⟨zb2 HB GE435 GE442⟩⟩
         case rest =>
          clear HC16
          try clear c1
          try clear c2
          try clear p2
          try clear q2
          try clear c3
          try clear c4
          try clear p4
          try clear q4
          try clear hx4
          try clear c5
          try clear c5b0
          try clear c5b1
          try clear p6
          try clear c7
          try clear c7b0
          try clear c7b1
          try clear c12
          try clear c12b0
          try clear c13
          try clear c13b0
          try clear c14
          try clear c14b0
          try clear c14b1
          try clear c15
          try clear c15b0
          try clear c15b1
          try clear c18
          try clear q23
          try clear c24
          try clear c24b0
          try clear c26
          try clear c26b0
          try clear c27
          try clear c27b0
          try clear c28
          try clear hcz19_0
          try clear hcz19_1
          try clear hcz19_2
          try clear hcz19_3
          try clear hcz19_4
          try clear hcz21_0
          try clear hcz21_1
          try clear hcz21_2
          try clear hcz21_3
          try clear hcz21_4
          try clear hcz29_0
          try clear hcz29_1
          try clear hcz29_2
          try clear hcz29_3
          try clear hcz29_4
          try clear hcz9_0
          try clear hcz9_1
          try clear hcz9_2
          try clear hcz9_3
          try clear hcz9_4
          try clear hcz9_5
          try clear hcz9_6
          try clear hcz9_7
          try clear hfz19_0
          try clear hfz19_1
          try clear hfz19_2
          try clear hfz19_3
          try clear hfz19_4
          try clear hfz21_0
          try clear hfz21_1
          try clear hfz21_2
          try clear hfz21_3
          try clear hfz21_4
          try clear hfz29_0
          try clear hfz29_1
          try clear hfz29_2
          try clear hfz29_3
          try clear hfz29_4
          try clear hfz9_0
          try clear hfz9_1
          try clear hfz9_2
          try clear hfz9_3
          try clear hfz9_4
          try clear hfz9_5
          try clear hfz9_6
          try clear hfz9_7
          try clear hx441_0
          try clear hx441_1
          try clear hx441_2
          try clear hx441_3
          try clear hx441_4
          try clear hx446_0
          try clear p2
          try clear p441
          try clear p446
          try clear q23
          try clear q441
          try clear q446
          obtain ⟨kq, x14_15, rfl, HA, HJ15, HO_10, HO_11, BK435, BK442, HB⟩ := hcut
          cases kq with
          | zero => exact absurd HA.out (by simp [clean_Rows.j1])
          | succ kj15 =>
           have H := HA.out
           clear HA
           simp only [clean_Rows.j1] at H
           replace H := Option.bind_eq_some_iff.mp H
           obtain ⟨t447, A300, H⟩ := H
           have A30 := am A300
           clear A300
           by_cases c31 : t447 = 1
           ·rw [if_pos c31] at H
            have c31b0 : (t447 == 1) = true := beq_iff_eq.mpr c31
            have c31b1 : (t447 != 1) = false := bne_eq_false_iff_eq.mpr c31
            clear c31
            replace H := Option.bind_eq_some_iff.mp H
            obtain ⟨t448, A320, H⟩ := H
            have A32 := am A320
            clear A320
            have H' := am H
            clear H
            have hnb33 := NB442_435.out
            have hnc33 := NB435_442.out
            obtain ⟨hcz34_0, hcz34_1, hcz34_2, hcz34_3, hcz34_4, hfz34_0, hfz34_1, hfz34_2, hfz34_3, hfz34_4⟩ := cz5 BK442.out
            obtain ⟨hcz35_0, hcz35_1, hcz35_2, hcz35_3, hcz35_4, hcz35_5, hcz35_6, hcz35_7, hfz35_0, hfz35_1, hfz35_2, hfz35_3, hfz35_4, hfz35_5, hfz35_6, hfz35_7⟩ := cz8 BK435.out
            go_wp2_with (first | (go_step3) | ((with_reducible refine gate_callee (f := 34) rfl ?_); refine goesL_ (some 50) rfl rfl Tryz.func34 (by kernel_rfl) rfl #[.agg #[.int .i64 ((rd_T38 l0 x12_1).f0), .int .i64 ((rd_T38 l0 x12_1).f1), .string ((rd_T38 l0 x12_1).f2), .string ((rd_T38 l0 x12_1).f3), .slice A441_4 ((rd_T38 l0 x12_1).f4).length c441_4], .agg #[.bool a1_0, .bool a1_1, .slice A1_2 l1_2.length c1_2, .slice A1_3 l1_3.length c1_3, .slice A1_4 l1_4.length c1_4, .slice A1_5 l1_5.length c1_5, .bool a1_6, .bool a1_7], .bool a2] rfl zm ?_; (with_reducible refine (clean_becomes.calls kj15 ((rd_T38 l0 x12_1).f0) ((rd_T38 l0 x12_1).f1) ((rd_T38 l0 x12_1).f2) ((rd_T38 l0 x12_1).f3) _ _ ((rd_T38 l0 x12_1).f4) a1_0 a1_1 _ _ l1_2 _ _ l1_3 _ _ l1_4 _ _ l1_5 a1_6 a1_7 a2 t447 _ ?side1 ?side2 ?side3 ?side4 ?side5 ?side6 ?side7 ?side8 ?side9 ?side10 A30.out).mono ?_); (case side1 => exact zc (Kd.C_below HR441_4.out HB.out)); (case side2 => exact HC441_4.out); (case side3 => exact zc (Kd.C_below HR1_2.out HB.out)); (case side4 => exact HC1_2.out); (case side5 => exact zc (Kd.C_below HR1_3.out HB.out)); (case side6 => exact HC1_3.out); (case side7 => exact zc (Kd.C_below HR1_4.out HB.out)); (case side8 => exact HC1_4.out); (case side9 => exact zc (Kd.C_below HR1_5.out HB.out)); (case side10 => exact HC1_5.out); rintro e w36 ⟨rfl, hb⟩; refine ⟨_, rfl, ?_⟩; have n0_ := am (Kd.N_below (by exact HO_10.out) hb); have n1_ := am (Kd.R_below (by exact HO_11.out) hb); have n2_ := am (blk_below (by exact BK435.out) hb); have n4_ := am (below_step (zb2 HB GE435 GE442) hb); clear HO_10; clear HO_11; clear BK435; clear BK442; clear HB; have HO_10 := n0_; have HO_11 := n1_; have BK435 := n2_; have HB := n4_; clear n0_ n1_ n2_ n4_; (try clear hb)) | ((with_reducible refine gate_callee (f := 35) rfl ?_); refine goesL_ (some 70) rfl rfl Tryz.func35 (by kernel_rfl) rfl #[.slice (some ad441) l0.length c0, .int .i64 x12_1] rfl zm ?_; (with_reducible refine (rows_End.calls kj15 _ _ l0 x12_1 t448 _ ?side1 ?side2 A32.out).mono ?_); (case side1 => exact zc (Kd.C_below HR0.out HB.out)); (case side2 => exact HC0.out); rintro e w' ⟨rfl, ⟨nd, rfl⟩⟩; refine ⟨_, rfl, ?_⟩))
            go_roundg kj15
            case measure => have := HK1.out; have := HJ15.out; omega
            case rel => exact ⟨(x10_1), (y443), (t448), zr, H', ⟨by have := HK1.out; have := HJ15.out; omega⟩, ⟨by exact Kd.N_mono HO_10.out (fun _ hk => ⟨hk.1, ⟨hk.2.1, hk.2.2.1⟩⟩)⟩, ⟨by exact HO_11.out⟩, ⟨by exact BK435.out⟩, ⟨zb2 HB GE435 GE442⟩⟩
           ·rw [if_neg c31] at H
            have c31b0 : (t447 == 1) = false := beq_eq_false_iff_ne.mpr c31
            have c31b1 : (t447 != 1) = true := bne_iff_ne.mpr c31
            by_cases c37 : t447 = 2
            ·rw [if_pos c37] at H
             have c37b0 : (t447 == 2) = true := beq_iff_eq.mpr c37
             have c37b1 : (t447 != 2) = false := bne_eq_false_iff_eq.mpr c37
             clear c37
             by_cases c38 : y443.length < 17592186044416
             ·rw [if_pos c38] at H
              have LMc38 := am c38
              clear c38
              obtain ⟨y449, hy449⟩ : ∃ y_ : List Int, y_ = (y443 ++ [wrap64 (x14_15 + 1)]) := ⟨_, rfl⟩
              replace H : (clean_Rows.l0 kj15 l0 a2 x10_1 y449 (wrap64 (x12_1 + 1)) a1_0 a1_1 l1_2 l1_3 l1_4 l1_5 a1_6 a1_7) = some (r1, r2) := by first | (rw [hy449]; with_reducible exact H) | (have H2_ := (Option.bind_some _ _).symm.trans H; rw [hy449]; with_reducible exact H2_) | (have H2_ := (Option.bind_some _ _).symm.trans H; with_reducible exact H2_) | with_reducible exact H | (rw [hy449]; exact H) | exact H
              have Ny449 := am hy449
              clear hy449
              have H' := am H
              clear H
              have hnb39 := NB442_435.out
              have hnc39 := NB435_442.out
              obtain ⟨hcz40_0, hcz40_1, hcz40_2, hcz40_3, hcz40_4, hfz40_0, hfz40_1, hfz40_2, hfz40_3, hfz40_4⟩ := cz5 BK442.out
              obtain ⟨hcz41_0, hcz41_1, hcz41_2, hcz41_3, hcz41_4, hcz41_5, hcz41_6, hcz41_7, hfz41_0, hfz41_1, hfz41_2, hfz41_3, hfz41_4, hfz41_5, hfz41_6, hfz41_7⟩ := cz8 BK435.out
              go_wp2_with (first | (go_step3) | ((with_reducible refine gate_callee (f := 34) rfl ?_); refine goesL_ (some 50) rfl rfl Tryz.func34 (by kernel_rfl) rfl #[.agg #[.int .i64 ((rd_T38 l0 x12_1).f0), .int .i64 ((rd_T38 l0 x12_1).f1), .string ((rd_T38 l0 x12_1).f2), .string ((rd_T38 l0 x12_1).f3), .slice A441_4 ((rd_T38 l0 x12_1).f4).length c441_4], .agg #[.bool a1_0, .bool a1_1, .slice A1_2 l1_2.length c1_2, .slice A1_3 l1_3.length c1_3, .slice A1_4 l1_4.length c1_4, .slice A1_5 l1_5.length c1_5, .bool a1_6, .bool a1_7], .bool a2] rfl zm ?_; (with_reducible refine (clean_becomes.calls kj15 ((rd_T38 l0 x12_1).f0) ((rd_T38 l0 x12_1).f1) ((rd_T38 l0 x12_1).f2) ((rd_T38 l0 x12_1).f3) _ _ ((rd_T38 l0 x12_1).f4) a1_0 a1_1 _ _ l1_2 _ _ l1_3 _ _ l1_4 _ _ l1_5 a1_6 a1_7 a2 t447 _ ?side1 ?side2 ?side3 ?side4 ?side5 ?side6 ?side7 ?side8 ?side9 ?side10 A30.out).mono ?_); (case side1 => exact zc (Kd.C_below HR441_4.out HB.out)); (case side2 => exact HC441_4.out); (case side3 => exact zc (Kd.C_below HR1_2.out HB.out)); (case side4 => exact HC1_2.out); (case side5 => exact zc (Kd.C_below HR1_3.out HB.out)); (case side6 => exact HC1_3.out); (case side7 => exact zc (Kd.C_below HR1_4.out HB.out)); (case side8 => exact HC1_4.out); (case side9 => exact zc (Kd.C_below HR1_5.out HB.out)); (case side10 => exact HC1_5.out); rintro e w42 ⟨rfl, hb⟩; refine ⟨_, rfl, ?_⟩; have n0_ := am (Kd.N_below (by exact HO_10.out) hb); have n1_ := am (Kd.R_below (by exact HO_11.out) hb); have n2_ := am (blk_below (by exact BK435.out) hb); have n4_ := am (below_step (zb2 HB GE435 GE442) hb); clear HO_10; clear HO_11; clear BK435; clear BK442; clear HB; have HO_10 := n0_; have HO_11 := n1_; have BK435 := n2_; have HB := n4_; clear n0_ n1_ n2_ n4_; (try clear hb)) | ((with_reducible refine gate_builtin (b := .append) (xs := #[.tmp 75, .tmp 77]) rfl ?_); at_builtin; refine Kd.R_append (Kd.int .i64) (w0 := w) w.heap.size rfl (.tmp 75) (.tmp 77) 53 3 (.int .i64 0) 8 rfl Tryz.underlying53 info3 rfl (by decide) (by omega) (.slice Ao22 y443.length co22) y443 (wrap64 (x14_15 + 1)) [.int .i64 (wrap64 (x14_15 + 1))] (fun k_ => (w.heap.size ≤ k_)) (fun _ => False) rfl rfl ?aP (fun _ hk => hk.elim) ?aF ?aO ?aB ?aS ?aL ?_; (case aP => exact rfl); (case aB => exact (zb2 HB GE435 GE442)); (case aF => exact (fun k_ hk => (Nat.le_trans (below_size (zb2 HB GE435 GE442)) hk))); (case aO => exact (by exact HO_11.out)); (case aS => exact (below_size (zb2 HB GE435 GE442))); (case aL => have := LMc38.out; omega); intro v450 w43 ho hb hg hat; rw [← Ny449.out] at ho; have n0_ := am (Kd.N_afterv (ok := (fun k_ => (w.heap.size ≤ k_) ∧ k_ ≠ gb435 ∧ k_ ≠ gb442)) (by exact Kd.N_mono HO_10.out (fun _ hk => ⟨⟨hk.1, ⟨hk.2.2.1, hk.2.2.2⟩⟩, hk.2.1⟩)) hg hat); have n1_ := am (blk_grown (by exact BK435.out) hg (Kd.R_ne HO_11.out BK435.out (by decide))); have n3_ := am (hb); have n4_ := am (ho); clear HO_10; clear BK435; clear HB; clear HO_11; have HO_10 := n0_; have BK435 := n1_; have HB := n3_; have HO451 := n4_; clear n0_ n1_ n3_ n4_; clear ho hb hg hat))
              go_roundg kj15
              case measure => have := HK1.out; have := HJ15.out; omega
              case rel => exact ⟨(x10_1), (y449), (wrap64 (x12_1 + 1)), zr, H', ⟨by have := HK1.out; have := HJ15.out; omega⟩, ⟨by exact Kd.N_mono HO_10.out (fun _ hk => ⟨hk.1.1, ⟨hk.2, hk.1.2.1⟩⟩)⟩, ⟨by exact HO451.out⟩, ⟨by exact BK435.out⟩, ⟨zb2 HB GE435 GE442⟩⟩
             ·rw [if_neg c38] at H
              exact absurd H (by simp)
            ·rw [if_neg c37] at H
             have c37b0 : (t447 == 2) = false := beq_eq_false_iff_ne.mpr c37
             have c37b1 : (t447 != 2) = true := bne_iff_ne.mpr c37
             replace H := Option.bind_eq_some_iff.mp H
             obtain ⟨t452, A440, H⟩ := H
             have A44 := am A440
             clear A440
             by_cases c45 : x10_1.length < 1954687338268
             ·rw [if_pos c45] at H
              have LMc45 := am c45
              clear c45
              obtain ⟨y455, hy455⟩ : ∃ y_ : List (S38), y_ = (x10_1 ++ [(⟨wrap64 (((rd_T38 l0 x12_1).f0) - x14_15), ((rd_T38 l0 x12_1).f1), ((rd_T38 l0 x12_1).f2), ((rd_T38 l0 x12_1).f3), t452⟩ : S38)]) := ⟨_, rfl⟩
              replace H : (if y443.length < 17592186044416 then (clean_Rows.l0 kj15 l0 a2 y455 (y443 ++ [x14_15]) (wrap64 (x12_1 + 1)) a1_0 a1_1 l1_2 l1_3 l1_4 l1_5 a1_6 a1_7) else (none)) = some (r1, r2) := by first | (rw [hy455]; with_reducible exact H) | (have H2_ := (Option.bind_some _ _).symm.trans H; rw [hy455]; with_reducible exact H2_) | (have H2_ := (Option.bind_some _ _).symm.trans H; with_reducible exact H2_) | with_reducible exact H | (rw [hy455]; exact H) | exact H
              have Ny455 := am hy455
              clear hy455
              by_cases c46 : y443.length < 17592186044416
              ·rw [if_pos c46] at H
               have LMc46 := am c46
               clear c46
               obtain ⟨y458, hy458⟩ : ∃ y_ : List Int, y_ = (y443 ++ [x14_15]) := ⟨_, rfl⟩
               replace H : (clean_Rows.l0 kj15 l0 a2 y455 y458 (wrap64 (x12_1 + 1)) a1_0 a1_1 l1_2 l1_3 l1_4 l1_5 a1_6 a1_7) = some (r1, r2) := by first | (rw [hy458]; with_reducible exact H) | (have H2_ := (Option.bind_some _ _).symm.trans H; rw [hy458]; with_reducible exact H2_) | (have H2_ := (Option.bind_some _ _).symm.trans H; with_reducible exact H2_) | with_reducible exact H | (rw [hy458]; exact H) | exact H
               have Ny458 := am hy458
               clear hy458
               have H' := am H
               clear H
               have hnb47 := NB442_435.out
               have hnc47 := NB435_442.out
               obtain ⟨hcz48_0, hcz48_1, hcz48_2, hcz48_3, hcz48_4, hfz48_0, hfz48_1, hfz48_2, hfz48_3, hfz48_4⟩ := cz5 BK442.out
               obtain ⟨hcz49_0, hcz49_1, hcz49_2, hcz49_3, hcz49_4, hcz49_5, hcz49_6, hcz49_7, hfz49_0, hfz49_1, hfz49_2, hfz49_3, hfz49_4, hfz49_5, hfz49_6, hfz49_7⟩ := cz8 BK435.out
               go_wp2_with (first | (go_step3) | ((with_reducible refine gate_callee (f := 34) rfl ?_); refine goesL_ (some 50) rfl rfl Tryz.func34 (by kernel_rfl) rfl #[.agg #[.int .i64 ((rd_T38 l0 x12_1).f0), .int .i64 ((rd_T38 l0 x12_1).f1), .string ((rd_T38 l0 x12_1).f2), .string ((rd_T38 l0 x12_1).f3), .slice A441_4 ((rd_T38 l0 x12_1).f4).length c441_4], .agg #[.bool a1_0, .bool a1_1, .slice A1_2 l1_2.length c1_2, .slice A1_3 l1_3.length c1_3, .slice A1_4 l1_4.length c1_4, .slice A1_5 l1_5.length c1_5, .bool a1_6, .bool a1_7], .bool a2] rfl zm ?_; (with_reducible refine (clean_becomes.calls kj15 ((rd_T38 l0 x12_1).f0) ((rd_T38 l0 x12_1).f1) ((rd_T38 l0 x12_1).f2) ((rd_T38 l0 x12_1).f3) _ _ ((rd_T38 l0 x12_1).f4) a1_0 a1_1 _ _ l1_2 _ _ l1_3 _ _ l1_4 _ _ l1_5 a1_6 a1_7 a2 t447 _ ?side1 ?side2 ?side3 ?side4 ?side5 ?side6 ?side7 ?side8 ?side9 ?side10 A30.out).mono ?_); (case side1 => exact zc (Kd.C_below HR441_4.out HB.out)); (case side2 => exact HC441_4.out); (case side3 => exact zc (Kd.C_below HR1_2.out HB.out)); (case side4 => exact HC1_2.out); (case side5 => exact zc (Kd.C_below HR1_3.out HB.out)); (case side6 => exact HC1_3.out); (case side7 => exact zc (Kd.C_below HR1_4.out HB.out)); (case side8 => exact HC1_4.out); (case side9 => exact zc (Kd.C_below HR1_5.out HB.out)); (case side10 => exact HC1_5.out); rintro e w50 ⟨rfl, hb⟩; refine ⟨_, rfl, ?_⟩; have n0_ := am (Kd.N_below (by exact HO_10.out) hb); have n1_ := am (Kd.R_below (by exact HO_11.out) hb); have n2_ := am (blk_below (by exact BK435.out) hb); have n3_ := am (blk_below (by exact BK442.out) hb); have n4_ := am (below_step (zb2 HB GE435 GE442) hb); clear HO_10; clear HO_11; clear BK435; clear BK442; clear HB; have HO_10 := n0_; have HO_11 := n1_; have BK435 := n2_; have BK442 := n3_; have HB := n4_; clear n0_ n1_ n2_ n3_ n4_; (try clear hb); obtain ⟨hcz51_0, hcz51_1, hcz51_2, hcz51_3, hcz51_4, hfz51_0, hfz51_1, hfz51_2, hfz51_3, hfz51_4⟩ := cz5 BK442.out; obtain ⟨hcz52_0, hcz52_1, hcz52_2, hcz52_3, hcz52_4, hcz52_5, hcz52_6, hcz52_7, hfz52_0, hfz52_1, hfz52_2, hfz52_3, hfz52_4, hfz52_5, hfz52_6, hfz52_7⟩ := cz8 BK435.out) | ((with_reducible refine gate_callee (f := 24) rfl ?_); refine goesL_ (some 60) rfl rfl Tryz.func24 (by kernel_rfl) rfl #[.agg #[.int .i64 (wrap64 (((rd_T38 l0 x12_1).f0) - x14_15)), .int .i64 ((rd_T38 l0 x12_1).f1), .string ((rd_T38 l0 x12_1).f2), .string ((rd_T38 l0 x12_1).f3), .slice A441_4 ((rd_T38 l0 x12_1).f4).length c441_4], .agg #[.bool a1_0, .bool a1_1, .slice A1_2 l1_2.length c1_2, .slice A1_3 l1_3.length c1_3, .slice A1_4 l1_4.length c1_4, .slice A1_5 l1_5.length c1_5, .bool a1_6, .bool a1_7], .bool a2] rfl zm ?_; (with_reducible refine (clean_Attrs.calls kj15 (wrap64 (((rd_T38 l0 x12_1).f0) - x14_15)) ((rd_T38 l0 x12_1).f1) ((rd_T38 l0 x12_1).f2) ((rd_T38 l0 x12_1).f3) _ _ ((rd_T38 l0 x12_1).f4) a1_0 a1_1 _ _ l1_2 _ _ l1_3 _ _ l1_4 _ _ l1_5 a1_6 a1_7 a2 t452 _ ?side1 ?side2 ?side3 ?side4 ?side5 ?side6 ?side7 ?side8 ?side9 ?side10 A44.out).mono ?_); (case side1 => exact Kd.C_below HR441_4.out (zb2 HB GE435 GE442)); (case side2 => exact HC441_4.out); (case side3 => exact Kd.C_below HR1_2.out (zb2 HB GE435 GE442)); (case side4 => exact HC1_2.out); (case side5 => exact Kd.C_below HR1_3.out (zb2 HB GE435 GE442)); (case side6 => exact HC1_3.out); (case side7 => exact Kd.C_below HR1_4.out (zb2 HB GE435 GE442)); (case side8 => exact HC1_4.out); (case side9 => exact Kd.C_below HR1_5.out (zb2 HB GE435 GE442)); (case side10 => exact HC1_5.out); rintro e w53 ⟨v453, rfl, ho0, hb⟩; refine ⟨_, rfl, ?_⟩; have n0_ := am (Kd.N_elder' (by exact (Kd.N_mono (Kd.N_far (p := ⟨gb442, 0, none⟩) (Kd.N_mono HO_10.out (fun k_ hk => (⟨hk, hk.2.2.2⟩ : _ ∧ k_ ≠ gb442))) (fun _ hk => hk.2) (.int .i64 (wrap64 (((rd_T38 l0 x12_1).f0) - x14_15)))) (fun _ h_ => h_.1))) (Kd.R_base ho0) hb); have n1_ := am (Kd.R_below (by exact (Kd.R_mono (Kd.R_far (p := ⟨gb442, 0, none⟩) (Kd.R_types HO_11.out BK442.out (by decide)) (fun _ hk => hk.2) (.int .i64 (wrap64 (((rd_T38 l0 x12_1).f0) - x14_15)))) (fun _ h_ => h_.1))) hb); have n2_ := am (Kd.R_lower (Kd.R_newM (M := fun k_ => (w.heap.size ≤ k_)) ho0 (below_size (zb2 HB GE435 GE442)) (fun k_ h_ => h_)) (below_size (zb2 HB GE435 GE442))); have n3_ := am (blk_below (g := gb435) (o := .cells #[.bool a1_0, .bool a1_1, .slice A1_2 l1_2.length c1_2, .slice A1_3 l1_3.length c1_3, .slice A1_4 l1_4.length c1_4, .slice A1_5 l1_5.length c1_5, .bool a1_6, .bool a1_7] 32 (0, 0)) (by refine blk_far ?_ NB435_442.out _; exact BK435.out) hb); have n4_ := am (blk_below (g := gb442) (o := .cells #[.int .i64 (wrap64 (((rd_T38 l0 x12_1).f0) - x14_15)), .int .i64 ((rd_T38 l0 x12_1).f1), .string ((rd_T38 l0 x12_1).f2), .string ((rd_T38 l0 x12_1).f3), .slice A441_4 ((rd_T38 l0 x12_1).f4).length c441_4] 38 (0, 0)) (by refine blk_put (cs := #[.int .i64 ((rd_T38 l0 x12_1).f0), .int .i64 ((rd_T38 l0 x12_1).f1), .string ((rd_T38 l0 x12_1).f2), .string ((rd_T38 l0 x12_1).f3), .slice A441_4 ((rd_T38 l0 x12_1).f4).length c441_4]) ?_ 0 _ rfl; exact BK442.out) hb); have n5_ := am (below_step (zb2 HB GE435 GE442) hb); clear HO_10; clear HO_11; clear BK435; clear BK442; clear HB; have HO_10 := n0_; have HO_11 := n1_; have HO454 := n2_; have BK435 := n3_; have BK442 := n4_; have HB := n5_; clear n0_ n1_ n2_ n3_ n4_ n5_; (try clear hb); (try clear ho0); obtain ⟨Ao54, co54, eo54⟩ := Kd.R_slice HO454.out; subst eo54; obtain ⟨hcz55_0, hcz55_1, hcz55_2, hcz55_3, hcz55_4, hfz55_0, hfz55_1, hfz55_2, hfz55_3, hfz55_4⟩ := cz5 BK442.out) | ((with_reducible refine gate_store (t := 36) (p := 61) rfl ?_); refine store_event (t := 36) (p := 61) (v := ?vo_w56) (w1 := (w53.setCell ⟨gb442, 4, none⟩ (.slice Ao54 t452.length co54))) ?hg ?ho ?hn ?hr ?_; (case ho => rfl); (case hg => rfl); (case hn => rfl); (case hr => first | (go_simp; done) | (go_simp; rfl)); intro w56 hw; have n0_ : Aside0 (Kd.N k38 38 w56 w.heap.size (fun k_ => (w.heap.size ≤ k_) ∧ some k_ ≠ (.slice Ao22 y443.length co22 : Value).ownBlock ∧ some k_ ≠ (.slice Ao54 t452.length co54 : Value).ownBlock ∧ k_ ≠ gb435 ∧ k_ ≠ gb442) u10 x10_1) := ⟨(by rw [hw]; exact (by exact Kd.N_mono (Kd.N_far (p := ⟨gb442, 4, none⟩) (Kd.N_mono HO_10.out (fun k_ hk => (⟨hk, hk.1.2.2.2⟩ : _ ∧ k_ ≠ gb442))) (fun _ hk => hk.2) (.slice Ao54 t452.length co54)) (fun _ hk => ⟨hk.1.1.1, ⟨hk.1.1.2.1, ⟨hk.1.2, ⟨hk.1.1.2.2.1, hk.1.1.2.2.2⟩⟩⟩⟩)))⟩; have n1_ : Aside0 (Kd.R (Kd.int .i64) 3 w56 w.heap.size (fun k_ => (w.heap.size ≤ k_)) (.slice Ao22 y443.length co22) y443) := ⟨(by rw [hw]; exact (by exact Kd.R_mono (Kd.R_far (p := ⟨gb442, 4, none⟩) (Kd.R_types HO_11.out BK442.out (by decide)) (fun _ hk => hk.2) (.slice Ao54 t452.length co54)) (fun _ hk => hk.1)))⟩; have n2_ : Aside0 (Kd.R k45 45 w56 w.heap.size (fun k_ => (w.heap.size ≤ k_)) (.slice Ao54 t452.length co54) t452) := ⟨(by rw [hw]; exact (by exact Kd.R_mono (Kd.R_far (p := ⟨gb442, 4, none⟩) (Kd.R_types HO454.out BK442.out (by decide)) (fun _ hk => hk.2) (.slice Ao54 t452.length co54)) (fun _ hk => hk.1.1)))⟩; have n3_ : Aside0 (w56.heap[gb435]? = some (.cells #[.bool a1_0, .bool a1_1, .slice A1_2 l1_2.length c1_2, .slice A1_3 l1_3.length c1_3, .slice A1_4 l1_4.length c1_4, .slice A1_5 l1_5.length c1_5, .bool a1_6, .bool a1_7] 32 (0, 0))) := ⟨(by rw [hw]; exact (by refine blk_far ?_ NB435_442.out _; exact BK435.out))⟩; have n4_ : Aside0 (w56.heap[gb442]? = some (.cells #[.int .i64 (wrap64 (((rd_T38 l0 x12_1).f0) - x14_15)), .int .i64 ((rd_T38 l0 x12_1).f1), .string ((rd_T38 l0 x12_1).f2), .string ((rd_T38 l0 x12_1).f3), .slice Ao54 t452.length co54] 38 (0, 0))) := ⟨(by rw [hw]; exact (by refine blk_put (cs := #[.int .i64 (wrap64 (((rd_T38 l0 x12_1).f0) - x14_15)), .int .i64 ((rd_T38 l0 x12_1).f1), .string ((rd_T38 l0 x12_1).f2), .string ((rd_T38 l0 x12_1).f3), .slice A441_4 ((rd_T38 l0 x12_1).f4).length c441_4]) ?_ 4 _ rfl; exact BK442.out))⟩; have n5_ : Aside0 (Below w.heap.size w w56) := ⟨(by rw [hw]; exact (zb2 HB GE435 GE442))⟩; clear hw; clear HO_10; clear HO_11; clear HO454; clear BK435; clear BK442; clear HB; have HO_10 := n0_; have HO_11 := n1_; have HO454 := n2_; have BK435 := n3_; have BK442 := n4_; have HB := n5_; clear n0_ n1_ n2_ n3_ n4_ n5_; obtain ⟨hcz57_0, hcz57_1, hcz57_2, hcz57_3, hcz57_4, hfz57_0, hfz57_1, hfz57_2, hfz57_3, hfz57_4⟩ := cz5 BK442.out) | ((with_reducible refine gate_builtin (b := .append) (xs := #[.tmp 62, .tmp 64]) rfl ?_); at_builtin; refine Kd.N_append k38 (w0 := w) w.heap.size rfl (.tmp 62) (.tmp 64) 22 38 (.agg #[(.int .i64 0), (.int .i64 0), (.string ⟨#[]⟩), (.string ⟨#[]⟩), (.slice none 0 0)]) 72 rfl Tryz.underlying22 info38 rfl (by decide) (by omega) u10 x10_1 (⟨wrap64 (((rd_T38 l0 x12_1).f0) - x14_15), ((rd_T38 l0 x12_1).f1), ((rd_T38 l0 x12_1).f2), ((rd_T38 l0 x12_1).f3), t452⟩ : S38) [.int .i64 (wrap64 (((rd_T38 l0 x12_1).f0) - x14_15)), .int .i64 ((rd_T38 l0 x12_1).f1), .string ((rd_T38 l0 x12_1).f2), .string ((rd_T38 l0 x12_1).f3), .slice Ao54 t452.length co54] (fun k_ => (w.heap.size ≤ k_) ∧ some k_ ≠ (.slice Ao22 y443.length co22 : Value).ownBlock ∧ k_ ≠ gb435 ∧ k_ ≠ gb442) (fun k_ => ((fun k_ => (w.heap.size ≤ k_) ∧ some k_ ≠ (.slice Ao22 y443.length co22 : Value).ownBlock ∧ k_ ≠ gb435 ∧ k_ ≠ gb442)) k_ ∧ some k_ ≠ (u10 : Value).ownBlock) rfl rfl ?aP (fun _ hk => hk) ?aF ?aO ?aB ?aS ?aL ?_; (case aP => exact (k38_mkF _ _ (⟨wrap64 (((rd_T38 l0 x12_1).f0) - x14_15), ((rd_T38 l0 x12_1).f1), ((rd_T38 l0 x12_1).f2), ((rd_T38 l0 x12_1).f3), t452⟩ : S38) (Kd.R_reads' (Kd.R_mono (ok' := (fun k_ => ((fun k_ => (w.heap.size ≤ k_) ∧ some k_ ≠ (.slice Ao22 y443.length co22 : Value).ownBlock ∧ k_ ≠ gb435 ∧ k_ ≠ gb442)) k_ ∧ some k_ ≠ (u10 : Value).ownBlock)) (Kd.R_types (Kd.R_types (Kd.R_apart' (Kd.R_apart' (HO454.out) (Kd.R_typed HO_11.out) (by decide)) (Kd.N_typed HO_10.out) (by decide)) BK435.out (by decide)) BK442.out (by decide)) (fun k_ hk => ⟨⟨hk.1.1.1.1, ⟨hk.1.1.1.2, ⟨hk.1.2, hk.2⟩⟩⟩, hk.1.1.2⟩))).2.1 (Kd.R_F (Kd.R_mono (ok' := (fun k_ => ((fun k_ => (w.heap.size ≤ k_) ∧ some k_ ≠ (.slice Ao22 y443.length co22 : Value).ownBlock ∧ k_ ≠ gb435 ∧ k_ ≠ gb442)) k_ ∧ some k_ ≠ (u10 : Value).ownBlock)) (Kd.R_types (Kd.R_types (Kd.R_apart' (Kd.R_apart' (HO454.out) (Kd.R_typed HO_11.out) (by decide)) (Kd.N_typed HO_10.out) (by decide)) BK435.out (by decide)) BK442.out (by decide)) (fun k_ hk => ⟨⟨hk.1.1.1.1, ⟨hk.1.1.1.2, ⟨hk.1.2, hk.2⟩⟩⟩, hk.1.1.2⟩))))); (case aB => exact (zb2 HB GE435 GE442)); (case aF => exact (fun k_ hk => ⟨(Nat.le_trans (below_size (zb2 HB GE435 GE442)) hk), Kd.fresh' (Kd.R_lt (by exact HO_11.out)) k_ hk, Kd.freshB (by exact BK435.out) k_ hk, Kd.freshB (by exact BK442.out) k_ hk⟩)); (case aO => exact (by exact Kd.N_mono HO_10.out (fun _ hk => ⟨hk.1, ⟨hk.2.1, ⟨hk.2.2.2.1, hk.2.2.2.2⟩⟩⟩))); (case aS => exact (below_size (zb2 HB GE435 GE442))); (case aL => have := LMc45.out; omega); intro v456 w58 ho hb hg hat; rw [← Ny455.out] at ho; have n0_ := am (Kd.R_over' (by exact HO_11.out) (Kd.N_typed (by exact HO_10.out)) (by decide) hg); have n1_ := am (blk_grown (by exact BK435.out) hg (Kd.N_ne HO_10.out BK435.out (by decide))); have n3_ := am (hb); have n4_ := am (ho); clear HO_11; clear BK435; clear BK442; clear HB; clear HO_10; clear HO454; have HO_11 := n0_; have BK435 := n1_; have HB := n3_; have HO457 := n4_; clear n0_ n1_ n3_ n4_; clear ho hb hg hat) | ((with_reducible refine gate_builtin (b := .append) (xs := #[.tmp 75, .tmp 77]) rfl ?_); at_builtin; refine Kd.R_append (Kd.int .i64) (w0 := w) w.heap.size rfl (.tmp 75) (.tmp 77) 53 3 (.int .i64 0) 8 rfl Tryz.underlying53 info3 rfl (by decide) (by omega) (.slice Ao22 y443.length co22) y443 x14_15 [.int .i64 x14_15] (fun k_ => (w.heap.size ≤ k_)) (fun _ => False) rfl rfl ?aP (fun _ hk => hk.elim) ?aF ?aO ?aB ?aS ?aL ?_; (case aP => exact rfl); (case aB => exact (zb2 HB GE435 GE442)); (case aF => exact (fun k_ hk => (Nat.le_trans (below_size (zb2 HB GE435 GE442)) hk))); (case aO => exact (by exact HO_11.out)); (case aS => exact (below_size (zb2 HB GE435 GE442))); (case aL => have := LMc46.out; omega); intro v459 w59 ho hb hg hat; rw [← Ny458.out] at ho; have n0_ := am (blk_grown (by exact BK435.out) hg (Kd.R_ne HO_11.out BK435.out (by decide))); have n2_ := am (Kd.N_afterv (ok := (fun k_ => (w.heap.size ≤ k_) ∧ k_ ≠ gb435 ∧ k_ ≠ gb442)) (by exact Kd.N_mono HO457.out (fun _ hk => ⟨⟨hk.1, ⟨hk.2.2.1, hk.2.2.2⟩⟩, hk.2.1⟩)) hg hat); have n3_ := am (hb); have n4_ := am (ho); clear BK435; clear HO457; clear HB; clear HO_11; have BK435 := n0_; have HO457 := n2_; have HB := n3_; have HO460 := n4_; clear n0_ n2_ n3_ n4_; clear ho hb hg hat))
               go_roundg kj15
               case measure => have := HK1.out; have := HJ15.out; omega
               case rel => exact ⟨(y455), (y458), (wrap64 (x12_1 + 1)), zr, H', ⟨by have := HK1.out; have := HJ15.out; omega⟩, ⟨by exact Kd.N_mono HO457.out (fun _ hk => ⟨hk.1.1, ⟨hk.2, hk.1.2.1⟩⟩)⟩, ⟨by exact HO460.out⟩, ⟨by exact BK435.out⟩, ⟨zb2 HB GE435 GE442⟩⟩
              ·rw [if_neg c46] at H
               exact absurd H (by simp)
             ·rw [if_neg c45] at H
              exact absurd H (by simp)
        ·rw [if_neg c15] at H
         exact absurd H (by simp)
       ·rw [if_neg c14] at H
        exact absurd H (by simp)
      ·rw [if_neg c13] at H
       exact absurd H (by simp)
     ·rw [if_neg c12] at H
      have c12b0 : decide (x12_1 < (l0.length : Int)) = false := decide_eq_false c12
      clear c12
      replace H := Option.bind_eq_some_iff.mp H
      obtain ⟨t438, A600, H⟩ := H
      replace H : (some (t438, 0)) = some (r1, r2) := H
      have A60 := am A600
      clear A600
      simp only [Option.some.injEq, Prod.mk.injEq] at H
      obtain ⟨rfl, rfl⟩ := H
      obtain ⟨Ao61, co61, eo61⟩ := Kd.N_slice HO_10.out
      subst eo61
      go_wp2_with (first | (go_step3) | ((with_reducible refine gate_callee (f := 36) rfl ?_); refine goesL_ (some 82) rfl rfl Tryz.func36 (by kernel_rfl) rfl #[.slice Ao61 x10_1.length co61] rfl zm ?_; (with_reducible refine (rows_Normal.calls k1 _ _ x10_1 t438 _ ?side1 ?side2 A60.out).mono ?_); (case side1 => exact zc (Kd.N_reads' HO_10.out).2.2); (case side2 => exact (Kd.N_reads' HO_10.out).2.1); rintro e w62 ⟨v439, rfl, ho0, hb⟩; refine ⟨_, rfl, ?_⟩; have n2_ := am (Kd.N_lower (Kd.N_mono (ok' := fun k_ => (w.heap.size ≤ k_) ∧ some k_ ≠ (.slice Ao61 x10_1.length co61 : Value).ownBlock ∧ some k_ ≠ (u11 : Value).ownBlock ∧ k_ ≠ gb435) ho0 (fun k_ hk_ => ⟨(Nat.le_trans (below_size (zb1 HB GE435)) hk_), (Kd.fresh' (Kd.N_lt (by exact HO_10.out)) k_ hk_), (Kd.fresh' (Kd.R_lt (by exact HO_11.out)) k_ hk_), (Kd.freshB (by exact BK435.out) k_ hk_)⟩)) (below_size (zb1 HB GE435))); have n4_ := am (below_step (zb1 HB GE435) hb); clear HO_10; clear HO_11; clear BK435; clear HB; have HO440 := n2_; have HB := n4_; clear n2_ n4_; (try clear hb); (try clear ho0)))
      (try rw [Exit.noGoto_ret]); go_ret2
      exact ⟨_, ze, by exact Kd.N_mono HO440.out (fun _ hk => hk.1), zb1 HB GE435⟩
  ·rw [if_neg c7] at H
   have c7b0 : (t437 == 0) = false := beq_eq_false_iff_ne.mpr c7
   have c7b1 : (t437 != 0) = true := bne_iff_ne.mpr c7
   simp only [Option.some.injEq, Prod.mk.injEq] at H
   obtain ⟨rfl, rfl⟩ := H
   go_enter Tryz.func14, Tryz.ntmps14
   go_wp2_with (first | (go_step3) | ((with_reducible refine gate_dst (N := 4) rfl ?_); refine box_event ?hg (N := 4) ?hd (cs := #[.bool a1_0, .bool a1_1, .slice A1_2 l1_2.length c1_2, .slice A1_3 l1_3.length c1_3, .slice A1_4 l1_4.length c1_4, .slice A1_5 l1_5.length c1_5, .bool a1_6, .bool a1_7]) (t := 32) ?hr ?_; (case hd => rfl); (case hg => rfl); (case hr => first | (go_simp; done) | (go_simp; rfl)); intro gb435 hg w63 hbox hb; have n0_ := am (below_step (zb HB) hb); have n1_ := am (hbox); have n3_ := am ((by rw [hg]; exact (below_size (zb HB)) : w.heap.size ≤ gb435)); clear HB; have HB := n0_; have BK435 := n1_; have GE435 := n3_; clear n0_ n1_ n3_; clear hb hbox hg; obtain ⟨hcz64_0, hcz64_1, hcz64_2, hcz64_3, hcz64_4, hcz64_5, hcz64_6, hcz64_7, hfz64_0, hfz64_1, hfz64_2, hfz64_3, hfz64_4, hfz64_5, hfz64_6, hfz64_7⟩ := cz8 BK435.out) | ((with_reducible refine gate_callee (f := 32) rfl ?_); refine goesL_ (some 17) rfl rfl Tryz.func32 (by kernel_rfl) rfl #[.agg #[.bool a1_0, .bool a1_1, .slice A1_2 l1_2.length c1_2, .slice A1_3 l1_3.length c1_3, .slice A1_4 l1_4.length c1_4, .slice A1_5 l1_5.length c1_5, .bool a1_6, .bool a1_7]] rfl zm ?_; (with_reducible refine (config_Check.calls a1_0 a1_1 _ _ l1_2 _ _ l1_3 _ _ l1_4 _ _ l1_5 a1_6 a1_7 t436 _ ?side1 ?side2 ?side3 ?side4 ?side5 ?side6 ?side7 ?side8 A4.out).mono ?_); (case side1 => exact zc (Kd.C_below HR1_2.out HB.out)); (case side2 => exact HC1_2.out); (case side3 => exact zc (Kd.C_below HR1_3.out HB.out)); (case side4 => exact HC1_3.out); (case side5 => exact zc (Kd.C_below HR1_4.out HB.out)); (case side6 => exact HC1_4.out); (case side7 => exact zc (Kd.C_below HR1_5.out HB.out)); (case side8 => exact HC1_5.out); rintro e w65 ⟨rfl, hb⟩; refine ⟨_, rfl, ?_⟩; have n1_ := am (below_step (zb1 HB GE435) hb); clear BK435; clear HB; have HB := n1_; clear n1_; (try clear hb)) | ((with_reducible refine gate_callee (f := 33) rfl ?_); refine goesL_ (some 22) rfl rfl Tryz.func33 (by kernel_rfl) rfl #[.slice A0 l0.length c0] rfl zm ?_; (with_reducible refine (rows_Check.calls k _ _ l0 t437 _ ?side1 ?side2 A6.out).mono ?_); (case side1 => exact zc (Kd.C_below HR0.out HB.out)); (case side2 => exact HC0.out); rintro e w66 ⟨rfl, hb⟩; refine ⟨_, rfl, ?_⟩; have n1_ := am (below_step (zb1 HB GE435) hb); clear HB; have HB := n1_; clear n1_; (try clear hb)))
   (try rw [Exit.noGoto_ret]); go_ret2
   exact ⟨.slice none 0 0, ze, by first | exact Kd.S_nil _ _ _ _ _ | exact Kd.N_nil _ _ _ _ _ | exact Kd.V_nil _ _ _ _ _ | exact Kd.Q_nil _ _ _ _ _ | exact Kd.R_nil _ _ _ _ _, zb1 HB GE435⟩
 ·rw [if_neg c5] at H
  have c5b0 : (t436 == 0) = false := beq_eq_false_iff_ne.mpr c5
  have c5b1 : (t436 != 0) = true := bne_iff_ne.mpr c5
  simp only [Option.some.injEq, Prod.mk.injEq] at H
  obtain ⟨rfl, rfl⟩ := H
  go_enter Tryz.func14, Tryz.ntmps14
  go_wp2_with (first | (go_step3) | ((with_reducible refine gate_dst (N := 4) rfl ?_); refine box_event ?hg (N := 4) ?hd (cs := #[.bool a1_0, .bool a1_1, .slice A1_2 l1_2.length c1_2, .slice A1_3 l1_3.length c1_3, .slice A1_4 l1_4.length c1_4, .slice A1_5 l1_5.length c1_5, .bool a1_6, .bool a1_7]) (t := 32) ?hr ?_; (case hd => rfl); (case hg => rfl); (case hr => first | (go_simp; done) | (go_simp; rfl)); intro gb435 hg w67 hbox hb; have n0_ := am (below_step (zb HB) hb); have n1_ := am (hbox); have n3_ := am ((by rw [hg]; exact (below_size (zb HB)) : w.heap.size ≤ gb435)); clear HB; have HB := n0_; have BK435 := n1_; have GE435 := n3_; clear n0_ n1_ n3_; clear hb hbox hg; obtain ⟨hcz68_0, hcz68_1, hcz68_2, hcz68_3, hcz68_4, hcz68_5, hcz68_6, hcz68_7, hfz68_0, hfz68_1, hfz68_2, hfz68_3, hfz68_4, hfz68_5, hfz68_6, hfz68_7⟩ := cz8 BK435.out) | ((with_reducible refine gate_callee (f := 32) rfl ?_); refine goesL_ (some 17) rfl rfl Tryz.func32 (by kernel_rfl) rfl #[.agg #[.bool a1_0, .bool a1_1, .slice A1_2 l1_2.length c1_2, .slice A1_3 l1_3.length c1_3, .slice A1_4 l1_4.length c1_4, .slice A1_5 l1_5.length c1_5, .bool a1_6, .bool a1_7]] rfl zm ?_; (with_reducible refine (config_Check.calls a1_0 a1_1 _ _ l1_2 _ _ l1_3 _ _ l1_4 _ _ l1_5 a1_6 a1_7 t436 _ ?side1 ?side2 ?side3 ?side4 ?side5 ?side6 ?side7 ?side8 A4.out).mono ?_); (case side1 => exact zc (Kd.C_below HR1_2.out HB.out)); (case side2 => exact HC1_2.out); (case side3 => exact zc (Kd.C_below HR1_3.out HB.out)); (case side4 => exact HC1_3.out); (case side5 => exact zc (Kd.C_below HR1_4.out HB.out)); (case side6 => exact HC1_4.out); (case side7 => exact zc (Kd.C_below HR1_5.out HB.out)); (case side8 => exact HC1_5.out); rintro e w69 ⟨rfl, hb⟩; refine ⟨_, rfl, ?_⟩; have n1_ := am (below_step (zb1 HB GE435) hb); clear BK435; clear HB; have HB := n1_; clear n1_; (try clear hb)))
  (try rw [Exit.noGoto_ret]); go_ret2
  exact ⟨.slice none 0 0, ze, by first | exact Kd.S_nil _ _ _ _ _ | exact Kd.N_nil _ _ _ _ _ | exact Kd.V_nil _ _ _ _ _ | exact Kd.Q_nil _ _ _ _ _ | exact Kd.R_nil _ _ _ _ _, zb1 HB GE435⟩

def boltingref04_Attrs.l0 : Nat → List (S45) → List (S45) → Int → Option (Bool)
 | 0, _, _, _ => none
 | k + 1, x0, x1, x5 => if x5 < (x0.length : Int) then (if 0 ≤ x5 then (if x5 < (x1.length : Int) then (if (!((((rd_T45 x0 x5).f0).toList) == (((rd_T45 x1 x5).f0).toList)) || (!((((rd_T45 x0 x5).f1).toList) == (((rd_T45 x1 x5).f1).toList)))) = true then (some false) else (boltingref04_Attrs.l0 k x0 x1 (wrap64 (x5 + 1)))) else (none)) else (none)) else (some true)
def boltingref04_Attrs.f (k : Nat) (l0 : List (S45)) (l1 : List (S45)) : Option (Bool) := if (l0.length : Int) = (l1.length : Int) then (boltingref04_Attrs.l0 k l0 l1 0) else (some false)
theorem boltingref04_Attrs.mono_l : ∀ k, (∀ y0 y1 y2, LeO (boltingref04_Attrs.l0 k y0 y1 y2) (boltingref04_Attrs.l0 (k + 1) y0 y1 y2))
 | 0 => fun _ _ _ r h => by simp [boltingref04_Attrs.l0] at h
 | k + 1 => by
  have ih0 := boltingref04_Attrs.mono_l k
  ·intro y0 y1 y2
   unfold boltingref04_Attrs.l0
   repeat' first
   | (with_reducible exact ih0 _ _ _)
   | (with_reducible exact LeO.refl _)
   | (with_reducible exact LeO.none _)
   | (with_reducible refine LeO.ite ?_ ?_)
   | (with_reducible refine LeO.bind ?_ (fun _ => ?_))
   | exact ih0 _ _ _
   | exact LeO.none _
   | refine LeO.ite ?_ ?_
   | refine LeO.bind ?_ (fun _ => ?_)
theorem boltingref04_Attrs.mono : ∀ a0 a1 k, LeO (boltingref04_Attrs.f k a0 a1) (boltingref04_Attrs.f (k + 1) a0 a1) := by
 intro a0 a1 k
 have ih0 := boltingref04_Attrs.mono_l k
 unfold boltingref04_Attrs.f
 repeat' first
   | (with_reducible exact ih0 _ _ _)
   | (with_reducible exact LeO.refl _)
   | (with_reducible exact LeO.none _)
   | (with_reducible refine LeO.ite ?_ ?_)
   | (with_reducible refine LeO.bind ?_ (fun _ => ?_))
   | exact ih0 _ _ _
   | exact LeO.none _
   | refine LeO.ite ?_ ?_
   | refine LeO.bind ?_ (fun _ => ?_)
set_option maxHeartbeats 8000000 in
set_option maxRecDepth 100000 in
theorem boltingref04_Attrs.calls (k : Nat) (A0 : Option Addr) (c0 : Nat) (l0 : List (S45)) (A1 : Option Addr) (c1 : Nat) (l1 : List (S45)) (r : Bool) (w : World) (hr0 : Kd.C k45 w A0 l0.length l0) (hc0 : l0.length ≤ c0) (hr1 : Kd.C k45 w A1 l1.length l1) (hc1 : l1.length ≤ c1) (h : boltingref04_Attrs.f k l0 l1 = some r) :
  Calls Tryz.prog 23 #[.slice A0 l0.length c0, .slice A1 l1.length c1] w fun e w' => e = .returned (.bool r) ∧ Drawn0 w w' := by
 have hu45 := Tryz.underlying45
 have HR0 := am hr0
 have HC0 := am hc0
 clear hr0 hc0
 have HR1 := am hr1
 have HC1 := am hc1
 clear hr1 hc1
 have H : (if (l0.length : Int) = (l1.length : Int) then (boltingref04_Attrs.l0 k l0 l1 0) else (some false)) = some r := h
 clear h
 by_cases c3 : (l0.length : Int) = (l1.length : Int)
 ·rw [if_pos c3] at H
  have c3b0 : ((l0.length : Int) == (l1.length : Int)) = true := beq_iff_eq.mpr c3
  have c3b1 : ((l0.length : Int) != (l1.length : Int)) = false := bne_eq_false_iff_eq.mpr c3
  have c3b2 : (l0.length == l1.length) = true := by first | simpa using c3 | (simp at c3 ⊢; omega)
  clear c3
  have H' := am H
  clear H
  go_enter Tryz.func23, Tryz.ntmps23
  go_wp2
  repeat (go_quiet (fail); try go_wp2)
  go_loopg [5] k (fun kq v5 w' => ∃ (x5_1 : Int), v5 = .int .i64 x5_1 ∧ Aside0 (boltingref04_Attrs.l0 kq l0 l1 x5_1 = some r) ∧ Aside0 (kq ≤ k) ∧ Drawn0 w w')
  case atStart => exact ⟨(0), zr, H', ⟨Nat.le_refl _⟩, zw⟩
  case round =>
   clear H'
   try clear c1
   try clear c2
   try clear p2
   try clear c3
   try clear c3b0
   try clear c3b1
   try clear c3b2
   obtain ⟨x5_1, rfl, HA, HK1, ⟨m1, rfl⟩⟩ := hrel
   cases gk with
   | zero => exact absurd HA.out (by simp [boltingref04_Attrs.l0])
   | succ k1 =>
    have H := HA.out
    clear HA
    simp only [boltingref04_Attrs.l0] at H
    by_cases c4 : x5_1 < (l0.length : Int)
    ·rw [if_pos c4] at H
     have c4b0 : decide (x5_1 < (l0.length : Int)) = true := decide_eq_true c4
     clear c4
     by_cases c5 : 0 ≤ x5_1
     ·rw [if_pos c5] at H
      have c5b0 : decide (0 ≤ x5_1) = true := decide_eq_true c5
      clear c5
      by_cases c6 : x5_1 < (l1.length : Int)
      ·rw [if_pos c6] at H
       have c6b0 : decide (x5_1 < (l1.length : Int)) = true := decide_eq_true c6
       clear c6
       by_cases c7 : (!((((rd_T45 l0 x5_1).f0).toList) == (((rd_T45 l1 x5_1).f0).toList)) || (!((((rd_T45 l0 x5_1).f1).toList) == (((rd_T45 l1 x5_1).f1).toList)))) = true
       ·rw [if_pos c7] at H
        have c7b0 : (!((((rd_T45 l0 x5_1).f0).toList) == (((rd_T45 l1 x5_1).f0).toList)) || (!((((rd_T45 l0 x5_1).f1).toList) == (((rd_T45 l1 x5_1).f1).toList)))) = true := c7
        clear c7
        obtain rfl := Option.some.inj H
        have p461 : 0 ≤ (x5_1 : Int) := of_decide_eq_true za
        have q461 : x5_1 < (l0.length : Int) := of_decide_eq_true za
        obtain ⟨ad461, e461, hx461_0, hx461_1⟩ := at_T45 HR0.out x5_1 p461 q461
        cases e461
        replace p461 := eq_true p461
        replace q461 := eq_true q461
        have p462 : 0 ≤ (x5_1 : Int) := of_decide_eq_true za
        have q462 : x5_1 < (l1.length : Int) := of_decide_eq_true za
        obtain ⟨ad462, e462, hx462_0, hx462_1⟩ := at_T45 HR1.out x5_1 p462 q462
        cases e462
        replace p462 := eq_true p462
        replace q462 := eq_true q462
        go_wp2
        repeat (go_quiet (fail); try go_wp2)
        go_ret
        exact ⟨zt, zw⟩
       ·rw [if_neg c7] at H
        have c7b0 : (!((((rd_T45 l0 x5_1).f0).toList) == (((rd_T45 l1 x5_1).f0).toList)) || (!((((rd_T45 l0 x5_1).f1).toList) == (((rd_T45 l1 x5_1).f1).toList)))) = false := by simpa using c7
        clear c7
        have H' := am H
        clear H
        have p461 : 0 ≤ (x5_1 : Int) := of_decide_eq_true za
        have q461 : x5_1 < (l0.length : Int) := of_decide_eq_true za
        obtain ⟨ad461, e461, hx461_0, hx461_1⟩ := at_T45 HR0.out x5_1 p461 q461
        cases e461
        replace p461 := eq_true p461
        replace q461 := eq_true q461
        have p462 : 0 ≤ (x5_1 : Int) := of_decide_eq_true za
        have q462 : x5_1 < (l1.length : Int) := of_decide_eq_true za
        obtain ⟨ad462, e462, hx462_0, hx462_1⟩ := at_T45 HR1.out x5_1 p462 q462
        cases e462
        replace p462 := eq_true p462
        replace q462 := eq_true q462
        go_wp2
        repeat (go_quiet (fail); try go_wp2)
        go_roundg k1
        case measure => have := HK1.out; omega
        case rel => exact ⟨(wrap64 (x5_1 + 1)), zr, H', ⟨by have := HK1.out; omega⟩, zw⟩
      ·rw [if_neg c6] at H
       exact absurd H (by simp)
     ·rw [if_neg c5] at H
      exact absurd H (by simp)
    ·rw [if_neg c4] at H
     have c4b0 : decide (x5_1 < (l0.length : Int)) = false := decide_eq_false c4
     clear c4
     obtain rfl := Option.some.inj H
     go_wp2
     repeat (go_quiet (fail); try go_wp2)
     go_ret
     exact ⟨zt, zw⟩
 ·rw [if_neg c3] at H
  have c3b0 : ((l0.length : Int) == (l1.length : Int)) = false := beq_eq_false_iff_ne.mpr c3
  have c3b1 : ((l0.length : Int) != (l1.length : Int)) = true := bne_iff_ne.mpr c3
  have c3b2 : (l0.length == l1.length) = false := by first | simpa using c3 | (simp at c3 ⊢; omega)
  obtain rfl := Option.some.inj H
  go_enter Tryz.func23, Tryz.ntmps23
  go_wp2
  repeat (go_quiet (fail); try go_wp2)
  go_ret
  exact ⟨zt, zw⟩

end Go.Proofs.YticacakoefojbaaGreat.Pr
namespace Go.Proofs.YticacakoefojbaaGreat.Pr
open Go.RowKit Go.Proofs.YticacakoefojbaaGreatW.PrintWords Go.Proofs.YticacakoefojbaaGreatW.PrintLast Go.Proofs.YticacakoefojbaaGreatW.PrintMore
abbrev tf (n m : Nat) : Array Bool := ⟨List.replicate n true ++ List.replicate m false⟩
section
variable {α : Type} {d : Kd α} {e : Nat} {w : World} {base : Nat} {ok : Nat → Prop} {v : Value} {xs : List α}
end
end Go.Proofs.YticacakoefojbaaGreat.Pr
