/- Texts under the row of ConfigKeeps (part 2).. -/
import Derived.Test.YtjofofpplpmgjaaJConfigKeeps1
import Derived.Laws.Cover1
-- SLIMMED
namespace Go.Proofs.Ytjofofpplpmgjaa.Pr
open Go.RowKit Go.Proofs.YtjofofpplpmgjaaW.PrintWords Go.Proofs.YtjofofpplpmgjaaW.PrintLast Go.Proofs.YtjofofpplpmgjaaW.PrintMore
attribute [local go_sem] max2_int min2_int max_two min_two max_three min_three max_four min_four   -- for this text's walks alone
set_option linter.unusedVariables false
set_option linter.unusedSimpArgs false

/-! ### boltingref12_Same: function 24 -/
def boltingref12_Same.l0 : Nat → Int → Bool → Bool → List ByteArray → List ByteArray → List ByteArray → List (S35) → Bool → Bool → Bool → Bool → List ByteArray → List ByteArray → List ByteArray → List (S35) → Bool → Bool → Option (Bool)
 | 0, _, _, _, _, _, _, _, _, _, _, _, _, _, _, _, _, _ => none
 | k + 1, x5, x176000, x176001, x176002, x176003, x176004, x176005, x176006, x176007, x177000, x177001, x177002, x177003, x177004, x177005, x177006, x177007 => if x5 < (x176005.length : Int) then (if 0 ≤ x5 then (if x5 < (x177005.length : Int) then (if ((rd_T35 x176005 x5).f0).toList = ((rd_T35 x177005 x5).f0).toList then ((boltingref02_Equal.f k ((rd_T35 x176005 x5).f1) ((rd_T35 x177005 x5).f1)).bind fun t181 => (if t181 = true then (boltingref12_Same.l0 k (wrap64 (x5 + 1)) x176000 x176001 x176002 x176003 x176004 x176005 x176006 x176007 x177000 x177001 x177002 x177003 x177004 x177005 x177006 x177007) else (some false))) else (some false)) else (none)) else (none)) else (if (x176000 == x177000) = true then (if (x176001 == x177001) = true then (if (x176006 == x177006) = true then (if (x176007 == x177007) = true then ((boltingref02_Equal.f k x176002 x177002).bind fun t182 => (if t182 = true then ((boltingref02_Equal.f k x176003 x177003).bind fun t183 => (if t183 = true then ((boltingref02_Equal.f k x176004 x177004).bind fun t184 => (some t184)) else (some false))) else (some false))) else (some false)) else (some false)) else (some false)) else (some false))
def boltingref12_Same.f (k : Nat) (a0_0 : Bool) (a0_1 : Bool) (l0_2 : List ByteArray) (l0_3 : List ByteArray) (l0_4 : List ByteArray) (l0_5 : List (S35)) (a0_6 : Bool) (a0_7 : Bool) (a1_0 : Bool) (a1_1 : Bool) (l1_2 : List ByteArray) (l1_3 : List ByteArray) (l1_4 : List ByteArray) (l1_5 : List (S35)) (a1_6 : Bool) (a1_7 : Bool) : Option (Bool) := if (l0_5.length : Int) = (l1_5.length : Int) then (boltingref12_Same.l0 k 0 a0_0 a0_1 l0_2 l0_3 l0_4 l0_5 a0_6 a0_7 a1_0 a1_1 l1_2 l1_3 l1_4 l1_5 a1_6 a1_7) else (some false)
set_option maxHeartbeats 8000000 in
set_option maxRecDepth 100000 in
theorem boltingref12_Same.calls (k : Nat) (a0_0 : Bool) (a0_1 : Bool) (A0_2 : Option Addr) (c0_2 : Nat) (l0_2 : List ByteArray) (A0_3 : Option Addr) (c0_3 : Nat) (l0_3 : List ByteArray) (A0_4 : Option Addr) (c0_4 : Nat) (l0_4 : List ByteArray) (A0_5 : Option Addr) (c0_5 : Nat) (l0_5 : List (S35)) (a0_6 : Bool) (a0_7 : Bool) (a1_0 : Bool) (a1_1 : Bool) (A1_2 : Option Addr) (c1_2 : Nat) (l1_2 : List ByteArray) (A1_3 : Option Addr) (c1_3 : Nat) (l1_3 : List ByteArray) (A1_4 : Option Addr) (c1_4 : Nat) (l1_4 : List ByteArray) (A1_5 : Option Addr) (c1_5 : Nat) (l1_5 : List (S35)) (a1_6 : Bool) (a1_7 : Bool) (r : Bool) (w : World) (hr0_2 : Kd.C Kd.string w A0_2 l0_2.length l0_2) (hc0_2 : l0_2.length ≤ c0_2) (hr0_3 : Kd.C Kd.string w A0_3 l0_3.length l0_3) (hc0_3 : l0_3.length ≤ c0_3) (hr0_4 : Kd.C Kd.string w A0_4 l0_4.length l0_4) (hc0_4 : l0_4.length ≤ c0_4) (hr0_5 : Kd.C k35 w A0_5 l0_5.length l0_5) (hc0_5 : l0_5.length ≤ c0_5) (hr1_2 : Kd.C Kd.string w A1_2 l1_2.length l1_2) (hc1_2 : l1_2.length ≤ c1_2) (hr1_3 : Kd.C Kd.string w A1_3 l1_3.length l1_3) (hc1_3 : l1_3.length ≤ c1_3) (hr1_4 : Kd.C Kd.string w A1_4 l1_4.length l1_4) (hc1_4 : l1_4.length ≤ c1_4) (hr1_5 : Kd.C k35 w A1_5 l1_5.length l1_5) (hc1_5 : l1_5.length ≤ c1_5) (h : boltingref12_Same.f k a0_0 a0_1 l0_2 l0_3 l0_4 l0_5 a0_6 a0_7 a1_0 a1_1 l1_2 l1_3 l1_4 l1_5 a1_6 a1_7 = some r) :
  Calls Try.prog 24 #[.agg #[.bool a0_0, .bool a0_1, .slice A0_2 l0_2.length c0_2, .slice A0_3 l0_3.length c0_3, .slice A0_4 l0_4.length c0_4, .slice A0_5 l0_5.length c0_5, .bool a0_6, .bool a0_7], .agg #[.bool a1_0, .bool a1_1, .slice A1_2 l1_2.length c1_2, .slice A1_3 l1_3.length c1_3, .slice A1_4 l1_4.length c1_4, .slice A1_5 l1_5.length c1_5, .bool a1_6, .bool a1_7]] w fun e w' => e = .returned (.bool r) ∧ Below w.heap.size w w' := by
 have hu25 := Try.underlying25
 have HR0_2 := Aside0.mk hr0_2
 have HC0_2 := Aside0.mk hc0_2
 clear hr0_2 hc0_2
 have HR0_3 := Aside0.mk hr0_3
 have HC0_3 := Aside0.mk hc0_3
 clear hr0_3 hc0_3
 have HR0_4 := Aside0.mk hr0_4
 have HC0_4 := Aside0.mk hc0_4
 clear hr0_4 hc0_4
 have HR0_5 := Aside0.mk hr0_5
 have HC0_5 := Aside0.mk hc0_5
 clear hr0_5 hc0_5
 have HR1_2 := Aside0.mk hr1_2
 have HC1_2 := Aside0.mk hc1_2
 clear hr1_2 hc1_2
 have HR1_3 := Aside0.mk hr1_3
 have HC1_3 := Aside0.mk hc1_3
 clear hr1_3 hc1_3
 have HR1_4 := Aside0.mk hr1_4
 have HC1_4 := Aside0.mk hc1_4
 clear hr1_4 hc1_4
 have HR1_5 := Aside0.mk hr1_5
 have HC1_5 := Aside0.mk hc1_5
 clear hr1_5 hc1_5
 have HB := Aside0.mk (Below.refl w.heap.size w)
 have H : (if (l0_5.length : Int) = (l1_5.length : Int) then (boltingref12_Same.l0 k 0 a0_0 a0_1 l0_2 l0_3 l0_4 l0_5 a0_6 a0_7 a1_0 a1_1 l1_2 l1_3 l1_4 l1_5 a1_6 a1_7) else (some false)) = some r := h
 clear h
 by_cases c3 : (l0_5.length : Int) = (l1_5.length : Int)
 ·rw [if_pos c3] at H
  have c3b0 : ((l0_5.length : Int) == (l1_5.length : Int)) = true := beq_iff_eq.mpr c3
  have c3b1 : ((l0_5.length : Int) != (l1_5.length : Int)) = false := bne_eq_false_iff_eq.mpr c3
  have c3b2 : (l0_5.length == l1_5.length) = true := by first | simpa using c3 | (simp at c3 ⊢; omega)
  clear c3
  have H' := Aside0.mk H
  clear H
  go_enter Try.func24, Try.ntmps24
  go_wp2_with (first | ((with_reducible refine gate_dst (N := 2) rfl ?_); refine box_event ?hg (N := 2) ?hd (cs := #[.bool a0_0, .bool a0_1, .slice A0_2 l0_2.length c0_2, .slice A0_3 l0_3.length c0_3, .slice A0_4 l0_4.length c0_4, .slice A0_5 l0_5.length c0_5, .bool a0_6, .bool a0_7]) (t := 25) ?hr ?_; (case hd => rfl); (case hg => rfl); (case hr => first | (go_simp; done) | (go_simp; rfl)); intro gb175 hg w4 hbox hb; have n0_ := Aside0.mk (below_step (by repeat (first | (with_reducible first | exact HB.out | apply below_alloc | apply pw_below_drewN | apply below_drew1) | exact HB.out)) hb); have n1_ := Aside0.mk (hbox); have n2_ := Aside0.mk ((by rw [hg]; exact (below_size (by repeat (first | (with_reducible first | exact HB.out | apply below_alloc | apply pw_below_drewN | apply below_drew1) | exact HB.out))) : w.heap.size ≤ gb175)); have n3_ := Aside0.mk ((by rw [hg]; exact (below_size (by repeat (first | (with_reducible first | exact HB.out | apply below_alloc | apply pw_below_drewN | apply below_drew1) | exact HB.out))) : w.heap.size ≤ gb175)); clear HB; have HB := n0_; have BK175 := n1_; have GW175 := n2_; have GE175 := n3_; clear n0_ n1_ n2_ n3_; clear hb hbox hg) | ((with_reducible refine gate_dst (N := 3) rfl ?_); refine box_event ?hg (N := 3) ?hd (cs := #[.bool a1_0, .bool a1_1, .slice A1_2 l1_2.length c1_2, .slice A1_3 l1_3.length c1_3, .slice A1_4 l1_4.length c1_4, .slice A1_5 l1_5.length c1_5, .bool a1_6, .bool a1_7]) (t := 25) ?hr ?_; (case hd => rfl); (case hg => rfl); (case hr => first | (go_simp; done) | (go_simp; rfl)); intro gb176 hg w5 hbox hb; have n0_ := Aside0.mk (blk_below (g := gb175) (o := .cells #[.bool a0_0, .bool a0_1, .slice A0_2 l0_2.length c0_2, .slice A0_3 l0_3.length c0_3, .slice A0_4 l0_4.length c0_4, .slice A0_5 l0_5.length c0_5, .bool a0_6, .bool a0_7] 25 (0, 0)) (by exact BK175.out) hb); have n1_ := Aside0.mk (below_step (by repeat (first | (with_reducible first | exact HB.out | apply below_alloc | apply pw_below_drewN | apply below_drew1 | refine below_set ?_ GE175.out) | exact HB.out)) hb); have n2_ := Aside0.mk (hbox); have n3_ := Aside0.mk ((by rw [hg]; exact (below_size (by repeat (first | (with_reducible first | exact HB.out | apply below_alloc | apply pw_below_drewN | apply below_drew1 | refine below_set ?_ GE175.out) | exact HB.out))) : w.heap.size ≤ gb176)); have n4_ := Aside0.mk ((by rw [hg]; exact (below_size (by repeat (first | (with_reducible first | exact HB.out | apply below_alloc | apply pw_below_drewN | apply below_drew1 | refine below_set ?_ GE175.out) | exact HB.out))) : w.heap.size ≤ gb176)); have n5_ := Aside0.mk ((by rw [hg]; exact Nat.ne_of_lt (blk_lt (g := gb175) (o := .cells #[.bool a0_0, .bool a0_1, .slice A0_2 l0_2.length c0_2, .slice A0_3 l0_3.length c0_3, .slice A0_4 l0_4.length c0_4, .slice A0_5 l0_5.length c0_5, .bool a0_6, .bool a0_7] 25 (0, 0)) (by exact BK175.out)) : gb175 ≠ gb176)); have n6_ := Aside0.mk ((by rw [hg]; exact Nat.ne_of_gt (blk_lt (g := gb175) (o := .cells #[.bool a0_0, .bool a0_1, .slice A0_2 l0_2.length c0_2, .slice A0_3 l0_3.length c0_3, .slice A0_4 l0_4.length c0_4, .slice A0_5 l0_5.length c0_5, .bool a0_6, .bool a0_7] 25 (0, 0)) (by exact BK175.out)) : gb176 ≠ gb175)); clear BK175; clear HB; have BK175 := n0_; have HB := n1_; have BK176 := n2_; have GW176 := n3_; have GE176 := n4_; have NB175_176 := n5_; have NB176_175 := n6_; clear n0_ n1_ n2_ n3_ n4_ n5_ n6_; clear hb hbox hg; have hnb6 := NB175_176.out; have hnc6 := NB176_175.out; have hcz7_0 : w5.cell? ⟨gb175, 0, none⟩ = some (.bool a0_0) := (blk_cell BK175.out 0).trans rfl; have hcz7_1 : w5.cell? ⟨gb175, 1, none⟩ = some (.bool a0_1) := (blk_cell BK175.out 1).trans rfl; have hcz7_2 : w5.cell? ⟨gb175, 2, none⟩ = some (.slice A0_2 l0_2.length c0_2) := (blk_cell BK175.out 2).trans rfl; have hcz7_3 : w5.cell? ⟨gb175, 3, none⟩ = some (.slice A0_3 l0_3.length c0_3) := (blk_cell BK175.out 3).trans rfl; have hcz7_4 : w5.cell? ⟨gb175, 4, none⟩ = some (.slice A0_4 l0_4.length c0_4) := (blk_cell BK175.out 4).trans rfl; have hcz7_5 : w5.cell? ⟨gb175, 5, none⟩ = some (.slice A0_5 l0_5.length c0_5) := (blk_cell BK175.out 5).trans rfl; have hcz7_6 : w5.cell? ⟨gb175, 6, none⟩ = some (.bool a0_6) := (blk_cell BK175.out 6).trans rfl; have hcz7_7 : w5.cell? ⟨gb175, 7, none⟩ = some (.bool a0_7) := (blk_cell BK175.out 7).trans rfl; have hfz7_0 := blk_frozen BK175.out 0; have hfz7_1 := blk_frozen BK175.out 1; have hfz7_2 := blk_frozen BK175.out 2; have hfz7_3 := blk_frozen BK175.out 3; have hfz7_4 := blk_frozen BK175.out 4; have hfz7_5 := blk_frozen BK175.out 5; have hfz7_6 := blk_frozen BK175.out 6; have hfz7_7 := blk_frozen BK175.out 7; have hcz8_0 : w5.cell? ⟨gb176, 0, none⟩ = some (.bool a1_0) := (blk_cell BK176.out 0).trans rfl; have hcz8_1 : w5.cell? ⟨gb176, 1, none⟩ = some (.bool a1_1) := (blk_cell BK176.out 1).trans rfl; have hcz8_2 : w5.cell? ⟨gb176, 2, none⟩ = some (.slice A1_2 l1_2.length c1_2) := (blk_cell BK176.out 2).trans rfl; have hcz8_3 : w5.cell? ⟨gb176, 3, none⟩ = some (.slice A1_3 l1_3.length c1_3) := (blk_cell BK176.out 3).trans rfl; have hcz8_4 : w5.cell? ⟨gb176, 4, none⟩ = some (.slice A1_4 l1_4.length c1_4) := (blk_cell BK176.out 4).trans rfl; have hcz8_5 : w5.cell? ⟨gb176, 5, none⟩ = some (.slice A1_5 l1_5.length c1_5) := (blk_cell BK176.out 5).trans rfl; have hcz8_6 : w5.cell? ⟨gb176, 6, none⟩ = some (.bool a1_6) := (blk_cell BK176.out 6).trans rfl; have hcz8_7 : w5.cell? ⟨gb176, 7, none⟩ = some (.bool a1_7) := (blk_cell BK176.out 7).trans rfl; have hfz8_0 := blk_frozen BK176.out 0; have hfz8_1 := blk_frozen BK176.out 1; have hfz8_2 := blk_frozen BK176.out 2; have hfz8_3 := blk_frozen BK176.out 3; have hfz8_4 := blk_frozen BK176.out 4; have hfz8_5 := blk_frozen BK176.out 5; have hfz8_6 := blk_frozen BK176.out 6; have hfz8_7 := blk_frozen BK176.out 7))
  repeat (go_quiet (first | ((with_reducible refine gate_dst (N := 2) rfl ?_); refine box_event ?hg (N := 2) ?hd (cs := #[.bool a0_0, .bool a0_1, .slice A0_2 l0_2.length c0_2, .slice A0_3 l0_3.length c0_3, .slice A0_4 l0_4.length c0_4, .slice A0_5 l0_5.length c0_5, .bool a0_6, .bool a0_7]) (t := 25) ?hr ?_; (case hd => rfl); (case hg => rfl); (case hr => first | (go_simp; done) | (go_simp; rfl)); intro gb175 hg w4 hbox hb; have n0_ := Aside0.mk (below_step (by repeat (first | (with_reducible first | exact HB.out | apply below_alloc | apply pw_below_drewN | apply below_drew1) | exact HB.out)) hb); have n1_ := Aside0.mk (hbox); have n2_ := Aside0.mk ((by rw [hg]; exact (below_size (by repeat (first | (with_reducible first | exact HB.out | apply below_alloc | apply pw_below_drewN | apply below_drew1) | exact HB.out))) : w.heap.size ≤ gb175)); have n3_ := Aside0.mk ((by rw [hg]; exact (below_size (by repeat (first | (with_reducible first | exact HB.out | apply below_alloc | apply pw_below_drewN | apply below_drew1) | exact HB.out))) : w.heap.size ≤ gb175)); clear HB; have HB := n0_; have BK175 := n1_; have GW175 := n2_; have GE175 := n3_; clear n0_ n1_ n2_ n3_; clear hb hbox hg) | ((with_reducible refine gate_dst (N := 3) rfl ?_); refine box_event ?hg (N := 3) ?hd (cs := #[.bool a1_0, .bool a1_1, .slice A1_2 l1_2.length c1_2, .slice A1_3 l1_3.length c1_3, .slice A1_4 l1_4.length c1_4, .slice A1_5 l1_5.length c1_5, .bool a1_6, .bool a1_7]) (t := 25) ?hr ?_; (case hd => rfl); (case hg => rfl); (case hr => first | (go_simp; done) | (go_simp; rfl)); intro gb176 hg w5 hbox hb; have n0_ := Aside0.mk (blk_below (g := gb175) (o := .cells #[.bool a0_0, .bool a0_1, .slice A0_2 l0_2.length c0_2, .slice A0_3 l0_3.length c0_3, .slice A0_4 l0_4.length c0_4, .slice A0_5 l0_5.length c0_5, .bool a0_6, .bool a0_7] 25 (0, 0)) (by exact BK175.out) hb); have n1_ := Aside0.mk (below_step (by repeat (first | (with_reducible first | exact HB.out | apply below_alloc | apply pw_below_drewN | apply below_drew1 | refine below_set ?_ GE175.out) | exact HB.out)) hb); have n2_ := Aside0.mk (hbox); have n3_ := Aside0.mk ((by rw [hg]; exact (below_size (by repeat (first | (with_reducible first | exact HB.out | apply below_alloc | apply pw_below_drewN | apply below_drew1 | refine below_set ?_ GE175.out) | exact HB.out))) : w.heap.size ≤ gb176)); have n4_ := Aside0.mk ((by rw [hg]; exact (below_size (by repeat (first | (with_reducible first | exact HB.out | apply below_alloc | apply pw_below_drewN | apply below_drew1 | refine below_set ?_ GE175.out) | exact HB.out))) : w.heap.size ≤ gb176)); have n5_ := Aside0.mk ((by rw [hg]; exact Nat.ne_of_lt (blk_lt (g := gb175) (o := .cells #[.bool a0_0, .bool a0_1, .slice A0_2 l0_2.length c0_2, .slice A0_3 l0_3.length c0_3, .slice A0_4 l0_4.length c0_4, .slice A0_5 l0_5.length c0_5, .bool a0_6, .bool a0_7] 25 (0, 0)) (by exact BK175.out)) : gb175 ≠ gb176)); have n6_ := Aside0.mk ((by rw [hg]; exact Nat.ne_of_gt (blk_lt (g := gb175) (o := .cells #[.bool a0_0, .bool a0_1, .slice A0_2 l0_2.length c0_2, .slice A0_3 l0_3.length c0_3, .slice A0_4 l0_4.length c0_4, .slice A0_5 l0_5.length c0_5, .bool a0_6, .bool a0_7] 25 (0, 0)) (by exact BK175.out)) : gb176 ≠ gb175)); clear BK175; clear HB; have BK175 := n0_; have HB := n1_; have BK176 := n2_; have GW176 := n3_; have GE176 := n4_; have NB175_176 := n5_; have NB176_175 := n6_; clear n0_ n1_ n2_ n3_ n4_ n5_ n6_; clear hb hbox hg; have hnb6 := NB175_176.out; have hnc6 := NB176_175.out; have hcz7_0 : w5.cell? ⟨gb175, 0, none⟩ = some (.bool a0_0) := (blk_cell BK175.out 0).trans rfl; have hcz7_1 : w5.cell? ⟨gb175, 1, none⟩ = some (.bool a0_1) := (blk_cell BK175.out 1).trans rfl; have hcz7_2 : w5.cell? ⟨gb175, 2, none⟩ = some (.slice A0_2 l0_2.length c0_2) := (blk_cell BK175.out 2).trans rfl; have hcz7_3 : w5.cell? ⟨gb175, 3, none⟩ = some (.slice A0_3 l0_3.length c0_3) := (blk_cell BK175.out 3).trans rfl; have hcz7_4 : w5.cell? ⟨gb175, 4, none⟩ = some (.slice A0_4 l0_4.length c0_4) := (blk_cell BK175.out 4).trans rfl; have hcz7_5 : w5.cell? ⟨gb175, 5, none⟩ = some (.slice A0_5 l0_5.length c0_5) := (blk_cell BK175.out 5).trans rfl; have hcz7_6 : w5.cell? ⟨gb175, 6, none⟩ = some (.bool a0_6) := (blk_cell BK175.out 6).trans rfl; have hcz7_7 : w5.cell? ⟨gb175, 7, none⟩ = some (.bool a0_7) := (blk_cell BK175.out 7).trans rfl; have hfz7_0 := blk_frozen BK175.out 0; have hfz7_1 := blk_frozen BK175.out 1; have hfz7_2 := blk_frozen BK175.out 2; have hfz7_3 := blk_frozen BK175.out 3; have hfz7_4 := blk_frozen BK175.out 4; have hfz7_5 := blk_frozen BK175.out 5; have hfz7_6 := blk_frozen BK175.out 6; have hfz7_7 := blk_frozen BK175.out 7; have hcz8_0 : w5.cell? ⟨gb176, 0, none⟩ = some (.bool a1_0) := (blk_cell BK176.out 0).trans rfl; have hcz8_1 : w5.cell? ⟨gb176, 1, none⟩ = some (.bool a1_1) := (blk_cell BK176.out 1).trans rfl; have hcz8_2 : w5.cell? ⟨gb176, 2, none⟩ = some (.slice A1_2 l1_2.length c1_2) := (blk_cell BK176.out 2).trans rfl; have hcz8_3 : w5.cell? ⟨gb176, 3, none⟩ = some (.slice A1_3 l1_3.length c1_3) := (blk_cell BK176.out 3).trans rfl; have hcz8_4 : w5.cell? ⟨gb176, 4, none⟩ = some (.slice A1_4 l1_4.length c1_4) := (blk_cell BK176.out 4).trans rfl; have hcz8_5 : w5.cell? ⟨gb176, 5, none⟩ = some (.slice A1_5 l1_5.length c1_5) := (blk_cell BK176.out 5).trans rfl; have hcz8_6 : w5.cell? ⟨gb176, 6, none⟩ = some (.bool a1_6) := (blk_cell BK176.out 6).trans rfl; have hcz8_7 : w5.cell? ⟨gb176, 7, none⟩ = some (.bool a1_7) := (blk_cell BK176.out 7).trans rfl; have hfz8_0 := blk_frozen BK176.out 0; have hfz8_1 := blk_frozen BK176.out 1; have hfz8_2 := blk_frozen BK176.out 2; have hfz8_3 := blk_frozen BK176.out 3; have hfz8_4 := blk_frozen BK176.out 4; have hfz8_5 := blk_frozen BK176.out 5; have hfz8_6 := blk_frozen BK176.out 6; have hfz8_7 := blk_frozen BK176.out 7)); try go_wp2_with (first | ((with_reducible refine gate_dst (N := 2) rfl ?_); refine box_event ?hg (N := 2) ?hd (cs := #[.bool a0_0, .bool a0_1, .slice A0_2 l0_2.length c0_2, .slice A0_3 l0_3.length c0_3, .slice A0_4 l0_4.length c0_4, .slice A0_5 l0_5.length c0_5, .bool a0_6, .bool a0_7]) (t := 25) ?hr ?_; (case hd => rfl); (case hg => rfl); (case hr => first | (go_simp; done) | (go_simp; rfl)); intro gb175 hg w4 hbox hb; have n0_ := Aside0.mk (below_step (by repeat (first | (with_reducible first | exact HB.out | apply below_alloc | apply pw_below_drewN | apply below_drew1) | exact HB.out)) hb); have n1_ := Aside0.mk (hbox); have n2_ := Aside0.mk ((by rw [hg]; exact (below_size (by repeat (first | (with_reducible first | exact HB.out | apply below_alloc | apply pw_below_drewN | apply below_drew1) | exact HB.out))) : w.heap.size ≤ gb175)); have n3_ := Aside0.mk ((by rw [hg]; exact (below_size (by repeat (first | (with_reducible first | exact HB.out | apply below_alloc | apply pw_below_drewN | apply below_drew1) | exact HB.out))) : w.heap.size ≤ gb175)); clear HB; have HB := n0_; have BK175 := n1_; have GW175 := n2_; have GE175 := n3_; clear n0_ n1_ n2_ n3_; clear hb hbox hg) | ((with_reducible refine gate_dst (N := 3) rfl ?_); refine box_event ?hg (N := 3) ?hd (cs := #[.bool a1_0, .bool a1_1, .slice A1_2 l1_2.length c1_2, .slice A1_3 l1_3.length c1_3, .slice A1_4 l1_4.length c1_4, .slice A1_5 l1_5.length c1_5, .bool a1_6, .bool a1_7]) (t := 25) ?hr ?_; (case hd => rfl); (case hg => rfl); (case hr => first | (go_simp; done) | (go_simp; rfl)); intro gb176 hg w5 hbox hb; have n0_ := Aside0.mk (blk_below (g := gb175) (o := .cells #[.bool a0_0, .bool a0_1, .slice A0_2 l0_2.length c0_2, .slice A0_3 l0_3.length c0_3, .slice A0_4 l0_4.length c0_4, .slice A0_5 l0_5.length c0_5, .bool a0_6, .bool a0_7] 25 (0, 0)) (by exact BK175.out) hb); have n1_ := Aside0.mk (below_step (by repeat (first | (with_reducible first | exact HB.out | apply below_alloc | apply pw_below_drewN | apply below_drew1 | refine below_set ?_ GE175.out) | exact HB.out)) hb); have n2_ := Aside0.mk (hbox); have n3_ := Aside0.mk ((by rw [hg]; exact (below_size (by repeat (first | (with_reducible first | exact HB.out | apply below_alloc | apply pw_below_drewN | apply below_drew1 | refine below_set ?_ GE175.out) | exact HB.out))) : w.heap.size ≤ gb176)); have n4_ := Aside0.mk ((by rw [hg]; exact (below_size (by repeat (first | (with_reducible first | exact HB.out | apply below_alloc | apply pw_below_drewN | apply below_drew1 | refine below_set ?_ GE175.out) | exact HB.out))) : w.heap.size ≤ gb176)); have n5_ := Aside0.mk ((by rw [hg]; exact Nat.ne_of_lt (blk_lt (g := gb175) (o := .cells #[.bool a0_0, .bool a0_1, .slice A0_2 l0_2.length c0_2, .slice A0_3 l0_3.length c0_3, .slice A0_4 l0_4.length c0_4, .slice A0_5 l0_5.length c0_5, .bool a0_6, .bool a0_7] 25 (0, 0)) (by exact BK175.out)) : gb175 ≠ gb176)); have n6_ := Aside0.mk ((by rw [hg]; exact Nat.ne_of_gt (blk_lt (g := gb175) (o := .cells #[.bool a0_0, .bool a0_1, .slice A0_2 l0_2.length c0_2, .slice A0_3 l0_3.length c0_3, .slice A0_4 l0_4.length c0_4, .slice A0_5 l0_5.length c0_5, .bool a0_6, .bool a0_7] 25 (0, 0)) (by exact BK175.out)) : gb176 ≠ gb175)); clear BK175; clear HB; have BK175 := n0_; have HB := n1_; have BK176 := n2_; have GW176 := n3_; have GE176 := n4_; have NB175_176 := n5_; have NB176_175 := n6_; clear n0_ n1_ n2_ n3_ n4_ n5_ n6_; clear hb hbox hg; have hnb6 := NB175_176.out; have hnc6 := NB176_175.out; have hcz7_0 : w5.cell? ⟨gb175, 0, none⟩ = some (.bool a0_0) := (blk_cell BK175.out 0).trans rfl; have hcz7_1 : w5.cell? ⟨gb175, 1, none⟩ = some (.bool a0_1) := (blk_cell BK175.out 1).trans rfl; have hcz7_2 : w5.cell? ⟨gb175, 2, none⟩ = some (.slice A0_2 l0_2.length c0_2) := (blk_cell BK175.out 2).trans rfl; have hcz7_3 : w5.cell? ⟨gb175, 3, none⟩ = some (.slice A0_3 l0_3.length c0_3) := (blk_cell BK175.out 3).trans rfl; have hcz7_4 : w5.cell? ⟨gb175, 4, none⟩ = some (.slice A0_4 l0_4.length c0_4) := (blk_cell BK175.out 4).trans rfl; have hcz7_5 : w5.cell? ⟨gb175, 5, none⟩ = some (.slice A0_5 l0_5.length c0_5) := (blk_cell BK175.out 5).trans rfl; have hcz7_6 : w5.cell? ⟨gb175, 6, none⟩ = some (.bool a0_6) := (blk_cell BK175.out 6).trans rfl; have hcz7_7 : w5.cell? ⟨gb175, 7, none⟩ = some (.bool a0_7) := (blk_cell BK175.out 7).trans rfl; have hfz7_0 := blk_frozen BK175.out 0; have hfz7_1 := blk_frozen BK175.out 1; have hfz7_2 := blk_frozen BK175.out 2; have hfz7_3 := blk_frozen BK175.out 3; have hfz7_4 := blk_frozen BK175.out 4; have hfz7_5 := blk_frozen BK175.out 5; have hfz7_6 := blk_frozen BK175.out 6; have hfz7_7 := blk_frozen BK175.out 7; have hcz8_0 : w5.cell? ⟨gb176, 0, none⟩ = some (.bool a1_0) := (blk_cell BK176.out 0).trans rfl; have hcz8_1 : w5.cell? ⟨gb176, 1, none⟩ = some (.bool a1_1) := (blk_cell BK176.out 1).trans rfl; have hcz8_2 : w5.cell? ⟨gb176, 2, none⟩ = some (.slice A1_2 l1_2.length c1_2) := (blk_cell BK176.out 2).trans rfl; have hcz8_3 : w5.cell? ⟨gb176, 3, none⟩ = some (.slice A1_3 l1_3.length c1_3) := (blk_cell BK176.out 3).trans rfl; have hcz8_4 : w5.cell? ⟨gb176, 4, none⟩ = some (.slice A1_4 l1_4.length c1_4) := (blk_cell BK176.out 4).trans rfl; have hcz8_5 : w5.cell? ⟨gb176, 5, none⟩ = some (.slice A1_5 l1_5.length c1_5) := (blk_cell BK176.out 5).trans rfl; have hcz8_6 : w5.cell? ⟨gb176, 6, none⟩ = some (.bool a1_6) := (blk_cell BK176.out 6).trans rfl; have hcz8_7 : w5.cell? ⟨gb176, 7, none⟩ = some (.bool a1_7) := (blk_cell BK176.out 7).trans rfl; have hfz8_0 := blk_frozen BK176.out 0; have hfz8_1 := blk_frozen BK176.out 1; have hfz8_2 := blk_frozen BK176.out 2; have hfz8_3 := blk_frozen BK176.out 3; have hfz8_4 := blk_frozen BK176.out 4; have hfz8_5 := blk_frozen BK176.out 5; have hfz8_6 := blk_frozen BK176.out 6; have hfz8_7 := blk_frozen BK176.out 7)))
  go_loopg [5] k (fun kq v5 w' => ∃ (x5_1 : Int), v5 = .int .i64 x5_1 ∧ Aside0 (boltingref12_Same.l0 kq x5_1 a0_0 a0_1 l0_2 l0_3 l0_4 l0_5 a0_6 a0_7 a1_0 a1_1 l1_2 l1_3 l1_4 l1_5 a1_6 a1_7 = some r) ∧ Aside0 (kq ≤ k) ∧ Aside0 (w'.heap[gb175]? = some (.cells #[.bool a0_0, .bool a0_1, (.slice A0_2 l0_2.length c0_2), (.slice A0_3 l0_3.length c0_3), (.slice A0_4 l0_4.length c0_4), (.slice A0_5 l0_5.length c0_5), .bool a0_6, .bool a0_7] 25 (0, 0))) ∧ Aside0 (w'.heap[gb176]? = some (.cells #[.bool a1_0, .bool a1_1, (.slice A1_2 l1_2.length c1_2), (.slice A1_3 l1_3.length c1_3), (.slice A1_4 l1_4.length c1_4), (.slice A1_5 l1_5.length c1_5), .bool a1_6, .bool a1_7] 25 (0, 0))) ∧ Aside0 (Below w.heap.size w w'))
  case atStart => exact ⟨(0), (by first | rfl | (simp; done) | (simp [*]; done)), H', ⟨Nat.le_refl _⟩, ⟨by exact BK175.out⟩, ⟨by exact BK176.out⟩, ⟨by repeat (first | (with_reducible first | exact HB.out | apply below_alloc | apply pw_below_drewN | apply below_drew1 | refine below_set ?_ GE175.out | refine below_set ?_ GE176.out) | exact HB.out)⟩⟩
  case round =>
   clear H'
   try clear c1
   try clear c2
   try clear p2
   try clear c3
   try clear c3b0
   try clear c3b1
   try clear c3b2
   try clear c6
   try clear hcz7_0
   try clear hcz7_1
   try clear hcz7_2
   try clear hcz7_3
   try clear hcz7_4
   try clear hcz7_5
   try clear hcz7_6
   try clear hcz7_7
   try clear hcz8_0
   try clear hcz8_1
   try clear hcz8_2
   try clear hcz8_3
   try clear hcz8_4
   try clear hcz8_5
   try clear hcz8_6
   try clear hcz8_7
   try clear hfz7_0
   try clear hfz7_1
   try clear hfz7_2
   try clear hfz7_3
   try clear hfz7_4
   try clear hfz7_5
   try clear hfz7_6
   try clear hfz7_7
   try clear hfz8_0
   try clear hfz8_1
   try clear hfz8_2
   try clear hfz8_3
   try clear hfz8_4
   try clear hfz8_5
   try clear hfz8_6
   try clear hfz8_7
   obtain ⟨x5_1, rfl, HA, HK1, BK175, BK176, HB⟩ := hrel
   cases gk with
   | zero => exact absurd HA.out (by simp [boltingref12_Same.l0])
   | succ k1 =>
    have H := HA.out
    clear HA
    simp only [boltingref12_Same.l0] at H
    by_cases c9 : x5_1 < (l0_5.length : Int)
    ·rw [if_pos c9] at H
     have c9b0 : decide (x5_1 < (l0_5.length : Int)) = true := decide_eq_true c9
     clear c9
     by_cases c10 : 0 ≤ x5_1
     ·rw [if_pos c10] at H
      have c10b0 : decide (0 ≤ x5_1) = true := decide_eq_true c10
      clear c10
      by_cases c11 : x5_1 < (l1_5.length : Int)
      ·rw [if_pos c11] at H
       have c11b0 : decide (x5_1 < (l1_5.length : Int)) = true := decide_eq_true c11
       clear c11
       by_cases c12 : ((rd_T35 l0_5 x5_1).f0).toList = ((rd_T35 l1_5 x5_1).f0).toList
       ·rw [if_pos c12] at H
        have c12b0 : (((rd_T35 l0_5 x5_1).f0).toList == ((rd_T35 l1_5 x5_1).f0).toList) = true := beq_iff_eq.mpr c12
        have c12b1 : (((rd_T35 l0_5 x5_1).f0).toList != ((rd_T35 l1_5 x5_1).f0).toList) = false := bne_eq_false_iff_eq.mpr c12
        clear c12
        replace H := Option.bind_eq_some_iff.mp H
        obtain ⟨t181, A130, H⟩ := H
        replace H : (if t181 = true then (boltingref12_Same.l0 k1 (wrap64 (x5_1 + 1)) a0_0 a0_1 l0_2 l0_3 l0_4 l0_5 a0_6 a0_7 a1_0 a1_1 l1_2 l1_3 l1_4 l1_5 a1_6 a1_7) else (some false)) = some r := H
        have A13 := Aside0.mk A130
        clear A130
        by_cases c14 : t181 = true
        ·subst c14
         have H1 : (boltingref12_Same.l0 k1 (wrap64 (x5_1 + 1)) a0_0 a0_1 l0_2 l0_3 l0_4 l0_5 a0_6 a0_7 a1_0 a1_1 l1_2 l1_3 l1_4 l1_5 a1_6 a1_7) = some r := by rw [if_pos rfl] at H; exact H
         clear H
         have H := H1
         clear H1
         have H' := Aside0.mk H
         clear H
         have hnb15 := NB175_176.out
         have hnc15 := NB176_175.out
         have hcz16_0 : wr.cell? ⟨gb175, 0, none⟩ = some (.bool a0_0) := (blk_cell BK175.out 0).trans rfl
         have hcz16_1 : wr.cell? ⟨gb175, 1, none⟩ = some (.bool a0_1) := (blk_cell BK175.out 1).trans rfl
         have hcz16_2 : wr.cell? ⟨gb175, 2, none⟩ = some (.slice A0_2 l0_2.length c0_2) := (blk_cell BK175.out 2).trans rfl
         have hcz16_3 : wr.cell? ⟨gb175, 3, none⟩ = some (.slice A0_3 l0_3.length c0_3) := (blk_cell BK175.out 3).trans rfl
         have hcz16_4 : wr.cell? ⟨gb175, 4, none⟩ = some (.slice A0_4 l0_4.length c0_4) := (blk_cell BK175.out 4).trans rfl
         have hcz16_5 : wr.cell? ⟨gb175, 5, none⟩ = some (.slice A0_5 l0_5.length c0_5) := (blk_cell BK175.out 5).trans rfl
         have hcz16_6 : wr.cell? ⟨gb175, 6, none⟩ = some (.bool a0_6) := (blk_cell BK175.out 6).trans rfl
         have hcz16_7 : wr.cell? ⟨gb175, 7, none⟩ = some (.bool a0_7) := (blk_cell BK175.out 7).trans rfl
         have hfz16_0 := blk_frozen BK175.out 0
         have hfz16_1 := blk_frozen BK175.out 1
         have hfz16_2 := blk_frozen BK175.out 2
         have hfz16_3 := blk_frozen BK175.out 3
         have hfz16_4 := blk_frozen BK175.out 4
         have hfz16_5 := blk_frozen BK175.out 5
         have hfz16_6 := blk_frozen BK175.out 6
         have hfz16_7 := blk_frozen BK175.out 7
         have p177 : 0 ≤ (x5_1 : Int) := of_decide_eq_true (by first | (with_reducible assumption) | assumption)
         have q177 : x5_1 < (l0_5.length : Int) := of_decide_eq_true (by first | (with_reducible assumption) | assumption)
         obtain ⟨ad177, A177_1, c177_1, e177, hx177_0, hx177_1, hl177_1, hi177_1⟩ := at_T35 HR0_5.out x5_1 p177 q177
         cases e177
         replace hx177_0 := (HB.out.cell (World.block_lt_of_cell? w _ hx177_0)).trans hx177_0
         replace hx177_1 := (HB.out.cell (World.block_lt_of_cell? w _ hx177_1)).trans hx177_1
         have HR177_1 := Aside0.mk hi177_1
         have HC177_1 := Aside0.mk hl177_1
         clear hi177_1 hl177_1
         replace p177 := eq_true p177
         replace q177 := eq_true q177
         have hcz17_0 : wr.cell? ⟨gb176, 0, none⟩ = some (.bool a1_0) := (blk_cell BK176.out 0).trans rfl
         have hcz17_1 : wr.cell? ⟨gb176, 1, none⟩ = some (.bool a1_1) := (blk_cell BK176.out 1).trans rfl
         have hcz17_2 : wr.cell? ⟨gb176, 2, none⟩ = some (.slice A1_2 l1_2.length c1_2) := (blk_cell BK176.out 2).trans rfl
         have hcz17_3 : wr.cell? ⟨gb176, 3, none⟩ = some (.slice A1_3 l1_3.length c1_3) := (blk_cell BK176.out 3).trans rfl
         have hcz17_4 : wr.cell? ⟨gb176, 4, none⟩ = some (.slice A1_4 l1_4.length c1_4) := (blk_cell BK176.out 4).trans rfl
         have hcz17_5 : wr.cell? ⟨gb176, 5, none⟩ = some (.slice A1_5 l1_5.length c1_5) := (blk_cell BK176.out 5).trans rfl
         have hcz17_6 : wr.cell? ⟨gb176, 6, none⟩ = some (.bool a1_6) := (blk_cell BK176.out 6).trans rfl
         have hcz17_7 : wr.cell? ⟨gb176, 7, none⟩ = some (.bool a1_7) := (blk_cell BK176.out 7).trans rfl
         have hfz17_0 := blk_frozen BK176.out 0
         have hfz17_1 := blk_frozen BK176.out 1
         have hfz17_2 := blk_frozen BK176.out 2
         have hfz17_3 := blk_frozen BK176.out 3
         have hfz17_4 := blk_frozen BK176.out 4
         have hfz17_5 := blk_frozen BK176.out 5
         have hfz17_6 := blk_frozen BK176.out 6
         have hfz17_7 := blk_frozen BK176.out 7
         have p178 : 0 ≤ (x5_1 : Int) := of_decide_eq_true (by first | (with_reducible assumption) | assumption)
         have q178 : x5_1 < (l1_5.length : Int) := of_decide_eq_true (by first | (with_reducible assumption) | assumption)
         obtain ⟨ad178, A178_1, c178_1, e178, hx178_0, hx178_1, hl178_1, hi178_1⟩ := at_T35 HR1_5.out x5_1 p178 q178
         cases e178
         replace hx178_0 := (HB.out.cell (World.block_lt_of_cell? w _ hx178_0)).trans hx178_0
         replace hx178_1 := (HB.out.cell (World.block_lt_of_cell? w _ hx178_1)).trans hx178_1
         have HR178_1 := Aside0.mk hi178_1
         have HC178_1 := Aside0.mk hl178_1
         clear hi178_1 hl178_1
         replace p178 := eq_true p178
         replace q178 := eq_true q178
         have p179 : 0 ≤ (x5_1 : Int) := of_decide_eq_true (by first | (with_reducible assumption) | assumption)
         have q179 : x5_1 < (l0_5.length : Int) := of_decide_eq_true (by first | (with_reducible assumption) | assumption)
         obtain ⟨ad179, A179_1, c179_1, e179, hx179_0, hx179_1, hl179_1, hi179_1⟩ := at_T35 HR0_5.out x5_1 p179 q179
         obtain rfl : ad177 = ad179 := (by injection e179)
         replace hx179_0 := (HB.out.cell (World.block_lt_of_cell? w _ hx179_0)).trans hx179_0
         replace hx179_1 := (HB.out.cell (World.block_lt_of_cell? w _ hx179_1)).trans hx179_1
         have HR179_1 := Aside0.mk hi179_1
         have HC179_1 := Aside0.mk hl179_1
         clear hi179_1 hl179_1
         replace p179 := eq_true p179
         replace q179 := eq_true q179
         have ea_ := Option.some.inj (hx177_1.symm.trans hx179_1)
         injection ea_ with ea_ en_ ec_
         subst ea_
         subst ec_
         clear en_
         have p180 : 0 ≤ (x5_1 : Int) := of_decide_eq_true (by first | (with_reducible assumption) | assumption)
         have q180 : x5_1 < (l1_5.length : Int) := of_decide_eq_true (by first | (with_reducible assumption) | assumption)
         obtain ⟨ad180, A180_1, c180_1, e180, hx180_0, hx180_1, hl180_1, hi180_1⟩ := at_T35 HR1_5.out x5_1 p180 q180
         obtain rfl : ad178 = ad180 := (by injection e180)
         replace hx180_0 := (HB.out.cell (World.block_lt_of_cell? w _ hx180_0)).trans hx180_0
         replace hx180_1 := (HB.out.cell (World.block_lt_of_cell? w _ hx180_1)).trans hx180_1
         have HR180_1 := Aside0.mk hi180_1
         have HC180_1 := Aside0.mk hl180_1
         clear hi180_1 hl180_1
         replace p180 := eq_true p180
         replace q180 := eq_true q180
         have ea_ := Option.some.inj (hx178_1.symm.trans hx180_1)
         injection ea_ with ea_ en_ ec_
         subst ea_
         subst ec_
         clear en_
         go_wp2_with (first | (go_at_call 56; (with_reducible refine (boltingref02_Equal.calls k1 _ _ ((rd_T35 l0_5 x5_1).f1) _ _ ((rd_T35 l1_5 x5_1).f1) true _ ?side1 ?side2 ?side3 ?side4 A13.out).mono ?_); (case side1 => repeat (first | exact (Kd.C_below HR179_1.out HB.out) | (with_reducible refine Kd.C_alloc ?_ _) | (with_reducible refine Kd.C_drewN ?_ _) | (with_reducible refine Kd.C_drew ?_))); (case side2 => exact HC179_1.out); (case side3 => repeat (first | exact (Kd.C_below HR180_1.out HB.out) | (with_reducible refine Kd.C_alloc ?_ _) | (with_reducible refine Kd.C_drewN ?_ _) | (with_reducible refine Kd.C_drew ?_))); (case side4 => exact HC180_1.out); rintro e w' ⟨rfl, ⟨nd, rfl⟩⟩; (try first | exact ⟨rfl, _, World.drewN_drewN _ _ _⟩ | exact ⟨rfl, _, Eq.trans (World.drewN_drewN _ _ _) (congrArg (World.drewN _) (Nat.add_assoc _ _ _))⟩)))
         repeat (go_quiet (first | (go_at_call 56; (with_reducible refine (boltingref02_Equal.calls k1 _ _ ((rd_T35 l0_5 x5_1).f1) _ _ ((rd_T35 l1_5 x5_1).f1) true _ ?side1 ?side2 ?side3 ?side4 A13.out).mono ?_); (case side1 => repeat (first | exact (Kd.C_below HR179_1.out HB.out) | (with_reducible refine Kd.C_alloc ?_ _) | (with_reducible refine Kd.C_drewN ?_ _) | (with_reducible refine Kd.C_drew ?_))); (case side2 => exact HC179_1.out); (case side3 => repeat (first | exact (Kd.C_below HR180_1.out HB.out) | (with_reducible refine Kd.C_alloc ?_ _) | (with_reducible refine Kd.C_drewN ?_ _) | (with_reducible refine Kd.C_drew ?_))); (case side4 => exact HC180_1.out); rintro e w' ⟨rfl, ⟨nd, rfl⟩⟩; (try first | exact ⟨rfl, _, World.drewN_drewN _ _ _⟩ | exact ⟨rfl, _, Eq.trans (World.drewN_drewN _ _ _) (congrArg (World.drewN _) (Nat.add_assoc _ _ _))⟩))); try go_wp2_with (first | (go_at_call 56; (with_reducible refine (boltingref02_Equal.calls k1 _ _ ((rd_T35 l0_5 x5_1).f1) _ _ ((rd_T35 l1_5 x5_1).f1) true _ ?side1 ?side2 ?side3 ?side4 A13.out).mono ?_); (case side1 => repeat (first | exact (Kd.C_below HR179_1.out HB.out) | (with_reducible refine Kd.C_alloc ?_ _) | (with_reducible refine Kd.C_drewN ?_ _) | (with_reducible refine Kd.C_drew ?_))); (case side2 => exact HC179_1.out); (case side3 => repeat (first | exact (Kd.C_below HR180_1.out HB.out) | (with_reducible refine Kd.C_alloc ?_ _) | (with_reducible refine Kd.C_drewN ?_ _) | (with_reducible refine Kd.C_drew ?_))); (case side4 => exact HC180_1.out); rintro e w' ⟨rfl, ⟨nd, rfl⟩⟩; (try first | exact ⟨rfl, _, World.drewN_drewN _ _ _⟩ | exact ⟨rfl, _, Eq.trans (World.drewN_drewN _ _ _) (congrArg (World.drewN _) (Nat.add_assoc _ _ _))⟩))))
         go_roundg k1
         case measure => have := HK1.out; omega
         case rel => exact ⟨(wrap64 (x5_1 + 1)), (by first | rfl | (simp; done) | (simp [*]; done)), H', ⟨by have := HK1.out; omega⟩, ⟨by exact BK175.out⟩, ⟨by exact BK176.out⟩, ⟨by repeat (first | (with_reducible first | exact HB.out | apply below_alloc | apply pw_below_drewN | apply below_drew1 | refine below_set ?_ GE175.out | refine below_set ?_ GE176.out) | exact HB.out)⟩⟩
        ·replace c14 := Bool.eq_false_iff.mpr c14
         subst c14
         have H1 : (some false) = some r := by rw [if_neg (show ¬ (false = true) by decide)] at H; exact H
         clear H
         have H := H1
         clear H1
         obtain rfl := Option.some.inj H
         have hnb18 := NB175_176.out
         have hnc18 := NB176_175.out
         have hcz19_0 : wr.cell? ⟨gb175, 0, none⟩ = some (.bool a0_0) := (blk_cell BK175.out 0).trans rfl
         have hcz19_1 : wr.cell? ⟨gb175, 1, none⟩ = some (.bool a0_1) := (blk_cell BK175.out 1).trans rfl
         have hcz19_2 : wr.cell? ⟨gb175, 2, none⟩ = some (.slice A0_2 l0_2.length c0_2) := (blk_cell BK175.out 2).trans rfl
         have hcz19_3 : wr.cell? ⟨gb175, 3, none⟩ = some (.slice A0_3 l0_3.length c0_3) := (blk_cell BK175.out 3).trans rfl
         have hcz19_4 : wr.cell? ⟨gb175, 4, none⟩ = some (.slice A0_4 l0_4.length c0_4) := (blk_cell BK175.out 4).trans rfl
         have hcz19_5 : wr.cell? ⟨gb175, 5, none⟩ = some (.slice A0_5 l0_5.length c0_5) := (blk_cell BK175.out 5).trans rfl
         have hcz19_6 : wr.cell? ⟨gb175, 6, none⟩ = some (.bool a0_6) := (blk_cell BK175.out 6).trans rfl
         have hcz19_7 : wr.cell? ⟨gb175, 7, none⟩ = some (.bool a0_7) := (blk_cell BK175.out 7).trans rfl
         have hfz19_0 := blk_frozen BK175.out 0
         have hfz19_1 := blk_frozen BK175.out 1
         have hfz19_2 := blk_frozen BK175.out 2
         have hfz19_3 := blk_frozen BK175.out 3
         have hfz19_4 := blk_frozen BK175.out 4
         have hfz19_5 := blk_frozen BK175.out 5
         have hfz19_6 := blk_frozen BK175.out 6
         have hfz19_7 := blk_frozen BK175.out 7
         have p177 : 0 ≤ (x5_1 : Int) := of_decide_eq_true (by first | (with_reducible assumption) | assumption)
         have q177 : x5_1 < (l0_5.length : Int) := of_decide_eq_true (by first | (with_reducible assumption) | assumption)
         obtain ⟨ad177, A177_1, c177_1, e177, hx177_0, hx177_1, hl177_1, hi177_1⟩ := at_T35 HR0_5.out x5_1 p177 q177
         cases e177
         replace hx177_0 := (HB.out.cell (World.block_lt_of_cell? w _ hx177_0)).trans hx177_0
         replace hx177_1 := (HB.out.cell (World.block_lt_of_cell? w _ hx177_1)).trans hx177_1
         have HR177_1 := Aside0.mk hi177_1
         have HC177_1 := Aside0.mk hl177_1
         clear hi177_1 hl177_1
         replace p177 := eq_true p177
         replace q177 := eq_true q177
         have hcz20_0 : wr.cell? ⟨gb176, 0, none⟩ = some (.bool a1_0) := (blk_cell BK176.out 0).trans rfl
         have hcz20_1 : wr.cell? ⟨gb176, 1, none⟩ = some (.bool a1_1) := (blk_cell BK176.out 1).trans rfl
         have hcz20_2 : wr.cell? ⟨gb176, 2, none⟩ = some (.slice A1_2 l1_2.length c1_2) := (blk_cell BK176.out 2).trans rfl
         have hcz20_3 : wr.cell? ⟨gb176, 3, none⟩ = some (.slice A1_3 l1_3.length c1_3) := (blk_cell BK176.out 3).trans rfl
         have hcz20_4 : wr.cell? ⟨gb176, 4, none⟩ = some (.slice A1_4 l1_4.length c1_4) := (blk_cell BK176.out 4).trans rfl
         have hcz20_5 : wr.cell? ⟨gb176, 5, none⟩ = some (.slice A1_5 l1_5.length c1_5) := (blk_cell BK176.out 5).trans rfl
         have hcz20_6 : wr.cell? ⟨gb176, 6, none⟩ = some (.bool a1_6) := (blk_cell BK176.out 6).trans rfl
         have hcz20_7 : wr.cell? ⟨gb176, 7, none⟩ = some (.bool a1_7) := (blk_cell BK176.out 7).trans rfl
         have hfz20_0 := blk_frozen BK176.out 0
         have hfz20_1 := blk_frozen BK176.out 1
         have hfz20_2 := blk_frozen BK176.out 2
         have hfz20_3 := blk_frozen BK176.out 3
         have hfz20_4 := blk_frozen BK176.out 4
         have hfz20_5 := blk_frozen BK176.out 5
         have hfz20_6 := blk_frozen BK176.out 6
         have hfz20_7 := blk_frozen BK176.out 7
         have p178 : 0 ≤ (x5_1 : Int) := of_decide_eq_true (by first | (with_reducible assumption) | assumption)
         have q178 : x5_1 < (l1_5.length : Int) := of_decide_eq_true (by first | (with_reducible assumption) | assumption)
         obtain ⟨ad178, A178_1, c178_1, e178, hx178_0, hx178_1, hl178_1, hi178_1⟩ := at_T35 HR1_5.out x5_1 p178 q178
         cases e178
         replace hx178_0 := (HB.out.cell (World.block_lt_of_cell? w _ hx178_0)).trans hx178_0
         replace hx178_1 := (HB.out.cell (World.block_lt_of_cell? w _ hx178_1)).trans hx178_1
         have HR178_1 := Aside0.mk hi178_1
         have HC178_1 := Aside0.mk hl178_1
         clear hi178_1 hl178_1
         replace p178 := eq_true p178
         replace q178 := eq_true q178
         have p179 : 0 ≤ (x5_1 : Int) := of_decide_eq_true (by first | (with_reducible assumption) | assumption)
         have q179 : x5_1 < (l0_5.length : Int) := of_decide_eq_true (by first | (with_reducible assumption) | assumption)
         obtain ⟨ad179, A179_1, c179_1, e179, hx179_0, hx179_1, hl179_1, hi179_1⟩ := at_T35 HR0_5.out x5_1 p179 q179
         obtain rfl : ad177 = ad179 := (by injection e179)
         replace hx179_0 := (HB.out.cell (World.block_lt_of_cell? w _ hx179_0)).trans hx179_0
         replace hx179_1 := (HB.out.cell (World.block_lt_of_cell? w _ hx179_1)).trans hx179_1
         have HR179_1 := Aside0.mk hi179_1
         have HC179_1 := Aside0.mk hl179_1
         clear hi179_1 hl179_1
         replace p179 := eq_true p179
         replace q179 := eq_true q179
         have ea_ := Option.some.inj (hx177_1.symm.trans hx179_1)
         injection ea_ with ea_ en_ ec_
         subst ea_
         subst ec_
         clear en_
         have p180 : 0 ≤ (x5_1 : Int) := of_decide_eq_true (by first | (with_reducible assumption) | assumption)
         have q180 : x5_1 < (l1_5.length : Int) := of_decide_eq_true (by first | (with_reducible assumption) | assumption)
         obtain ⟨ad180, A180_1, c180_1, e180, hx180_0, hx180_1, hl180_1, hi180_1⟩ := at_T35 HR1_5.out x5_1 p180 q180
         obtain rfl : ad178 = ad180 := (by injection e180)
         replace hx180_0 := (HB.out.cell (World.block_lt_of_cell? w _ hx180_0)).trans hx180_0
         replace hx180_1 := (HB.out.cell (World.block_lt_of_cell? w _ hx180_1)).trans hx180_1
         have HR180_1 := Aside0.mk hi180_1
         have HC180_1 := Aside0.mk hl180_1
         clear hi180_1 hl180_1
         replace p180 := eq_true p180
         replace q180 := eq_true q180
         have ea_ := Option.some.inj (hx178_1.symm.trans hx180_1)
         injection ea_ with ea_ en_ ec_
         subst ea_
         subst ec_
         clear en_
         go_wp2_with (first | (go_at_call 56; (with_reducible refine (boltingref02_Equal.calls k1 _ _ ((rd_T35 l0_5 x5_1).f1) _ _ ((rd_T35 l1_5 x5_1).f1) false _ ?side1 ?side2 ?side3 ?side4 A13.out).mono ?_); (case side1 => repeat (first | exact (Kd.C_below HR179_1.out HB.out) | (with_reducible refine Kd.C_alloc ?_ _) | (with_reducible refine Kd.C_drewN ?_ _) | (with_reducible refine Kd.C_drew ?_))); (case side2 => exact HC179_1.out); (case side3 => repeat (first | exact (Kd.C_below HR180_1.out HB.out) | (with_reducible refine Kd.C_alloc ?_ _) | (with_reducible refine Kd.C_drewN ?_ _) | (with_reducible refine Kd.C_drew ?_))); (case side4 => exact HC180_1.out); rintro e w' ⟨rfl, ⟨nd, rfl⟩⟩; (try first | exact ⟨rfl, _, World.drewN_drewN _ _ _⟩ | exact ⟨rfl, _, Eq.trans (World.drewN_drewN _ _ _) (congrArg (World.drewN _) (Nat.add_assoc _ _ _))⟩)))
         repeat (go_quiet (first | (go_at_call 56; (with_reducible refine (boltingref02_Equal.calls k1 _ _ ((rd_T35 l0_5 x5_1).f1) _ _ ((rd_T35 l1_5 x5_1).f1) false _ ?side1 ?side2 ?side3 ?side4 A13.out).mono ?_); (case side1 => repeat (first | exact (Kd.C_below HR179_1.out HB.out) | (with_reducible refine Kd.C_alloc ?_ _) | (with_reducible refine Kd.C_drewN ?_ _) | (with_reducible refine Kd.C_drew ?_))); (case side2 => exact HC179_1.out); (case side3 => repeat (first | exact (Kd.C_below HR180_1.out HB.out) | (with_reducible refine Kd.C_alloc ?_ _) | (with_reducible refine Kd.C_drewN ?_ _) | (with_reducible refine Kd.C_drew ?_))); (case side4 => exact HC180_1.out); rintro e w' ⟨rfl, ⟨nd, rfl⟩⟩; (try first | exact ⟨rfl, _, World.drewN_drewN _ _ _⟩ | exact ⟨rfl, _, Eq.trans (World.drewN_drewN _ _ _) (congrArg (World.drewN _) (Nat.add_assoc _ _ _))⟩))); try go_wp2_with (first | (go_at_call 56; (with_reducible refine (boltingref02_Equal.calls k1 _ _ ((rd_T35 l0_5 x5_1).f1) _ _ ((rd_T35 l1_5 x5_1).f1) false _ ?side1 ?side2 ?side3 ?side4 A13.out).mono ?_); (case side1 => repeat (first | exact (Kd.C_below HR179_1.out HB.out) | (with_reducible refine Kd.C_alloc ?_ _) | (with_reducible refine Kd.C_drewN ?_ _) | (with_reducible refine Kd.C_drew ?_))); (case side2 => exact HC179_1.out); (case side3 => repeat (first | exact (Kd.C_below HR180_1.out HB.out) | (with_reducible refine Kd.C_alloc ?_ _) | (with_reducible refine Kd.C_drewN ?_ _) | (with_reducible refine Kd.C_drew ?_))); (case side4 => exact HC180_1.out); rintro e w' ⟨rfl, ⟨nd, rfl⟩⟩; (try first | exact ⟨rfl, _, World.drewN_drewN _ _ _⟩ | exact ⟨rfl, _, Eq.trans (World.drewN_drewN _ _ _) (congrArg (World.drewN _) (Nat.add_assoc _ _ _))⟩))))
         go_ret
         exact ⟨by first | rfl | (simp [errW_none, errW_some] <;> rfl) | (simp [*, errW_none, errW_some] <;> rfl), by repeat (first | (with_reducible first | exact HB.out | apply below_alloc | apply pw_below_drewN | apply below_drew1 | refine below_set ?_ GE175.out | refine below_set ?_ GE176.out) | exact HB.out)⟩
       ·rw [if_neg c12] at H
        have c12b0 : (((rd_T35 l0_5 x5_1).f0).toList == ((rd_T35 l1_5 x5_1).f0).toList) = false := beq_eq_false_iff_ne.mpr c12
        have c12b1 : (((rd_T35 l0_5 x5_1).f0).toList != ((rd_T35 l1_5 x5_1).f0).toList) = true := bne_iff_ne.mpr c12
        obtain rfl := Option.some.inj H
        have hnb21 := NB175_176.out
        have hnc21 := NB176_175.out
        have hcz22_0 : wr.cell? ⟨gb175, 0, none⟩ = some (.bool a0_0) := (blk_cell BK175.out 0).trans rfl
        have hcz22_1 : wr.cell? ⟨gb175, 1, none⟩ = some (.bool a0_1) := (blk_cell BK175.out 1).trans rfl
        have hcz22_2 : wr.cell? ⟨gb175, 2, none⟩ = some (.slice A0_2 l0_2.length c0_2) := (blk_cell BK175.out 2).trans rfl
        have hcz22_3 : wr.cell? ⟨gb175, 3, none⟩ = some (.slice A0_3 l0_3.length c0_3) := (blk_cell BK175.out 3).trans rfl
        have hcz22_4 : wr.cell? ⟨gb175, 4, none⟩ = some (.slice A0_4 l0_4.length c0_4) := (blk_cell BK175.out 4).trans rfl
        have hcz22_5 : wr.cell? ⟨gb175, 5, none⟩ = some (.slice A0_5 l0_5.length c0_5) := (blk_cell BK175.out 5).trans rfl
        have hcz22_6 : wr.cell? ⟨gb175, 6, none⟩ = some (.bool a0_6) := (blk_cell BK175.out 6).trans rfl
        have hcz22_7 : wr.cell? ⟨gb175, 7, none⟩ = some (.bool a0_7) := (blk_cell BK175.out 7).trans rfl
        have hfz22_0 := blk_frozen BK175.out 0
        have hfz22_1 := blk_frozen BK175.out 1
        have hfz22_2 := blk_frozen BK175.out 2
        have hfz22_3 := blk_frozen BK175.out 3
        have hfz22_4 := blk_frozen BK175.out 4
        have hfz22_5 := blk_frozen BK175.out 5
        have hfz22_6 := blk_frozen BK175.out 6
        have hfz22_7 := blk_frozen BK175.out 7
        have p177 : 0 ≤ (x5_1 : Int) := of_decide_eq_true (by first | (with_reducible assumption) | assumption)
        have q177 : x5_1 < (l0_5.length : Int) := of_decide_eq_true (by first | (with_reducible assumption) | assumption)
        obtain ⟨ad177, A177_1, c177_1, e177, hx177_0, hx177_1, hl177_1, hi177_1⟩ := at_T35 HR0_5.out x5_1 p177 q177
        cases e177
        replace hx177_0 := (HB.out.cell (World.block_lt_of_cell? w _ hx177_0)).trans hx177_0
        replace hx177_1 := (HB.out.cell (World.block_lt_of_cell? w _ hx177_1)).trans hx177_1
        have HR177_1 := Aside0.mk hi177_1
        have HC177_1 := Aside0.mk hl177_1
        clear hi177_1 hl177_1
        replace p177 := eq_true p177
        replace q177 := eq_true q177
        have hcz23_0 : wr.cell? ⟨gb176, 0, none⟩ = some (.bool a1_0) := (blk_cell BK176.out 0).trans rfl
        have hcz23_1 : wr.cell? ⟨gb176, 1, none⟩ = some (.bool a1_1) := (blk_cell BK176.out 1).trans rfl
        have hcz23_2 : wr.cell? ⟨gb176, 2, none⟩ = some (.slice A1_2 l1_2.length c1_2) := (blk_cell BK176.out 2).trans rfl
        have hcz23_3 : wr.cell? ⟨gb176, 3, none⟩ = some (.slice A1_3 l1_3.length c1_3) := (blk_cell BK176.out 3).trans rfl
        have hcz23_4 : wr.cell? ⟨gb176, 4, none⟩ = some (.slice A1_4 l1_4.length c1_4) := (blk_cell BK176.out 4).trans rfl
        have hcz23_5 : wr.cell? ⟨gb176, 5, none⟩ = some (.slice A1_5 l1_5.length c1_5) := (blk_cell BK176.out 5).trans rfl
        have hcz23_6 : wr.cell? ⟨gb176, 6, none⟩ = some (.bool a1_6) := (blk_cell BK176.out 6).trans rfl
        have hcz23_7 : wr.cell? ⟨gb176, 7, none⟩ = some (.bool a1_7) := (blk_cell BK176.out 7).trans rfl
        have hfz23_0 := blk_frozen BK176.out 0
        have hfz23_1 := blk_frozen BK176.out 1
        have hfz23_2 := blk_frozen BK176.out 2
        have hfz23_3 := blk_frozen BK176.out 3
        have hfz23_4 := blk_frozen BK176.out 4
        have hfz23_5 := blk_frozen BK176.out 5
        have hfz23_6 := blk_frozen BK176.out 6
        have hfz23_7 := blk_frozen BK176.out 7
        have p178 : 0 ≤ (x5_1 : Int) := of_decide_eq_true (by first | (with_reducible assumption) | assumption)
        have q178 : x5_1 < (l1_5.length : Int) := of_decide_eq_true (by first | (with_reducible assumption) | assumption)
        obtain ⟨ad178, A178_1, c178_1, e178, hx178_0, hx178_1, hl178_1, hi178_1⟩ := at_T35 HR1_5.out x5_1 p178 q178
        cases e178
        replace hx178_0 := (HB.out.cell (World.block_lt_of_cell? w _ hx178_0)).trans hx178_0
        replace hx178_1 := (HB.out.cell (World.block_lt_of_cell? w _ hx178_1)).trans hx178_1
        have HR178_1 := Aside0.mk hi178_1
        have HC178_1 := Aside0.mk hl178_1
        clear hi178_1 hl178_1
        replace p178 := eq_true p178
        replace q178 := eq_true q178
        go_wp2
        repeat (go_quiet (fail); try go_wp2)
        go_ret
        exact ⟨by first | rfl | (simp [errW_none, errW_some] <;> rfl) | (simp [*, errW_none, errW_some] <;> rfl), by repeat (first | (with_reducible first | exact HB.out | apply below_alloc | apply pw_below_drewN | apply below_drew1 | refine below_set ?_ GE175.out | refine below_set ?_ GE176.out) | exact HB.out)⟩
      ·rw [if_neg c11] at H
       exact absurd H (by simp)
     ·rw [if_neg c10] at H
      exact absurd H (by simp)
    ·rw [if_neg c9] at H
     have c9b0 : decide (x5_1 < (l0_5.length : Int)) = false := decide_eq_false c9
     clear c9
     by_cases c24 : (a0_0 == a1_0) = true
     ·rw [if_pos c24] at H
      have c24b0 : (a0_0 == a1_0) = true := c24
      (try (have c24b1 : decide (a0_0 = a1_0) = true := by simpa using c24))
      (try (have c24b2 : (a0_0 == a1_0) = true := by simpa using c24))
      clear c24
      by_cases c25 : (a0_1 == a1_1) = true
      ·rw [if_pos c25] at H
       have c25b0 : (a0_1 == a1_1) = true := c25
       (try (have c25b1 : decide (a0_1 = a1_1) = true := by simpa using c25))
       (try (have c25b2 : (a0_1 == a1_1) = true := by simpa using c25))
       clear c25
       by_cases c26 : (a0_6 == a1_6) = true
       ·rw [if_pos c26] at H
        have c26b0 : (a0_6 == a1_6) = true := c26
        (try (have c26b1 : decide (a0_6 = a1_6) = true := by simpa using c26))
        (try (have c26b2 : (a0_6 == a1_6) = true := by simpa using c26))
        clear c26
        by_cases c27 : (a0_7 == a1_7) = true
        ·rw [if_pos c27] at H
         have c27b0 : (a0_7 == a1_7) = true := c27
         (try (have c27b1 : decide (a0_7 = a1_7) = true := by simpa using c27))
         (try (have c27b2 : (a0_7 == a1_7) = true := by simpa using c27))
         clear c27
         replace H := Option.bind_eq_some_iff.mp H
         obtain ⟨t182, A280, H⟩ := H
         replace H : (if t182 = true then ((boltingref02_Equal.f k1 l0_3 l1_3).bind fun t183 => (if t183 = true then ((boltingref02_Equal.f k1 l0_4 l1_4).bind fun t184 => (some t184)) else (some false))) else (some false)) = some r := H
         have A28 := Aside0.mk A280
         clear A280
         by_cases c29 : t182 = true
         ·subst c29
          have H1 : ((boltingref02_Equal.f k1 l0_3 l1_3).bind fun t183 => (if t183 = true then ((boltingref02_Equal.f k1 l0_4 l1_4).bind fun t184 => (some t184)) else (some false))) = some r := by rw [if_pos rfl] at H; exact H
          clear H
          have H := H1
          clear H1
          replace H := Option.bind_eq_some_iff.mp H
          obtain ⟨t183, A300, H⟩ := H
          replace H : (if t183 = true then ((boltingref02_Equal.f k1 l0_4 l1_4).bind fun t184 => (some t184)) else (some false)) = some r := H
          have A30 := Aside0.mk A300
          clear A300
          by_cases c31 : t183 = true
          ·subst c31
           have H1 : ((boltingref02_Equal.f k1 l0_4 l1_4).bind fun t184 => (some t184)) = some r := by rw [if_pos rfl] at H; exact H
           clear H
           have H := H1
           clear H1
           replace H := Option.bind_eq_some_iff.mp H
           obtain ⟨t184, A320, H⟩ := H
           replace H : (some t184) = some r := H
           have A32 := Aside0.mk A320
           clear A320
           obtain rfl := Option.some.inj H
           have hnb33 := NB175_176.out
           have hnc33 := NB176_175.out
           have hcz34_0 : wr.cell? ⟨gb175, 0, none⟩ = some (.bool a0_0) := (blk_cell BK175.out 0).trans rfl
           have hcz34_1 : wr.cell? ⟨gb175, 1, none⟩ = some (.bool a0_1) := (blk_cell BK175.out 1).trans rfl
           have hcz34_2 : wr.cell? ⟨gb175, 2, none⟩ = some (.slice A0_2 l0_2.length c0_2) := (blk_cell BK175.out 2).trans rfl
           have hcz34_3 : wr.cell? ⟨gb175, 3, none⟩ = some (.slice A0_3 l0_3.length c0_3) := (blk_cell BK175.out 3).trans rfl
           have hcz34_4 : wr.cell? ⟨gb175, 4, none⟩ = some (.slice A0_4 l0_4.length c0_4) := (blk_cell BK175.out 4).trans rfl
           have hcz34_5 : wr.cell? ⟨gb175, 5, none⟩ = some (.slice A0_5 l0_5.length c0_5) := (blk_cell BK175.out 5).trans rfl
           have hcz34_6 : wr.cell? ⟨gb175, 6, none⟩ = some (.bool a0_6) := (blk_cell BK175.out 6).trans rfl
           have hcz34_7 : wr.cell? ⟨gb175, 7, none⟩ = some (.bool a0_7) := (blk_cell BK175.out 7).trans rfl
           have hfz34_0 := blk_frozen BK175.out 0
           have hfz34_1 := blk_frozen BK175.out 1
           have hfz34_2 := blk_frozen BK175.out 2
           have hfz34_3 := blk_frozen BK175.out 3
           have hfz34_4 := blk_frozen BK175.out 4
           have hfz34_5 := blk_frozen BK175.out 5
           have hfz34_6 := blk_frozen BK175.out 6
           have hfz34_7 := blk_frozen BK175.out 7
           have hcz35_0 : wr.cell? ⟨gb176, 0, none⟩ = some (.bool a1_0) := (blk_cell BK176.out 0).trans rfl
           have hcz35_1 : wr.cell? ⟨gb176, 1, none⟩ = some (.bool a1_1) := (blk_cell BK176.out 1).trans rfl
           have hcz35_2 : wr.cell? ⟨gb176, 2, none⟩ = some (.slice A1_2 l1_2.length c1_2) := (blk_cell BK176.out 2).trans rfl
           have hcz35_3 : wr.cell? ⟨gb176, 3, none⟩ = some (.slice A1_3 l1_3.length c1_3) := (blk_cell BK176.out 3).trans rfl
           have hcz35_4 : wr.cell? ⟨gb176, 4, none⟩ = some (.slice A1_4 l1_4.length c1_4) := (blk_cell BK176.out 4).trans rfl
           have hcz35_5 : wr.cell? ⟨gb176, 5, none⟩ = some (.slice A1_5 l1_5.length c1_5) := (blk_cell BK176.out 5).trans rfl
           have hcz35_6 : wr.cell? ⟨gb176, 6, none⟩ = some (.bool a1_6) := (blk_cell BK176.out 6).trans rfl
           have hcz35_7 : wr.cell? ⟨gb176, 7, none⟩ = some (.bool a1_7) := (blk_cell BK176.out 7).trans rfl
           have hfz35_0 := blk_frozen BK176.out 0
           have hfz35_1 := blk_frozen BK176.out 1
           have hfz35_2 := blk_frozen BK176.out 2
           have hfz35_3 := blk_frozen BK176.out 3
           have hfz35_4 := blk_frozen BK176.out 4
           have hfz35_5 := blk_frozen BK176.out 5
           have hfz35_6 := blk_frozen BK176.out 6
           have hfz35_7 := blk_frozen BK176.out 7
           go_wp2_with (first | (go_at_call 56; (with_reducible refine (boltingref02_Equal.calls k1 _ _ l0_2 _ _ l1_2 true _ ?side1 ?side2 ?side3 ?side4 A28.out).mono ?_); (case side1 => repeat (first | exact (Kd.C_below HR0_2.out HB.out) | (with_reducible refine Kd.C_alloc ?_ _) | (with_reducible refine Kd.C_drewN ?_ _) | (with_reducible refine Kd.C_drew ?_))); (case side2 => exact HC0_2.out); (case side3 => repeat (first | exact (Kd.C_below HR1_2.out HB.out) | (with_reducible refine Kd.C_alloc ?_ _) | (with_reducible refine Kd.C_drewN ?_ _) | (with_reducible refine Kd.C_drew ?_))); (case side4 => exact HC1_2.out); rintro e w' ⟨rfl, ⟨nd, rfl⟩⟩; (try first | exact ⟨rfl, _, World.drewN_drewN _ _ _⟩ | exact ⟨rfl, _, Eq.trans (World.drewN_drewN _ _ _) (congrArg (World.drewN _) (Nat.add_assoc _ _ _))⟩)) | (go_at_call 56; (with_reducible refine (boltingref02_Equal.calls k1 _ _ l0_3 _ _ l1_3 true _ ?side1 ?side2 ?side3 ?side4 A30.out).mono ?_); (case side1 => repeat (first | exact (Kd.C_below HR0_3.out (by repeat (first | (with_reducible first | exact HB.out | apply below_alloc | apply pw_below_drewN | apply below_drew1 | refine below_set ?_ GE175.out | refine below_set ?_ GE176.out) | exact HB.out))) | (with_reducible refine Kd.C_alloc ?_ _) | (with_reducible refine Kd.C_drewN ?_ _) | (with_reducible refine Kd.C_drew ?_))); (case side2 => exact HC0_3.out); (case side3 => repeat (first | exact (Kd.C_below HR1_3.out (by repeat (first | (with_reducible first | exact HB.out | apply below_alloc | apply pw_below_drewN | apply below_drew1 | refine below_set ?_ GE175.out | refine below_set ?_ GE176.out) | exact HB.out))) | (with_reducible refine Kd.C_alloc ?_ _) | (with_reducible refine Kd.C_drewN ?_ _) | (with_reducible refine Kd.C_drew ?_))); (case side4 => exact HC1_3.out); rintro e w' ⟨rfl, ⟨nd, rfl⟩⟩; (try first | exact ⟨rfl, _, World.drewN_drewN _ _ _⟩ | exact ⟨rfl, _, Eq.trans (World.drewN_drewN _ _ _) (congrArg (World.drewN _) (Nat.add_assoc _ _ _))⟩)) | (go_at_call 56; (with_reducible refine (boltingref02_Equal.calls k1 _ _ l0_4 _ _ l1_4 t184 _ ?side1 ?side2 ?side3 ?side4 A32.out).mono ?_); (case side1 => repeat (first | exact (Kd.C_below HR0_4.out (by repeat (first | (with_reducible first | exact HB.out | apply below_alloc | apply pw_below_drewN | apply below_drew1 | refine below_set ?_ GE175.out | refine below_set ?_ GE176.out) | exact HB.out))) | (with_reducible refine Kd.C_alloc ?_ _) | (with_reducible refine Kd.C_drewN ?_ _) | (with_reducible refine Kd.C_drew ?_))); (case side2 => exact HC0_4.out); (case side3 => repeat (first | exact (Kd.C_below HR1_4.out (by repeat (first | (with_reducible first | exact HB.out | apply below_alloc | apply pw_below_drewN | apply below_drew1 | refine below_set ?_ GE175.out | refine below_set ?_ GE176.out) | exact HB.out))) | (with_reducible refine Kd.C_alloc ?_ _) | (with_reducible refine Kd.C_drewN ?_ _) | (with_reducible refine Kd.C_drew ?_))); (case side4 => exact HC1_4.out); rintro e w' ⟨rfl, ⟨nd, rfl⟩⟩; (try first | exact ⟨rfl, _, World.drewN_drewN _ _ _⟩ | exact ⟨rfl, _, Eq.trans (World.drewN_drewN _ _ _) (congrArg (World.drewN _) (Nat.add_assoc _ _ _))⟩)))
           repeat (go_quiet (first | (go_at_call 56; (with_reducible refine (boltingref02_Equal.calls k1 _ _ l0_2 _ _ l1_2 true _ ?side1 ?side2 ?side3 ?side4 A28.out).mono ?_); (case side1 => repeat (first | exact (Kd.C_below HR0_2.out HB.out) | (with_reducible refine Kd.C_alloc ?_ _) | (with_reducible refine Kd.C_drewN ?_ _) | (with_reducible refine Kd.C_drew ?_))); (case side2 => exact HC0_2.out); (case side3 => repeat (first | exact (Kd.C_below HR1_2.out HB.out) | (with_reducible refine Kd.C_alloc ?_ _) | (with_reducible refine Kd.C_drewN ?_ _) | (with_reducible refine Kd.C_drew ?_))); (case side4 => exact HC1_2.out); rintro e w' ⟨rfl, ⟨nd, rfl⟩⟩; (try first | exact ⟨rfl, _, World.drewN_drewN _ _ _⟩ | exact ⟨rfl, _, Eq.trans (World.drewN_drewN _ _ _) (congrArg (World.drewN _) (Nat.add_assoc _ _ _))⟩)) | (go_at_call 56; (with_reducible refine (boltingref02_Equal.calls k1 _ _ l0_3 _ _ l1_3 true _ ?side1 ?side2 ?side3 ?side4 A30.out).mono ?_); (case side1 => repeat (first | exact (Kd.C_below HR0_3.out (by repeat (first | (with_reducible first | exact HB.out | apply below_alloc | apply pw_below_drewN | apply below_drew1 | refine below_set ?_ GE175.out | refine below_set ?_ GE176.out) | exact HB.out))) | (with_reducible refine Kd.C_alloc ?_ _) | (with_reducible refine Kd.C_drewN ?_ _) | (with_reducible refine Kd.C_drew ?_))); (case side2 => exact HC0_3.out); (case side3 => repeat (first | exact (Kd.C_below HR1_3.out (by repeat (first | (with_reducible first | exact HB.out | apply below_alloc | apply pw_below_drewN | apply below_drew1 | refine below_set ?_ GE175.out | refine below_set ?_ GE176.out) | exact HB.out))) | (with_reducible refine Kd.C_alloc ?_ _) | (with_reducible refine Kd.C_drewN ?_ _) | (with_reducible refine Kd.C_drew ?_))); (case side4 => exact HC1_3.out); rintro e w' ⟨rfl, ⟨nd, rfl⟩⟩; (try first | exact ⟨rfl, _, World.drewN_drewN _ _ _⟩ | exact ⟨rfl, _, Eq.trans (World.drewN_drewN _ _ _) (congrArg (World.drewN _) (Nat.add_assoc _ _ _))⟩)) | (go_at_call 56; (with_reducible refine (boltingref02_Equal.calls k1 _ _ l0_4 _ _ l1_4 t184 _ ?side1 ?side2 ?side3 ?side4 A32.out).mono ?_); (case side1 => repeat (first | exact (Kd.C_below HR0_4.out (by repeat (first | (with_reducible first | exact HB.out | apply below_alloc | apply pw_below_drewN | apply below_drew1 | refine below_set ?_ GE175.out | refine below_set ?_ GE176.out) | exact HB.out))) | (with_reducible refine Kd.C_alloc ?_ _) | (with_reducible refine Kd.C_drewN ?_ _) | (with_reducible refine Kd.C_drew ?_))); (case side2 => exact HC0_4.out); (case side3 => repeat (first | exact (Kd.C_below HR1_4.out (by repeat (first | (with_reducible first | exact HB.out | apply below_alloc | apply pw_below_drewN | apply below_drew1 | refine below_set ?_ GE175.out | refine below_set ?_ GE176.out) | exact HB.out))) | (with_reducible refine Kd.C_alloc ?_ _) | (with_reducible refine Kd.C_drewN ?_ _) | (with_reducible refine Kd.C_drew ?_))); (case side4 => exact HC1_4.out); rintro e w' ⟨rfl, ⟨nd, rfl⟩⟩; (try first | exact ⟨rfl, _, World.drewN_drewN _ _ _⟩ | exact ⟨rfl, _, Eq.trans (World.drewN_drewN _ _ _) (congrArg (World.drewN _) (Nat.add_assoc _ _ _))⟩))); try go_wp2_with (first | (go_at_call 56; (with_reducible refine (boltingref02_Equal.calls k1 _ _ l0_2 _ _ l1_2 true _ ?side1 ?side2 ?side3 ?side4 A28.out).mono ?_); (case side1 => repeat (first | exact (Kd.C_below HR0_2.out HB.out) | (with_reducible refine Kd.C_alloc ?_ _) | (with_reducible refine Kd.C_drewN ?_ _) | (with_reducible refine Kd.C_drew ?_))); (case side2 => exact HC0_2.out); (case side3 => repeat (first | exact (Kd.C_below HR1_2.out HB.out) | (with_reducible refine Kd.C_alloc ?_ _) | (with_reducible refine Kd.C_drewN ?_ _) | (with_reducible refine Kd.C_drew ?_))); (case side4 => exact HC1_2.out); rintro e w' ⟨rfl, ⟨nd, rfl⟩⟩; (try first | exact ⟨rfl, _, World.drewN_drewN _ _ _⟩ | exact ⟨rfl, _, Eq.trans (World.drewN_drewN _ _ _) (congrArg (World.drewN _) (Nat.add_assoc _ _ _))⟩)) | (go_at_call 56; (with_reducible refine (boltingref02_Equal.calls k1 _ _ l0_3 _ _ l1_3 true _ ?side1 ?side2 ?side3 ?side4 A30.out).mono ?_); (case side1 => repeat (first | exact (Kd.C_below HR0_3.out (by repeat (first | (with_reducible first | exact HB.out | apply below_alloc | apply pw_below_drewN | apply below_drew1 | refine below_set ?_ GE175.out | refine below_set ?_ GE176.out) | exact HB.out))) | (with_reducible refine Kd.C_alloc ?_ _) | (with_reducible refine Kd.C_drewN ?_ _) | (with_reducible refine Kd.C_drew ?_))); (case side2 => exact HC0_3.out); (case side3 => repeat (first | exact (Kd.C_below HR1_3.out (by repeat (first | (with_reducible first | exact HB.out | apply below_alloc | apply pw_below_drewN | apply below_drew1 | refine below_set ?_ GE175.out | refine below_set ?_ GE176.out) | exact HB.out))) | (with_reducible refine Kd.C_alloc ?_ _) | (with_reducible refine Kd.C_drewN ?_ _) | (with_reducible refine Kd.C_drew ?_))); (case side4 => exact HC1_3.out); rintro e w' ⟨rfl, ⟨nd, rfl⟩⟩; (try first | exact ⟨rfl, _, World.drewN_drewN _ _ _⟩ | exact ⟨rfl, _, Eq.trans (World.drewN_drewN _ _ _) (congrArg (World.drewN _) (Nat.add_assoc _ _ _))⟩)) | (go_at_call 56; (with_reducible refine (boltingref02_Equal.calls k1 _ _ l0_4 _ _ l1_4 t184 _ ?side1 ?side2 ?side3 ?side4 A32.out).mono ?_); (case side1 => repeat (first | exact (Kd.C_below HR0_4.out (by repeat (first | (with_reducible first | exact HB.out | apply below_alloc | apply pw_below_drewN | apply below_drew1 | refine below_set ?_ GE175.out | refine below_set ?_ GE176.out) | exact HB.out))) | (with_reducible refine Kd.C_alloc ?_ _) | (with_reducible refine Kd.C_drewN ?_ _) | (with_reducible refine Kd.C_drew ?_))); (case side2 => exact HC0_4.out); (case side3 => repeat (first | exact (Kd.C_below HR1_4.out (by repeat (first | (with_reducible first | exact HB.out | apply below_alloc | apply pw_below_drewN | apply below_drew1 | refine below_set ?_ GE175.out | refine below_set ?_ GE176.out) | exact HB.out))) | (with_reducible refine Kd.C_alloc ?_ _) | (with_reducible refine Kd.C_drewN ?_ _) | (with_reducible refine Kd.C_drew ?_))); (case side4 => exact HC1_4.out); rintro e w' ⟨rfl, ⟨nd, rfl⟩⟩; (try first | exact ⟨rfl, _, World.drewN_drewN _ _ _⟩ | exact ⟨rfl, _, Eq.trans (World.drewN_drewN _ _ _) (congrArg (World.drewN _) (Nat.add_assoc _ _ _))⟩))))
           go_ret
           exact ⟨by first | rfl | (simp [errW_none, errW_some] <;> rfl) | (simp [*, errW_none, errW_some] <;> rfl), by repeat (first | (with_reducible first | exact HB.out | apply below_alloc | apply pw_below_drewN | apply below_drew1 | refine below_set ?_ GE175.out | refine below_set ?_ GE176.out) | exact HB.out)⟩
          ·replace c31 := Bool.eq_false_iff.mpr c31
           subst c31
           have H1 : (some false) = some r := by rw [if_neg (show ¬ (false = true) by decide)] at H; exact H
           clear H
           have H := H1
           clear H1
           obtain rfl := Option.some.inj H
           have hnb36 := NB175_176.out
           have hnc36 := NB176_175.out
           have hcz37_0 : wr.cell? ⟨gb175, 0, none⟩ = some (.bool a0_0) := (blk_cell BK175.out 0).trans rfl
           have hcz37_1 : wr.cell? ⟨gb175, 1, none⟩ = some (.bool a0_1) := (blk_cell BK175.out 1).trans rfl
           have hcz37_2 : wr.cell? ⟨gb175, 2, none⟩ = some (.slice A0_2 l0_2.length c0_2) := (blk_cell BK175.out 2).trans rfl
           have hcz37_3 : wr.cell? ⟨gb175, 3, none⟩ = some (.slice A0_3 l0_3.length c0_3) := (blk_cell BK175.out 3).trans rfl
           have hcz37_4 : wr.cell? ⟨gb175, 4, none⟩ = some (.slice A0_4 l0_4.length c0_4) := (blk_cell BK175.out 4).trans rfl
           have hcz37_5 : wr.cell? ⟨gb175, 5, none⟩ = some (.slice A0_5 l0_5.length c0_5) := (blk_cell BK175.out 5).trans rfl
           have hcz37_6 : wr.cell? ⟨gb175, 6, none⟩ = some (.bool a0_6) := (blk_cell BK175.out 6).trans rfl
           have hcz37_7 : wr.cell? ⟨gb175, 7, none⟩ = some (.bool a0_7) := (blk_cell BK175.out 7).trans rfl
           have hfz37_0 := blk_frozen BK175.out 0
           have hfz37_1 := blk_frozen BK175.out 1
           have hfz37_2 := blk_frozen BK175.out 2
           have hfz37_3 := blk_frozen BK175.out 3
           have hfz37_4 := blk_frozen BK175.out 4
           have hfz37_5 := blk_frozen BK175.out 5
           have hfz37_6 := blk_frozen BK175.out 6
           have hfz37_7 := blk_frozen BK175.out 7
           have hcz38_0 : wr.cell? ⟨gb176, 0, none⟩ = some (.bool a1_0) := (blk_cell BK176.out 0).trans rfl
           have hcz38_1 : wr.cell? ⟨gb176, 1, none⟩ = some (.bool a1_1) := (blk_cell BK176.out 1).trans rfl
           have hcz38_2 : wr.cell? ⟨gb176, 2, none⟩ = some (.slice A1_2 l1_2.length c1_2) := (blk_cell BK176.out 2).trans rfl
           have hcz38_3 : wr.cell? ⟨gb176, 3, none⟩ = some (.slice A1_3 l1_3.length c1_3) := (blk_cell BK176.out 3).trans rfl
           have hcz38_4 : wr.cell? ⟨gb176, 4, none⟩ = some (.slice A1_4 l1_4.length c1_4) := (blk_cell BK176.out 4).trans rfl
           have hcz38_5 : wr.cell? ⟨gb176, 5, none⟩ = some (.slice A1_5 l1_5.length c1_5) := (blk_cell BK176.out 5).trans rfl
           have hcz38_6 : wr.cell? ⟨gb176, 6, none⟩ = some (.bool a1_6) := (blk_cell BK176.out 6).trans rfl
           have hcz38_7 : wr.cell? ⟨gb176, 7, none⟩ = some (.bool a1_7) := (blk_cell BK176.out 7).trans rfl
           have hfz38_0 := blk_frozen BK176.out 0
           have hfz38_1 := blk_frozen BK176.out 1
           have hfz38_2 := blk_frozen BK176.out 2
           have hfz38_3 := blk_frozen BK176.out 3
           have hfz38_4 := blk_frozen BK176.out 4
           have hfz38_5 := blk_frozen BK176.out 5
           have hfz38_6 := blk_frozen BK176.out 6
           have hfz38_7 := blk_frozen BK176.out 7
           go_wp2_with (first | (go_at_call 56; (with_reducible refine (boltingref02_Equal.calls k1 _ _ l0_2 _ _ l1_2 true _ ?side1 ?side2 ?side3 ?side4 A28.out).mono ?_); (case side1 => repeat (first | exact (Kd.C_below HR0_2.out HB.out) | (with_reducible refine Kd.C_alloc ?_ _) | (with_reducible refine Kd.C_drewN ?_ _) | (with_reducible refine Kd.C_drew ?_))); (case side2 => exact HC0_2.out); (case side3 => repeat (first | exact (Kd.C_below HR1_2.out HB.out) | (with_reducible refine Kd.C_alloc ?_ _) | (with_reducible refine Kd.C_drewN ?_ _) | (with_reducible refine Kd.C_drew ?_))); (case side4 => exact HC1_2.out); rintro e w' ⟨rfl, ⟨nd, rfl⟩⟩; (try first | exact ⟨rfl, _, World.drewN_drewN _ _ _⟩ | exact ⟨rfl, _, Eq.trans (World.drewN_drewN _ _ _) (congrArg (World.drewN _) (Nat.add_assoc _ _ _))⟩)) | (go_at_call 56; (with_reducible refine (boltingref02_Equal.calls k1 _ _ l0_3 _ _ l1_3 false _ ?side1 ?side2 ?side3 ?side4 A30.out).mono ?_); (case side1 => repeat (first | exact (Kd.C_below HR0_3.out (by repeat (first | (with_reducible first | exact HB.out | apply below_alloc | apply pw_below_drewN | apply below_drew1 | refine below_set ?_ GE175.out | refine below_set ?_ GE176.out) | exact HB.out))) | (with_reducible refine Kd.C_alloc ?_ _) | (with_reducible refine Kd.C_drewN ?_ _) | (with_reducible refine Kd.C_drew ?_))); (case side2 => exact HC0_3.out); (case side3 => repeat (first | exact (Kd.C_below HR1_3.out (by repeat (first | (with_reducible first | exact HB.out | apply below_alloc | apply pw_below_drewN | apply below_drew1 | refine below_set ?_ GE175.out | refine below_set ?_ GE176.out) | exact HB.out))) | (with_reducible refine Kd.C_alloc ?_ _) | (with_reducible refine Kd.C_drewN ?_ _) | (with_reducible refine Kd.C_drew ?_))); (case side4 => exact HC1_3.out); rintro e w' ⟨rfl, ⟨nd, rfl⟩⟩; (try first | exact ⟨rfl, _, World.drewN_drewN _ _ _⟩ | exact ⟨rfl, _, Eq.trans (World.drewN_drewN _ _ _) (congrArg (World.drewN _) (Nat.add_assoc _ _ _))⟩)))
           repeat (go_quiet (first | (go_at_call 56; (with_reducible refine (boltingref02_Equal.calls k1 _ _ l0_2 _ _ l1_2 true _ ?side1 ?side2 ?side3 ?side4 A28.out).mono ?_); (case side1 => repeat (first | exact (Kd.C_below HR0_2.out HB.out) | (with_reducible refine Kd.C_alloc ?_ _) | (with_reducible refine Kd.C_drewN ?_ _) | (with_reducible refine Kd.C_drew ?_))); (case side2 => exact HC0_2.out); (case side3 => repeat (first | exact (Kd.C_below HR1_2.out HB.out) | (with_reducible refine Kd.C_alloc ?_ _) | (with_reducible refine Kd.C_drewN ?_ _) | (with_reducible refine Kd.C_drew ?_))); (case side4 => exact HC1_2.out); rintro e w' ⟨rfl, ⟨nd, rfl⟩⟩; (try first | exact ⟨rfl, _, World.drewN_drewN _ _ _⟩ | exact ⟨rfl, _, Eq.trans (World.drewN_drewN _ _ _) (congrArg (World.drewN _) (Nat.add_assoc _ _ _))⟩)) | (go_at_call 56; (with_reducible refine (boltingref02_Equal.calls k1 _ _ l0_3 _ _ l1_3 false _ ?side1 ?side2 ?side3 ?side4 A30.out).mono ?_); (case side1 => repeat (first | exact (Kd.C_below HR0_3.out (by repeat (first | (with_reducible first | exact HB.out | apply below_alloc | apply pw_below_drewN | apply below_drew1 | refine below_set ?_ GE175.out | refine below_set ?_ GE176.out) | exact HB.out))) | (with_reducible refine Kd.C_alloc ?_ _) | (with_reducible refine Kd.C_drewN ?_ _) | (with_reducible refine Kd.C_drew ?_))); (case side2 => exact HC0_3.out); (case side3 => repeat (first | exact (Kd.C_below HR1_3.out (by repeat (first | (with_reducible first | exact HB.out | apply below_alloc | apply pw_below_drewN | apply below_drew1 | refine below_set ?_ GE175.out | refine below_set ?_ GE176.out) | exact HB.out))) | (with_reducible refine Kd.C_alloc ?_ _) | (with_reducible refine Kd.C_drewN ?_ _) | (with_reducible refine Kd.C_drew ?_))); (case side4 => exact HC1_3.out); rintro e w' ⟨rfl, ⟨nd, rfl⟩⟩; (try first | exact ⟨rfl, _, World.drewN_drewN _ _ _⟩ | exact ⟨rfl, _, Eq.trans (World.drewN_drewN _ _ _) (congrArg (World.drewN _) (Nat.add_assoc _ _ _))⟩))); try go_wp2_with (first | (go_at_call 56; (with_reducible refine (boltingref02_Equal.calls k1 _ _ l0_2 _ _ l1_2 true _ ?side1 ?side2 ?side3 ?side4 A28.out).mono ?_); (case side1 => repeat (first | exact (Kd.C_below HR0_2.out HB.out) | (with_reducible refine Kd.C_alloc ?_ _) | (with_reducible refine Kd.C_drewN ?_ _) | (with_reducible refine Kd.C_drew ?_))); (case side2 => exact HC0_2.out); (case side3 => repeat (first | exact (Kd.C_below HR1_2.out HB.out) | (with_reducible refine Kd.C_alloc ?_ _) | (with_reducible refine Kd.C_drewN ?_ _) | (with_reducible refine Kd.C_drew ?_))); (case side4 => exact HC1_2.out); rintro e w' ⟨rfl, ⟨nd, rfl⟩⟩; (try first | exact ⟨rfl, _, World.drewN_drewN _ _ _⟩ | exact ⟨rfl, _, Eq.trans (World.drewN_drewN _ _ _) (congrArg (World.drewN _) (Nat.add_assoc _ _ _))⟩)) | (go_at_call 56; (with_reducible refine (boltingref02_Equal.calls k1 _ _ l0_3 _ _ l1_3 false _ ?side1 ?side2 ?side3 ?side4 A30.out).mono ?_); (case side1 => repeat (first | exact (Kd.C_below HR0_3.out (by repeat (first | (with_reducible first | exact HB.out | apply below_alloc | apply pw_below_drewN | apply below_drew1 | refine below_set ?_ GE175.out | refine below_set ?_ GE176.out) | exact HB.out))) | (with_reducible refine Kd.C_alloc ?_ _) | (with_reducible refine Kd.C_drewN ?_ _) | (with_reducible refine Kd.C_drew ?_))); (case side2 => exact HC0_3.out); (case side3 => repeat (first | exact (Kd.C_below HR1_3.out (by repeat (first | (with_reducible first | exact HB.out | apply below_alloc | apply pw_below_drewN | apply below_drew1 | refine below_set ?_ GE175.out | refine below_set ?_ GE176.out) | exact HB.out))) | (with_reducible refine Kd.C_alloc ?_ _) | (with_reducible refine Kd.C_drewN ?_ _) | (with_reducible refine Kd.C_drew ?_))); (case side4 => exact HC1_3.out); rintro e w' ⟨rfl, ⟨nd, rfl⟩⟩; (try first | exact ⟨rfl, _, World.drewN_drewN _ _ _⟩ | exact ⟨rfl, _, Eq.trans (World.drewN_drewN _ _ _) (congrArg (World.drewN _) (Nat.add_assoc _ _ _))⟩))))
           go_ret
           exact ⟨by first | rfl | (simp [errW_none, errW_some] <;> rfl) | (simp [*, errW_none, errW_some] <;> rfl), by repeat (first | (with_reducible first | exact HB.out | apply below_alloc | apply pw_below_drewN | apply below_drew1 | refine below_set ?_ GE175.out | refine below_set ?_ GE176.out) | exact HB.out)⟩
         ·replace c29 := Bool.eq_false_iff.mpr c29
          subst c29
          have H1 : (some false) = some r := by rw [if_neg (show ¬ (false = true) by decide)] at H; exact H
          clear H
          have H := H1
          clear H1
          obtain rfl := Option.some.inj H
          have hnb39 := NB175_176.out
          have hnc39 := NB176_175.out
          have hcz40_0 : wr.cell? ⟨gb175, 0, none⟩ = some (.bool a0_0) := (blk_cell BK175.out 0).trans rfl
          have hcz40_1 : wr.cell? ⟨gb175, 1, none⟩ = some (.bool a0_1) := (blk_cell BK175.out 1).trans rfl
          have hcz40_2 : wr.cell? ⟨gb175, 2, none⟩ = some (.slice A0_2 l0_2.length c0_2) := (blk_cell BK175.out 2).trans rfl
          have hcz40_3 : wr.cell? ⟨gb175, 3, none⟩ = some (.slice A0_3 l0_3.length c0_3) := (blk_cell BK175.out 3).trans rfl
          have hcz40_4 : wr.cell? ⟨gb175, 4, none⟩ = some (.slice A0_4 l0_4.length c0_4) := (blk_cell BK175.out 4).trans rfl
          have hcz40_5 : wr.cell? ⟨gb175, 5, none⟩ = some (.slice A0_5 l0_5.length c0_5) := (blk_cell BK175.out 5).trans rfl
          have hcz40_6 : wr.cell? ⟨gb175, 6, none⟩ = some (.bool a0_6) := (blk_cell BK175.out 6).trans rfl
          have hcz40_7 : wr.cell? ⟨gb175, 7, none⟩ = some (.bool a0_7) := (blk_cell BK175.out 7).trans rfl
          have hfz40_0 := blk_frozen BK175.out 0
          have hfz40_1 := blk_frozen BK175.out 1
          have hfz40_2 := blk_frozen BK175.out 2
          have hfz40_3 := blk_frozen BK175.out 3
          have hfz40_4 := blk_frozen BK175.out 4
          have hfz40_5 := blk_frozen BK175.out 5
          have hfz40_6 := blk_frozen BK175.out 6
          have hfz40_7 := blk_frozen BK175.out 7
          have hcz41_0 : wr.cell? ⟨gb176, 0, none⟩ = some (.bool a1_0) := (blk_cell BK176.out 0).trans rfl
          have hcz41_1 : wr.cell? ⟨gb176, 1, none⟩ = some (.bool a1_1) := (blk_cell BK176.out 1).trans rfl
          have hcz41_2 : wr.cell? ⟨gb176, 2, none⟩ = some (.slice A1_2 l1_2.length c1_2) := (blk_cell BK176.out 2).trans rfl
          have hcz41_3 : wr.cell? ⟨gb176, 3, none⟩ = some (.slice A1_3 l1_3.length c1_3) := (blk_cell BK176.out 3).trans rfl
          have hcz41_4 : wr.cell? ⟨gb176, 4, none⟩ = some (.slice A1_4 l1_4.length c1_4) := (blk_cell BK176.out 4).trans rfl
          have hcz41_5 : wr.cell? ⟨gb176, 5, none⟩ = some (.slice A1_5 l1_5.length c1_5) := (blk_cell BK176.out 5).trans rfl
          have hcz41_6 : wr.cell? ⟨gb176, 6, none⟩ = some (.bool a1_6) := (blk_cell BK176.out 6).trans rfl
          have hcz41_7 : wr.cell? ⟨gb176, 7, none⟩ = some (.bool a1_7) := (blk_cell BK176.out 7).trans rfl
          have hfz41_0 := blk_frozen BK176.out 0
          have hfz41_1 := blk_frozen BK176.out 1
          have hfz41_2 := blk_frozen BK176.out 2
          have hfz41_3 := blk_frozen BK176.out 3
          have hfz41_4 := blk_frozen BK176.out 4
          have hfz41_5 := blk_frozen BK176.out 5
          have hfz41_6 := blk_frozen BK176.out 6
          have hfz41_7 := blk_frozen BK176.out 7
          go_wp2_with (first | (go_at_call 56; (with_reducible refine (boltingref02_Equal.calls k1 _ _ l0_2 _ _ l1_2 false _ ?side1 ?side2 ?side3 ?side4 A28.out).mono ?_); (case side1 => repeat (first | exact (Kd.C_below HR0_2.out HB.out) | (with_reducible refine Kd.C_alloc ?_ _) | (with_reducible refine Kd.C_drewN ?_ _) | (with_reducible refine Kd.C_drew ?_))); (case side2 => exact HC0_2.out); (case side3 => repeat (first | exact (Kd.C_below HR1_2.out HB.out) | (with_reducible refine Kd.C_alloc ?_ _) | (with_reducible refine Kd.C_drewN ?_ _) | (with_reducible refine Kd.C_drew ?_))); (case side4 => exact HC1_2.out); rintro e w' ⟨rfl, ⟨nd, rfl⟩⟩; (try first | exact ⟨rfl, _, World.drewN_drewN _ _ _⟩ | exact ⟨rfl, _, Eq.trans (World.drewN_drewN _ _ _) (congrArg (World.drewN _) (Nat.add_assoc _ _ _))⟩)))
          repeat (go_quiet (first | (go_at_call 56; (with_reducible refine (boltingref02_Equal.calls k1 _ _ l0_2 _ _ l1_2 false _ ?side1 ?side2 ?side3 ?side4 A28.out).mono ?_); (case side1 => repeat (first | exact (Kd.C_below HR0_2.out HB.out) | (with_reducible refine Kd.C_alloc ?_ _) | (with_reducible refine Kd.C_drewN ?_ _) | (with_reducible refine Kd.C_drew ?_))); (case side2 => exact HC0_2.out); (case side3 => repeat (first | exact (Kd.C_below HR1_2.out HB.out) | (with_reducible refine Kd.C_alloc ?_ _) | (with_reducible refine Kd.C_drewN ?_ _) | (with_reducible refine Kd.C_drew ?_))); (case side4 => exact HC1_2.out); rintro e w' ⟨rfl, ⟨nd, rfl⟩⟩; (try first | exact ⟨rfl, _, World.drewN_drewN _ _ _⟩ | exact ⟨rfl, _, Eq.trans (World.drewN_drewN _ _ _) (congrArg (World.drewN _) (Nat.add_assoc _ _ _))⟩))); try go_wp2_with (first | (go_at_call 56; (with_reducible refine (boltingref02_Equal.calls k1 _ _ l0_2 _ _ l1_2 false _ ?side1 ?side2 ?side3 ?side4 A28.out).mono ?_); (case side1 => repeat (first | exact (Kd.C_below HR0_2.out HB.out) | (with_reducible refine Kd.C_alloc ?_ _) | (with_reducible refine Kd.C_drewN ?_ _) | (with_reducible refine Kd.C_drew ?_))); (case side2 => exact HC0_2.out); (case side3 => repeat (first | exact (Kd.C_below HR1_2.out HB.out) | (with_reducible refine Kd.C_alloc ?_ _) | (with_reducible refine Kd.C_drewN ?_ _) | (with_reducible refine Kd.C_drew ?_))); (case side4 => exact HC1_2.out); rintro e w' ⟨rfl, ⟨nd, rfl⟩⟩; (try first | exact ⟨rfl, _, World.drewN_drewN _ _ _⟩ | exact ⟨rfl, _, Eq.trans (World.drewN_drewN _ _ _) (congrArg (World.drewN _) (Nat.add_assoc _ _ _))⟩))))
          go_ret
          exact ⟨by first | rfl | (simp [errW_none, errW_some] <;> rfl) | (simp [*, errW_none, errW_some] <;> rfl), by repeat (first | (with_reducible first | exact HB.out | apply below_alloc | apply pw_below_drewN | apply below_drew1 | refine below_set ?_ GE175.out | refine below_set ?_ GE176.out) | exact HB.out)⟩
        ·rw [if_neg c27] at H
         have c27b0 : (a0_7 == a1_7) = false := by simpa using c27
         (try (have c27b1 : decide (a0_7 = a1_7) = false := by simpa using c27))
         (try (have c27b2 : (a0_7 == a1_7) = false := by simpa using c27))
         (try (have c27b3 : ¬ (a0_7 = a1_7) := by simpa using c27))
         clear c27
         obtain rfl := Option.some.inj H
         have hnb42 := NB175_176.out
         have hnc42 := NB176_175.out
         have hcz43_0 : wr.cell? ⟨gb175, 0, none⟩ = some (.bool a0_0) := (blk_cell BK175.out 0).trans rfl
         have hcz43_1 : wr.cell? ⟨gb175, 1, none⟩ = some (.bool a0_1) := (blk_cell BK175.out 1).trans rfl
         have hcz43_2 : wr.cell? ⟨gb175, 2, none⟩ = some (.slice A0_2 l0_2.length c0_2) := (blk_cell BK175.out 2).trans rfl
         have hcz43_3 : wr.cell? ⟨gb175, 3, none⟩ = some (.slice A0_3 l0_3.length c0_3) := (blk_cell BK175.out 3).trans rfl
         have hcz43_4 : wr.cell? ⟨gb175, 4, none⟩ = some (.slice A0_4 l0_4.length c0_4) := (blk_cell BK175.out 4).trans rfl
         have hcz43_5 : wr.cell? ⟨gb175, 5, none⟩ = some (.slice A0_5 l0_5.length c0_5) := (blk_cell BK175.out 5).trans rfl
         have hcz43_6 : wr.cell? ⟨gb175, 6, none⟩ = some (.bool a0_6) := (blk_cell BK175.out 6).trans rfl
         have hcz43_7 : wr.cell? ⟨gb175, 7, none⟩ = some (.bool a0_7) := (blk_cell BK175.out 7).trans rfl
         have hfz43_0 := blk_frozen BK175.out 0
         have hfz43_1 := blk_frozen BK175.out 1
         have hfz43_2 := blk_frozen BK175.out 2
         have hfz43_3 := blk_frozen BK175.out 3
         have hfz43_4 := blk_frozen BK175.out 4
         have hfz43_5 := blk_frozen BK175.out 5
         have hfz43_6 := blk_frozen BK175.out 6
         have hfz43_7 := blk_frozen BK175.out 7
         have hcz44_0 : wr.cell? ⟨gb176, 0, none⟩ = some (.bool a1_0) := (blk_cell BK176.out 0).trans rfl
         have hcz44_1 : wr.cell? ⟨gb176, 1, none⟩ = some (.bool a1_1) := (blk_cell BK176.out 1).trans rfl
         have hcz44_2 : wr.cell? ⟨gb176, 2, none⟩ = some (.slice A1_2 l1_2.length c1_2) := (blk_cell BK176.out 2).trans rfl
         have hcz44_3 : wr.cell? ⟨gb176, 3, none⟩ = some (.slice A1_3 l1_3.length c1_3) := (blk_cell BK176.out 3).trans rfl
         have hcz44_4 : wr.cell? ⟨gb176, 4, none⟩ = some (.slice A1_4 l1_4.length c1_4) := (blk_cell BK176.out 4).trans rfl
         have hcz44_5 : wr.cell? ⟨gb176, 5, none⟩ = some (.slice A1_5 l1_5.length c1_5) := (blk_cell BK176.out 5).trans rfl
         have hcz44_6 : wr.cell? ⟨gb176, 6, none⟩ = some (.bool a1_6) := (blk_cell BK176.out 6).trans rfl
         have hcz44_7 : wr.cell? ⟨gb176, 7, none⟩ = some (.bool a1_7) := (blk_cell BK176.out 7).trans rfl
         have hfz44_0 := blk_frozen BK176.out 0
         have hfz44_1 := blk_frozen BK176.out 1
         have hfz44_2 := blk_frozen BK176.out 2
         have hfz44_3 := blk_frozen BK176.out 3
         have hfz44_4 := blk_frozen BK176.out 4
         have hfz44_5 := blk_frozen BK176.out 5
         have hfz44_6 := blk_frozen BK176.out 6
         have hfz44_7 := blk_frozen BK176.out 7
         go_wp2
         repeat (go_quiet (fail); try go_wp2)
         go_ret
         exact ⟨by first | rfl | (simp [errW_none, errW_some] <;> rfl) | (simp [*, errW_none, errW_some] <;> rfl), by repeat (first | (with_reducible first | exact HB.out | apply below_alloc | apply pw_below_drewN | apply below_drew1 | refine below_set ?_ GE175.out | refine below_set ?_ GE176.out) | exact HB.out)⟩
       ·rw [if_neg c26] at H
        have c26b0 : (a0_6 == a1_6) = false := by simpa using c26
        (try (have c26b1 : decide (a0_6 = a1_6) = false := by simpa using c26))
        (try (have c26b2 : (a0_6 == a1_6) = false := by simpa using c26))
        (try (have c26b3 : ¬ (a0_6 = a1_6) := by simpa using c26))
        clear c26
        obtain rfl := Option.some.inj H
        have hnb45 := NB175_176.out
        have hnc45 := NB176_175.out
        have hcz46_0 : wr.cell? ⟨gb175, 0, none⟩ = some (.bool a0_0) := (blk_cell BK175.out 0).trans rfl
        have hcz46_1 : wr.cell? ⟨gb175, 1, none⟩ = some (.bool a0_1) := (blk_cell BK175.out 1).trans rfl
        have hcz46_2 : wr.cell? ⟨gb175, 2, none⟩ = some (.slice A0_2 l0_2.length c0_2) := (blk_cell BK175.out 2).trans rfl
        have hcz46_3 : wr.cell? ⟨gb175, 3, none⟩ = some (.slice A0_3 l0_3.length c0_3) := (blk_cell BK175.out 3).trans rfl
        have hcz46_4 : wr.cell? ⟨gb175, 4, none⟩ = some (.slice A0_4 l0_4.length c0_4) := (blk_cell BK175.out 4).trans rfl
        have hcz46_5 : wr.cell? ⟨gb175, 5, none⟩ = some (.slice A0_5 l0_5.length c0_5) := (blk_cell BK175.out 5).trans rfl
        have hcz46_6 : wr.cell? ⟨gb175, 6, none⟩ = some (.bool a0_6) := (blk_cell BK175.out 6).trans rfl
        have hcz46_7 : wr.cell? ⟨gb175, 7, none⟩ = some (.bool a0_7) := (blk_cell BK175.out 7).trans rfl
        have hfz46_0 := blk_frozen BK175.out 0
        have hfz46_1 := blk_frozen BK175.out 1
        have hfz46_2 := blk_frozen BK175.out 2
        have hfz46_3 := blk_frozen BK175.out 3
        have hfz46_4 := blk_frozen BK175.out 4
        have hfz46_5 := blk_frozen BK175.out 5
        have hfz46_6 := blk_frozen BK175.out 6
        have hfz46_7 := blk_frozen BK175.out 7
        have hcz47_0 : wr.cell? ⟨gb176, 0, none⟩ = some (.bool a1_0) := (blk_cell BK176.out 0).trans rfl
        have hcz47_1 : wr.cell? ⟨gb176, 1, none⟩ = some (.bool a1_1) := (blk_cell BK176.out 1).trans rfl
        have hcz47_2 : wr.cell? ⟨gb176, 2, none⟩ = some (.slice A1_2 l1_2.length c1_2) := (blk_cell BK176.out 2).trans rfl
        have hcz47_3 : wr.cell? ⟨gb176, 3, none⟩ = some (.slice A1_3 l1_3.length c1_3) := (blk_cell BK176.out 3).trans rfl
        have hcz47_4 : wr.cell? ⟨gb176, 4, none⟩ = some (.slice A1_4 l1_4.length c1_4) := (blk_cell BK176.out 4).trans rfl
        have hcz47_5 : wr.cell? ⟨gb176, 5, none⟩ = some (.slice A1_5 l1_5.length c1_5) := (blk_cell BK176.out 5).trans rfl
        have hcz47_6 : wr.cell? ⟨gb176, 6, none⟩ = some (.bool a1_6) := (blk_cell BK176.out 6).trans rfl
        have hcz47_7 : wr.cell? ⟨gb176, 7, none⟩ = some (.bool a1_7) := (blk_cell BK176.out 7).trans rfl
        have hfz47_0 := blk_frozen BK176.out 0
        have hfz47_1 := blk_frozen BK176.out 1
        have hfz47_2 := blk_frozen BK176.out 2
        have hfz47_3 := blk_frozen BK176.out 3
        have hfz47_4 := blk_frozen BK176.out 4
        have hfz47_5 := blk_frozen BK176.out 5
        have hfz47_6 := blk_frozen BK176.out 6
        have hfz47_7 := blk_frozen BK176.out 7
        go_wp2
        repeat (go_quiet (fail); try go_wp2)
        go_ret
        exact ⟨by first | rfl | (simp [errW_none, errW_some] <;> rfl) | (simp [*, errW_none, errW_some] <;> rfl), by repeat (first | (with_reducible first | exact HB.out | apply below_alloc | apply pw_below_drewN | apply below_drew1 | refine below_set ?_ GE175.out | refine below_set ?_ GE176.out) | exact HB.out)⟩
      ·rw [if_neg c25] at H
       have c25b0 : (a0_1 == a1_1) = false := by simpa using c25
       (try (have c25b1 : decide (a0_1 = a1_1) = false := by simpa using c25))
       (try (have c25b2 : (a0_1 == a1_1) = false := by simpa using c25))
       (try (have c25b3 : ¬ (a0_1 = a1_1) := by simpa using c25))
       clear c25
       obtain rfl := Option.some.inj H
       have hnb48 := NB175_176.out
       have hnc48 := NB176_175.out
       have hcz49_0 : wr.cell? ⟨gb175, 0, none⟩ = some (.bool a0_0) := (blk_cell BK175.out 0).trans rfl
       have hcz49_1 : wr.cell? ⟨gb175, 1, none⟩ = some (.bool a0_1) := (blk_cell BK175.out 1).trans rfl
       have hcz49_2 : wr.cell? ⟨gb175, 2, none⟩ = some (.slice A0_2 l0_2.length c0_2) := (blk_cell BK175.out 2).trans rfl
       have hcz49_3 : wr.cell? ⟨gb175, 3, none⟩ = some (.slice A0_3 l0_3.length c0_3) := (blk_cell BK175.out 3).trans rfl
       have hcz49_4 : wr.cell? ⟨gb175, 4, none⟩ = some (.slice A0_4 l0_4.length c0_4) := (blk_cell BK175.out 4).trans rfl
       have hcz49_5 : wr.cell? ⟨gb175, 5, none⟩ = some (.slice A0_5 l0_5.length c0_5) := (blk_cell BK175.out 5).trans rfl
       have hcz49_6 : wr.cell? ⟨gb175, 6, none⟩ = some (.bool a0_6) := (blk_cell BK175.out 6).trans rfl
       have hcz49_7 : wr.cell? ⟨gb175, 7, none⟩ = some (.bool a0_7) := (blk_cell BK175.out 7).trans rfl
       have hfz49_0 := blk_frozen BK175.out 0
       have hfz49_1 := blk_frozen BK175.out 1
       have hfz49_2 := blk_frozen BK175.out 2
       have hfz49_3 := blk_frozen BK175.out 3
       have hfz49_4 := blk_frozen BK175.out 4
       have hfz49_5 := blk_frozen BK175.out 5
       have hfz49_6 := blk_frozen BK175.out 6
       have hfz49_7 := blk_frozen BK175.out 7
       have hcz50_0 : wr.cell? ⟨gb176, 0, none⟩ = some (.bool a1_0) := (blk_cell BK176.out 0).trans rfl
       have hcz50_1 : wr.cell? ⟨gb176, 1, none⟩ = some (.bool a1_1) := (blk_cell BK176.out 1).trans rfl
       have hcz50_2 : wr.cell? ⟨gb176, 2, none⟩ = some (.slice A1_2 l1_2.length c1_2) := (blk_cell BK176.out 2).trans rfl
       have hcz50_3 : wr.cell? ⟨gb176, 3, none⟩ = some (.slice A1_3 l1_3.length c1_3) := (blk_cell BK176.out 3).trans rfl
       have hcz50_4 : wr.cell? ⟨gb176, 4, none⟩ = some (.slice A1_4 l1_4.length c1_4) := (blk_cell BK176.out 4).trans rfl
       have hcz50_5 : wr.cell? ⟨gb176, 5, none⟩ = some (.slice A1_5 l1_5.length c1_5) := (blk_cell BK176.out 5).trans rfl
       have hcz50_6 : wr.cell? ⟨gb176, 6, none⟩ = some (.bool a1_6) := (blk_cell BK176.out 6).trans rfl
       have hcz50_7 : wr.cell? ⟨gb176, 7, none⟩ = some (.bool a1_7) := (blk_cell BK176.out 7).trans rfl
       have hfz50_0 := blk_frozen BK176.out 0
       have hfz50_1 := blk_frozen BK176.out 1
       have hfz50_2 := blk_frozen BK176.out 2
       have hfz50_3 := blk_frozen BK176.out 3
       have hfz50_4 := blk_frozen BK176.out 4
       have hfz50_5 := blk_frozen BK176.out 5
       have hfz50_6 := blk_frozen BK176.out 6
       have hfz50_7 := blk_frozen BK176.out 7
       go_wp2
       repeat (go_quiet (fail); try go_wp2)
       go_ret
       exact ⟨by first | rfl | (simp [errW_none, errW_some] <;> rfl) | (simp [*, errW_none, errW_some] <;> rfl), by repeat (first | (with_reducible first | exact HB.out | apply below_alloc | apply pw_below_drewN | apply below_drew1 | refine below_set ?_ GE175.out | refine below_set ?_ GE176.out) | exact HB.out)⟩
     ·rw [if_neg c24] at H
      have c24b0 : (a0_0 == a1_0) = false := by simpa using c24
      (try (have c24b1 : decide (a0_0 = a1_0) = false := by simpa using c24))
      (try (have c24b2 : (a0_0 == a1_0) = false := by simpa using c24))
      (try (have c24b3 : ¬ (a0_0 = a1_0) := by simpa using c24))
      clear c24
      obtain rfl := Option.some.inj H
      have hnb51 := NB175_176.out
      have hnc51 := NB176_175.out
      have hcz52_0 : wr.cell? ⟨gb175, 0, none⟩ = some (.bool a0_0) := (blk_cell BK175.out 0).trans rfl
      have hcz52_1 : wr.cell? ⟨gb175, 1, none⟩ = some (.bool a0_1) := (blk_cell BK175.out 1).trans rfl
      have hcz52_2 : wr.cell? ⟨gb175, 2, none⟩ = some (.slice A0_2 l0_2.length c0_2) := (blk_cell BK175.out 2).trans rfl
      have hcz52_3 : wr.cell? ⟨gb175, 3, none⟩ = some (.slice A0_3 l0_3.length c0_3) := (blk_cell BK175.out 3).trans rfl
      have hcz52_4 : wr.cell? ⟨gb175, 4, none⟩ = some (.slice A0_4 l0_4.length c0_4) := (blk_cell BK175.out 4).trans rfl
      have hcz52_5 : wr.cell? ⟨gb175, 5, none⟩ = some (.slice A0_5 l0_5.length c0_5) := (blk_cell BK175.out 5).trans rfl
      have hcz52_6 : wr.cell? ⟨gb175, 6, none⟩ = some (.bool a0_6) := (blk_cell BK175.out 6).trans rfl
      have hcz52_7 : wr.cell? ⟨gb175, 7, none⟩ = some (.bool a0_7) := (blk_cell BK175.out 7).trans rfl
      have hfz52_0 := blk_frozen BK175.out 0
      have hfz52_1 := blk_frozen BK175.out 1
      have hfz52_2 := blk_frozen BK175.out 2
      have hfz52_3 := blk_frozen BK175.out 3
      have hfz52_4 := blk_frozen BK175.out 4
      have hfz52_5 := blk_frozen BK175.out 5
      have hfz52_6 := blk_frozen BK175.out 6
      have hfz52_7 := blk_frozen BK175.out 7
      have hcz53_0 : wr.cell? ⟨gb176, 0, none⟩ = some (.bool a1_0) := (blk_cell BK176.out 0).trans rfl
      have hcz53_1 : wr.cell? ⟨gb176, 1, none⟩ = some (.bool a1_1) := (blk_cell BK176.out 1).trans rfl
      have hcz53_2 : wr.cell? ⟨gb176, 2, none⟩ = some (.slice A1_2 l1_2.length c1_2) := (blk_cell BK176.out 2).trans rfl
      have hcz53_3 : wr.cell? ⟨gb176, 3, none⟩ = some (.slice A1_3 l1_3.length c1_3) := (blk_cell BK176.out 3).trans rfl
      have hcz53_4 : wr.cell? ⟨gb176, 4, none⟩ = some (.slice A1_4 l1_4.length c1_4) := (blk_cell BK176.out 4).trans rfl
      have hcz53_5 : wr.cell? ⟨gb176, 5, none⟩ = some (.slice A1_5 l1_5.length c1_5) := (blk_cell BK176.out 5).trans rfl
      have hcz53_6 : wr.cell? ⟨gb176, 6, none⟩ = some (.bool a1_6) := (blk_cell BK176.out 6).trans rfl
      have hcz53_7 : wr.cell? ⟨gb176, 7, none⟩ = some (.bool a1_7) := (blk_cell BK176.out 7).trans rfl
      have hfz53_0 := blk_frozen BK176.out 0
      have hfz53_1 := blk_frozen BK176.out 1
      have hfz53_2 := blk_frozen BK176.out 2
      have hfz53_3 := blk_frozen BK176.out 3
      have hfz53_4 := blk_frozen BK176.out 4
      have hfz53_5 := blk_frozen BK176.out 5
      have hfz53_6 := blk_frozen BK176.out 6
      have hfz53_7 := blk_frozen BK176.out 7
      go_wp2
      repeat (go_quiet (fail); try go_wp2)
      go_ret
      exact ⟨by first | rfl | (simp [errW_none, errW_some] <;> rfl) | (simp [*, errW_none, errW_some] <;> rfl), by repeat (first | (with_reducible first | exact HB.out | apply below_alloc | apply pw_below_drewN | apply below_drew1 | refine below_set ?_ GE175.out | refine below_set ?_ GE176.out) | exact HB.out)⟩
 ·rw [if_neg c3] at H
  have c3b0 : ((l0_5.length : Int) == (l1_5.length : Int)) = false := beq_eq_false_iff_ne.mpr c3
  have c3b1 : ((l0_5.length : Int) != (l1_5.length : Int)) = true := bne_iff_ne.mpr c3
  have c3b2 : (l0_5.length == l1_5.length) = false := by first | simpa using c3 | (simp at c3 ⊢; omega)
  obtain rfl := Option.some.inj H
  go_enter Try.func24, Try.ntmps24
  go_wp2_with (first | ((with_reducible refine gate_dst (N := 2) rfl ?_); refine box_event ?hg (N := 2) ?hd (cs := #[.bool a0_0, .bool a0_1, .slice A0_2 l0_2.length c0_2, .slice A0_3 l0_3.length c0_3, .slice A0_4 l0_4.length c0_4, .slice A0_5 l0_5.length c0_5, .bool a0_6, .bool a0_7]) (t := 25) ?hr ?_; (case hd => rfl); (case hg => rfl); (case hr => first | (go_simp; done) | (go_simp; rfl)); intro gb175 hg w54 hbox hb; have n0_ := Aside0.mk (below_step (by repeat (first | (with_reducible first | exact HB.out | apply below_alloc | apply pw_below_drewN | apply below_drew1) | exact HB.out)) hb); have n1_ := Aside0.mk (hbox); have n2_ := Aside0.mk ((by rw [hg]; exact (below_size (by repeat (first | (with_reducible first | exact HB.out | apply below_alloc | apply pw_below_drewN | apply below_drew1) | exact HB.out))) : w.heap.size ≤ gb175)); have n3_ := Aside0.mk ((by rw [hg]; exact (below_size (by repeat (first | (with_reducible first | exact HB.out | apply below_alloc | apply pw_below_drewN | apply below_drew1) | exact HB.out))) : w.heap.size ≤ gb175)); clear HB; have HB := n0_; have BK175 := n1_; have GW175 := n2_; have GE175 := n3_; clear n0_ n1_ n2_ n3_; clear hb hbox hg) | ((with_reducible refine gate_dst (N := 3) rfl ?_); refine box_event ?hg (N := 3) ?hd (cs := #[.bool a1_0, .bool a1_1, .slice A1_2 l1_2.length c1_2, .slice A1_3 l1_3.length c1_3, .slice A1_4 l1_4.length c1_4, .slice A1_5 l1_5.length c1_5, .bool a1_6, .bool a1_7]) (t := 25) ?hr ?_; (case hd => rfl); (case hg => rfl); (case hr => first | (go_simp; done) | (go_simp; rfl)); intro gb176 hg w55 hbox hb; have n0_ := Aside0.mk (blk_below (g := gb175) (o := .cells #[.bool a0_0, .bool a0_1, .slice A0_2 l0_2.length c0_2, .slice A0_3 l0_3.length c0_3, .slice A0_4 l0_4.length c0_4, .slice A0_5 l0_5.length c0_5, .bool a0_6, .bool a0_7] 25 (0, 0)) (by exact BK175.out) hb); have n1_ := Aside0.mk (below_step (by repeat (first | (with_reducible first | exact HB.out | apply below_alloc | apply pw_below_drewN | apply below_drew1 | refine below_set ?_ GE175.out) | exact HB.out)) hb); have n2_ := Aside0.mk (hbox); have n3_ := Aside0.mk ((by rw [hg]; exact (below_size (by repeat (first | (with_reducible first | exact HB.out | apply below_alloc | apply pw_below_drewN | apply below_drew1 | refine below_set ?_ GE175.out) | exact HB.out))) : w.heap.size ≤ gb176)); have n4_ := Aside0.mk ((by rw [hg]; exact (below_size (by repeat (first | (with_reducible first | exact HB.out | apply below_alloc | apply pw_below_drewN | apply below_drew1 | refine below_set ?_ GE175.out) | exact HB.out))) : w.heap.size ≤ gb176)); have n5_ := Aside0.mk ((by rw [hg]; exact Nat.ne_of_lt (blk_lt (g := gb175) (o := .cells #[.bool a0_0, .bool a0_1, .slice A0_2 l0_2.length c0_2, .slice A0_3 l0_3.length c0_3, .slice A0_4 l0_4.length c0_4, .slice A0_5 l0_5.length c0_5, .bool a0_6, .bool a0_7] 25 (0, 0)) (by exact BK175.out)) : gb175 ≠ gb176)); have n6_ := Aside0.mk ((by rw [hg]; exact Nat.ne_of_gt (blk_lt (g := gb175) (o := .cells #[.bool a0_0, .bool a0_1, .slice A0_2 l0_2.length c0_2, .slice A0_3 l0_3.length c0_3, .slice A0_4 l0_4.length c0_4, .slice A0_5 l0_5.length c0_5, .bool a0_6, .bool a0_7] 25 (0, 0)) (by exact BK175.out)) : gb176 ≠ gb175)); clear BK175; clear HB; have BK175 := n0_; have HB := n1_; have BK176 := n2_; have GW176 := n3_; have GE176 := n4_; have NB175_176 := n5_; have NB176_175 := n6_; clear n0_ n1_ n2_ n3_ n4_ n5_ n6_; clear hb hbox hg; have hnb56 := NB175_176.out; have hnc56 := NB176_175.out; have hcz57_0 : w55.cell? ⟨gb175, 0, none⟩ = some (.bool a0_0) := (blk_cell BK175.out 0).trans rfl; have hcz57_1 : w55.cell? ⟨gb175, 1, none⟩ = some (.bool a0_1) := (blk_cell BK175.out 1).trans rfl; have hcz57_2 : w55.cell? ⟨gb175, 2, none⟩ = some (.slice A0_2 l0_2.length c0_2) := (blk_cell BK175.out 2).trans rfl; have hcz57_3 : w55.cell? ⟨gb175, 3, none⟩ = some (.slice A0_3 l0_3.length c0_3) := (blk_cell BK175.out 3).trans rfl; have hcz57_4 : w55.cell? ⟨gb175, 4, none⟩ = some (.slice A0_4 l0_4.length c0_4) := (blk_cell BK175.out 4).trans rfl; have hcz57_5 : w55.cell? ⟨gb175, 5, none⟩ = some (.slice A0_5 l0_5.length c0_5) := (blk_cell BK175.out 5).trans rfl; have hcz57_6 : w55.cell? ⟨gb175, 6, none⟩ = some (.bool a0_6) := (blk_cell BK175.out 6).trans rfl; have hcz57_7 : w55.cell? ⟨gb175, 7, none⟩ = some (.bool a0_7) := (blk_cell BK175.out 7).trans rfl; have hfz57_0 := blk_frozen BK175.out 0; have hfz57_1 := blk_frozen BK175.out 1; have hfz57_2 := blk_frozen BK175.out 2; have hfz57_3 := blk_frozen BK175.out 3; have hfz57_4 := blk_frozen BK175.out 4; have hfz57_5 := blk_frozen BK175.out 5; have hfz57_6 := blk_frozen BK175.out 6; have hfz57_7 := blk_frozen BK175.out 7; have hcz58_0 : w55.cell? ⟨gb176, 0, none⟩ = some (.bool a1_0) := (blk_cell BK176.out 0).trans rfl; have hcz58_1 : w55.cell? ⟨gb176, 1, none⟩ = some (.bool a1_1) := (blk_cell BK176.out 1).trans rfl; have hcz58_2 : w55.cell? ⟨gb176, 2, none⟩ = some (.slice A1_2 l1_2.length c1_2) := (blk_cell BK176.out 2).trans rfl; have hcz58_3 : w55.cell? ⟨gb176, 3, none⟩ = some (.slice A1_3 l1_3.length c1_3) := (blk_cell BK176.out 3).trans rfl; have hcz58_4 : w55.cell? ⟨gb176, 4, none⟩ = some (.slice A1_4 l1_4.length c1_4) := (blk_cell BK176.out 4).trans rfl; have hcz58_5 : w55.cell? ⟨gb176, 5, none⟩ = some (.slice A1_5 l1_5.length c1_5) := (blk_cell BK176.out 5).trans rfl; have hcz58_6 : w55.cell? ⟨gb176, 6, none⟩ = some (.bool a1_6) := (blk_cell BK176.out 6).trans rfl; have hcz58_7 : w55.cell? ⟨gb176, 7, none⟩ = some (.bool a1_7) := (blk_cell BK176.out 7).trans rfl; have hfz58_0 := blk_frozen BK176.out 0; have hfz58_1 := blk_frozen BK176.out 1; have hfz58_2 := blk_frozen BK176.out 2; have hfz58_3 := blk_frozen BK176.out 3; have hfz58_4 := blk_frozen BK176.out 4; have hfz58_5 := blk_frozen BK176.out 5; have hfz58_6 := blk_frozen BK176.out 6; have hfz58_7 := blk_frozen BK176.out 7))
  repeat (go_quiet (first | ((with_reducible refine gate_dst (N := 2) rfl ?_); refine box_event ?hg (N := 2) ?hd (cs := #[.bool a0_0, .bool a0_1, .slice A0_2 l0_2.length c0_2, .slice A0_3 l0_3.length c0_3, .slice A0_4 l0_4.length c0_4, .slice A0_5 l0_5.length c0_5, .bool a0_6, .bool a0_7]) (t := 25) ?hr ?_; (case hd => rfl); (case hg => rfl); (case hr => first | (go_simp; done) | (go_simp; rfl)); intro gb175 hg w54 hbox hb; have n0_ := Aside0.mk (below_step (by repeat (first | (with_reducible first | exact HB.out | apply below_alloc | apply pw_below_drewN | apply below_drew1) | exact HB.out)) hb); have n1_ := Aside0.mk (hbox); have n2_ := Aside0.mk ((by rw [hg]; exact (below_size (by repeat (first | (with_reducible first | exact HB.out | apply below_alloc | apply pw_below_drewN | apply below_drew1) | exact HB.out))) : w.heap.size ≤ gb175)); have n3_ := Aside0.mk ((by rw [hg]; exact (below_size (by repeat (first | (with_reducible first | exact HB.out | apply below_alloc | apply pw_below_drewN | apply below_drew1) | exact HB.out))) : w.heap.size ≤ gb175)); clear HB; have HB := n0_; have BK175 := n1_; have GW175 := n2_; have GE175 := n3_; clear n0_ n1_ n2_ n3_; clear hb hbox hg) | ((with_reducible refine gate_dst (N := 3) rfl ?_); refine box_event ?hg (N := 3) ?hd (cs := #[.bool a1_0, .bool a1_1, .slice A1_2 l1_2.length c1_2, .slice A1_3 l1_3.length c1_3, .slice A1_4 l1_4.length c1_4, .slice A1_5 l1_5.length c1_5, .bool a1_6, .bool a1_7]) (t := 25) ?hr ?_; (case hd => rfl); (case hg => rfl); (case hr => first | (go_simp; done) | (go_simp; rfl)); intro gb176 hg w55 hbox hb; have n0_ := Aside0.mk (blk_below (g := gb175) (o := .cells #[.bool a0_0, .bool a0_1, .slice A0_2 l0_2.length c0_2, .slice A0_3 l0_3.length c0_3, .slice A0_4 l0_4.length c0_4, .slice A0_5 l0_5.length c0_5, .bool a0_6, .bool a0_7] 25 (0, 0)) (by exact BK175.out) hb); have n1_ := Aside0.mk (below_step (by repeat (first | (with_reducible first | exact HB.out | apply below_alloc | apply pw_below_drewN | apply below_drew1 | refine below_set ?_ GE175.out) | exact HB.out)) hb); have n2_ := Aside0.mk (hbox); have n3_ := Aside0.mk ((by rw [hg]; exact (below_size (by repeat (first | (with_reducible first | exact HB.out | apply below_alloc | apply pw_below_drewN | apply below_drew1 | refine below_set ?_ GE175.out) | exact HB.out))) : w.heap.size ≤ gb176)); have n4_ := Aside0.mk ((by rw [hg]; exact (below_size (by repeat (first | (with_reducible first | exact HB.out | apply below_alloc | apply pw_below_drewN | apply below_drew1 | refine below_set ?_ GE175.out) | exact HB.out))) : w.heap.size ≤ gb176)); have n5_ := Aside0.mk ((by rw [hg]; exact Nat.ne_of_lt (blk_lt (g := gb175) (o := .cells #[.bool a0_0, .bool a0_1, .slice A0_2 l0_2.length c0_2, .slice A0_3 l0_3.length c0_3, .slice A0_4 l0_4.length c0_4, .slice A0_5 l0_5.length c0_5, .bool a0_6, .bool a0_7] 25 (0, 0)) (by exact BK175.out)) : gb175 ≠ gb176)); have n6_ := Aside0.mk ((by rw [hg]; exact Nat.ne_of_gt (blk_lt (g := gb175) (o := .cells #[.bool a0_0, .bool a0_1, .slice A0_2 l0_2.length c0_2, .slice A0_3 l0_3.length c0_3, .slice A0_4 l0_4.length c0_4, .slice A0_5 l0_5.length c0_5, .bool a0_6, .bool a0_7] 25 (0, 0)) (by exact BK175.out)) : gb176 ≠ gb175)); clear BK175; clear HB; have BK175 := n0_; have HB := n1_; have BK176 := n2_; have GW176 := n3_; have GE176 := n4_; have NB175_176 := n5_; have NB176_175 := n6_; clear n0_ n1_ n2_ n3_ n4_ n5_ n6_; clear hb hbox hg; have hnb56 := NB175_176.out; have hnc56 := NB176_175.out; have hcz57_0 : w55.cell? ⟨gb175, 0, none⟩ = some (.bool a0_0) := (blk_cell BK175.out 0).trans rfl; have hcz57_1 : w55.cell? ⟨gb175, 1, none⟩ = some (.bool a0_1) := (blk_cell BK175.out 1).trans rfl; have hcz57_2 : w55.cell? ⟨gb175, 2, none⟩ = some (.slice A0_2 l0_2.length c0_2) := (blk_cell BK175.out 2).trans rfl; have hcz57_3 : w55.cell? ⟨gb175, 3, none⟩ = some (.slice A0_3 l0_3.length c0_3) := (blk_cell BK175.out 3).trans rfl; have hcz57_4 : w55.cell? ⟨gb175, 4, none⟩ = some (.slice A0_4 l0_4.length c0_4) := (blk_cell BK175.out 4).trans rfl; have hcz57_5 : w55.cell? ⟨gb175, 5, none⟩ = some (.slice A0_5 l0_5.length c0_5) := (blk_cell BK175.out 5).trans rfl; have hcz57_6 : w55.cell? ⟨gb175, 6, none⟩ = some (.bool a0_6) := (blk_cell BK175.out 6).trans rfl; have hcz57_7 : w55.cell? ⟨gb175, 7, none⟩ = some (.bool a0_7) := (blk_cell BK175.out 7).trans rfl; have hfz57_0 := blk_frozen BK175.out 0; have hfz57_1 := blk_frozen BK175.out 1; have hfz57_2 := blk_frozen BK175.out 2; have hfz57_3 := blk_frozen BK175.out 3; have hfz57_4 := blk_frozen BK175.out 4; have hfz57_5 := blk_frozen BK175.out 5; have hfz57_6 := blk_frozen BK175.out 6; have hfz57_7 := blk_frozen BK175.out 7; have hcz58_0 : w55.cell? ⟨gb176, 0, none⟩ = some (.bool a1_0) := (blk_cell BK176.out 0).trans rfl; have hcz58_1 : w55.cell? ⟨gb176, 1, none⟩ = some (.bool a1_1) := (blk_cell BK176.out 1).trans rfl; have hcz58_2 : w55.cell? ⟨gb176, 2, none⟩ = some (.slice A1_2 l1_2.length c1_2) := (blk_cell BK176.out 2).trans rfl; have hcz58_3 : w55.cell? ⟨gb176, 3, none⟩ = some (.slice A1_3 l1_3.length c1_3) := (blk_cell BK176.out 3).trans rfl; have hcz58_4 : w55.cell? ⟨gb176, 4, none⟩ = some (.slice A1_4 l1_4.length c1_4) := (blk_cell BK176.out 4).trans rfl; have hcz58_5 : w55.cell? ⟨gb176, 5, none⟩ = some (.slice A1_5 l1_5.length c1_5) := (blk_cell BK176.out 5).trans rfl; have hcz58_6 : w55.cell? ⟨gb176, 6, none⟩ = some (.bool a1_6) := (blk_cell BK176.out 6).trans rfl; have hcz58_7 : w55.cell? ⟨gb176, 7, none⟩ = some (.bool a1_7) := (blk_cell BK176.out 7).trans rfl; have hfz58_0 := blk_frozen BK176.out 0; have hfz58_1 := blk_frozen BK176.out 1; have hfz58_2 := blk_frozen BK176.out 2; have hfz58_3 := blk_frozen BK176.out 3; have hfz58_4 := blk_frozen BK176.out 4; have hfz58_5 := blk_frozen BK176.out 5; have hfz58_6 := blk_frozen BK176.out 6; have hfz58_7 := blk_frozen BK176.out 7)); try go_wp2_with (first | ((with_reducible refine gate_dst (N := 2) rfl ?_); refine box_event ?hg (N := 2) ?hd (cs := #[.bool a0_0, .bool a0_1, .slice A0_2 l0_2.length c0_2, .slice A0_3 l0_3.length c0_3, .slice A0_4 l0_4.length c0_4, .slice A0_5 l0_5.length c0_5, .bool a0_6, .bool a0_7]) (t := 25) ?hr ?_; (case hd => rfl); (case hg => rfl); (case hr => first | (go_simp; done) | (go_simp; rfl)); intro gb175 hg w54 hbox hb; have n0_ := Aside0.mk (below_step (by repeat (first | (with_reducible first | exact HB.out | apply below_alloc | apply pw_below_drewN | apply below_drew1) | exact HB.out)) hb); have n1_ := Aside0.mk (hbox); have n2_ := Aside0.mk ((by rw [hg]; exact (below_size (by repeat (first | (with_reducible first | exact HB.out | apply below_alloc | apply pw_below_drewN | apply below_drew1) | exact HB.out))) : w.heap.size ≤ gb175)); have n3_ := Aside0.mk ((by rw [hg]; exact (below_size (by repeat (first | (with_reducible first | exact HB.out | apply below_alloc | apply pw_below_drewN | apply below_drew1) | exact HB.out))) : w.heap.size ≤ gb175)); clear HB; have HB := n0_; have BK175 := n1_; have GW175 := n2_; have GE175 := n3_; clear n0_ n1_ n2_ n3_; clear hb hbox hg) | ((with_reducible refine gate_dst (N := 3) rfl ?_); refine box_event ?hg (N := 3) ?hd (cs := #[.bool a1_0, .bool a1_1, .slice A1_2 l1_2.length c1_2, .slice A1_3 l1_3.length c1_3, .slice A1_4 l1_4.length c1_4, .slice A1_5 l1_5.length c1_5, .bool a1_6, .bool a1_7]) (t := 25) ?hr ?_; (case hd => rfl); (case hg => rfl); (case hr => first | (go_simp; done) | (go_simp; rfl)); intro gb176 hg w55 hbox hb; have n0_ := Aside0.mk (blk_below (g := gb175) (o := .cells #[.bool a0_0, .bool a0_1, .slice A0_2 l0_2.length c0_2, .slice A0_3 l0_3.length c0_3, .slice A0_4 l0_4.length c0_4, .slice A0_5 l0_5.length c0_5, .bool a0_6, .bool a0_7] 25 (0, 0)) (by exact BK175.out) hb); have n1_ := Aside0.mk (below_step (by repeat (first | (with_reducible first | exact HB.out | apply below_alloc | apply pw_below_drewN | apply below_drew1 | refine below_set ?_ GE175.out) | exact HB.out)) hb); have n2_ := Aside0.mk (hbox); have n3_ := Aside0.mk ((by rw [hg]; exact (below_size (by repeat (first | (with_reducible first | exact HB.out | apply below_alloc | apply pw_below_drewN | apply below_drew1 | refine below_set ?_ GE175.out) | exact HB.out))) : w.heap.size ≤ gb176)); have n4_ := Aside0.mk ((by rw [hg]; exact (below_size (by repeat (first | (with_reducible first | exact HB.out | apply below_alloc | apply pw_below_drewN | apply below_drew1 | refine below_set ?_ GE175.out) | exact HB.out))) : w.heap.size ≤ gb176)); have n5_ := Aside0.mk ((by rw [hg]; exact Nat.ne_of_lt (blk_lt (g := gb175) (o := .cells #[.bool a0_0, .bool a0_1, .slice A0_2 l0_2.length c0_2, .slice A0_3 l0_3.length c0_3, .slice A0_4 l0_4.length c0_4, .slice A0_5 l0_5.length c0_5, .bool a0_6, .bool a0_7] 25 (0, 0)) (by exact BK175.out)) : gb175 ≠ gb176)); have n6_ := Aside0.mk ((by rw [hg]; exact Nat.ne_of_gt (blk_lt (g := gb175) (o := .cells #[.bool a0_0, .bool a0_1, .slice A0_2 l0_2.length c0_2, .slice A0_3 l0_3.length c0_3, .slice A0_4 l0_4.length c0_4, .slice A0_5 l0_5.length c0_5, .bool a0_6, .bool a0_7] 25 (0, 0)) (by exact BK175.out)) : gb176 ≠ gb175)); clear BK175; clear HB; have BK175 := n0_; have HB := n1_; have BK176 := n2_; have GW176 := n3_; have GE176 := n4_; have NB175_176 := n5_; have NB176_175 := n6_; clear n0_ n1_ n2_ n3_ n4_ n5_ n6_; clear hb hbox hg; have hnb56 := NB175_176.out; have hnc56 := NB176_175.out; have hcz57_0 : w55.cell? ⟨gb175, 0, none⟩ = some (.bool a0_0) := (blk_cell BK175.out 0).trans rfl; have hcz57_1 : w55.cell? ⟨gb175, 1, none⟩ = some (.bool a0_1) := (blk_cell BK175.out 1).trans rfl; have hcz57_2 : w55.cell? ⟨gb175, 2, none⟩ = some (.slice A0_2 l0_2.length c0_2) := (blk_cell BK175.out 2).trans rfl; have hcz57_3 : w55.cell? ⟨gb175, 3, none⟩ = some (.slice A0_3 l0_3.length c0_3) := (blk_cell BK175.out 3).trans rfl; have hcz57_4 : w55.cell? ⟨gb175, 4, none⟩ = some (.slice A0_4 l0_4.length c0_4) := (blk_cell BK175.out 4).trans rfl; have hcz57_5 : w55.cell? ⟨gb175, 5, none⟩ = some (.slice A0_5 l0_5.length c0_5) := (blk_cell BK175.out 5).trans rfl; have hcz57_6 : w55.cell? ⟨gb175, 6, none⟩ = some (.bool a0_6) := (blk_cell BK175.out 6).trans rfl; have hcz57_7 : w55.cell? ⟨gb175, 7, none⟩ = some (.bool a0_7) := (blk_cell BK175.out 7).trans rfl; have hfz57_0 := blk_frozen BK175.out 0; have hfz57_1 := blk_frozen BK175.out 1; have hfz57_2 := blk_frozen BK175.out 2; have hfz57_3 := blk_frozen BK175.out 3; have hfz57_4 := blk_frozen BK175.out 4; have hfz57_5 := blk_frozen BK175.out 5; have hfz57_6 := blk_frozen BK175.out 6; have hfz57_7 := blk_frozen BK175.out 7; have hcz58_0 : w55.cell? ⟨gb176, 0, none⟩ = some (.bool a1_0) := (blk_cell BK176.out 0).trans rfl; have hcz58_1 : w55.cell? ⟨gb176, 1, none⟩ = some (.bool a1_1) := (blk_cell BK176.out 1).trans rfl; have hcz58_2 : w55.cell? ⟨gb176, 2, none⟩ = some (.slice A1_2 l1_2.length c1_2) := (blk_cell BK176.out 2).trans rfl; have hcz58_3 : w55.cell? ⟨gb176, 3, none⟩ = some (.slice A1_3 l1_3.length c1_3) := (blk_cell BK176.out 3).trans rfl; have hcz58_4 : w55.cell? ⟨gb176, 4, none⟩ = some (.slice A1_4 l1_4.length c1_4) := (blk_cell BK176.out 4).trans rfl; have hcz58_5 : w55.cell? ⟨gb176, 5, none⟩ = some (.slice A1_5 l1_5.length c1_5) := (blk_cell BK176.out 5).trans rfl; have hcz58_6 : w55.cell? ⟨gb176, 6, none⟩ = some (.bool a1_6) := (blk_cell BK176.out 6).trans rfl; have hcz58_7 : w55.cell? ⟨gb176, 7, none⟩ = some (.bool a1_7) := (blk_cell BK176.out 7).trans rfl; have hfz58_0 := blk_frozen BK176.out 0; have hfz58_1 := blk_frozen BK176.out 1; have hfz58_2 := blk_frozen BK176.out 2; have hfz58_3 := blk_frozen BK176.out 3; have hfz58_4 := blk_frozen BK176.out 4; have hfz58_5 := blk_frozen BK176.out 5; have hfz58_6 := blk_frozen BK176.out 6; have hfz58_7 := blk_frozen BK176.out 7)))
  go_ret
  exact ⟨by first | rfl | (simp [errW_none, errW_some] <;> rfl) | (simp [*, errW_none, errW_some] <;> rfl), by repeat (first | (with_reducible first | exact HB.out | apply below_alloc | apply pw_below_drewN | apply below_drew1 | refine below_set ?_ GE175.out | refine below_set ?_ GE176.out) | exact HB.out)⟩

/-! ### config_Element: function 13 -/
def config_Element.f (k : Nat) (a0_0 : Bool) (a0_1 : Bool) (l0_2 : List ByteArray) (l0_3 : List ByteArray) (l0_4 : List ByteArray) (l0_5 : List (S35)) (a0_6 : Bool) (a0_7 : Bool) (a1 : ByteArray) : Option (Int) := (slices_Contains_string_string.f k l0_3 a1).bind fun t186 => (if t186 = true then (some 2) else ((slices_Contains_string_string.f k l0_2 a1).bind fun t187 => (if (t187 != a0_0) = true then (some 1) else (some 0))))
set_option maxHeartbeats 8000000 in
set_option maxRecDepth 100000 in
theorem config_Element.calls (k : Nat) (a0_0 : Bool) (a0_1 : Bool) (A0_2 : Option Addr) (c0_2 : Nat) (l0_2 : List ByteArray) (A0_3 : Option Addr) (c0_3 : Nat) (l0_3 : List ByteArray) (A0_4 : Option Addr) (c0_4 : Nat) (l0_4 : List ByteArray) (A0_5 : Option Addr) (c0_5 : Nat) (l0_5 : List (S35)) (a0_6 : Bool) (a0_7 : Bool) (a1 : ByteArray) (r : Int) (w : World) (hr0_2 : Kd.C Kd.string w A0_2 l0_2.length l0_2) (hc0_2 : l0_2.length ≤ c0_2) (hr0_3 : Kd.C Kd.string w A0_3 l0_3.length l0_3) (hc0_3 : l0_3.length ≤ c0_3) (hr0_4 : Kd.C Kd.string w A0_4 l0_4.length l0_4) (hc0_4 : l0_4.length ≤ c0_4) (hr0_5 : Kd.C k35 w A0_5 l0_5.length l0_5) (hc0_5 : l0_5.length ≤ c0_5) (h : config_Element.f k a0_0 a0_1 l0_2 l0_3 l0_4 l0_5 a0_6 a0_7 a1 = some r) :
  Calls Try.prog 13 #[.agg #[.bool a0_0, .bool a0_1, .slice A0_2 l0_2.length c0_2, .slice A0_3 l0_3.length c0_3, .slice A0_4 l0_4.length c0_4, .slice A0_5 l0_5.length c0_5, .bool a0_6, .bool a0_7], .string a1] w fun e w' => e = .returned (.int .i64 r) ∧ Below w.heap.size w w' := by
 have hu25 := Try.underlying25
 have HR0_2 := Aside0.mk hr0_2
 have HC0_2 := Aside0.mk hc0_2
 clear hr0_2 hc0_2
 have HR0_3 := Aside0.mk hr0_3
 have HC0_3 := Aside0.mk hc0_3
 clear hr0_3 hc0_3
 have HR0_4 := Aside0.mk hr0_4
 have HC0_4 := Aside0.mk hc0_4
 clear hr0_4 hc0_4
 have HR0_5 := Aside0.mk hr0_5
 have HC0_5 := Aside0.mk hc0_5
 clear hr0_5 hc0_5
 have HB := Aside0.mk (Below.refl w.heap.size w)
 have H : ((slices_Contains_string_string.f k l0_3 a1).bind fun t186 => (if t186 = true then (some 2) else ((slices_Contains_string_string.f k l0_2 a1).bind fun t187 => (if (t187 != a0_0) = true then (some 1) else (some 0))))) = some r := h
 clear h
 replace H := Option.bind_eq_some_iff.mp H
 obtain ⟨t186, A30, H⟩ := H
 replace H : (if t186 = true then (some 2) else ((slices_Contains_string_string.f k l0_2 a1).bind fun t187 => (if (t187 != a0_0) = true then (some 1) else (some 0)))) = some r := H
 have A3 := Aside0.mk A30
 clear A30
 by_cases c4 : t186 = true
 ·subst c4
  have H1 : (some 2) = some r := by rw [if_pos rfl] at H; exact H
  clear H
  have H := H1
  clear H1
  obtain rfl := Option.some.inj H
  go_enter Try.func13, Try.ntmps13
  go_wp2_with (first | ((with_reducible refine gate_dst (N := 2) rfl ?_); refine box_event ?hg (N := 2) ?hd (cs := #[.bool a0_0, .bool a0_1, .slice A0_2 l0_2.length c0_2, .slice A0_3 l0_3.length c0_3, .slice A0_4 l0_4.length c0_4, .slice A0_5 l0_5.length c0_5, .bool a0_6, .bool a0_7]) (t := 25) ?hr ?_; (case hd => rfl); (case hg => rfl); (case hr => first | (go_simp; done) | (go_simp; rfl)); intro gb185 hg w5 hbox hb; have n0_ := Aside0.mk (below_step (by repeat (first | (with_reducible first | exact HB.out | apply below_alloc | apply pw_below_drewN | apply below_drew1) | exact HB.out)) hb); have n1_ := Aside0.mk (hbox); have n2_ := Aside0.mk ((by rw [hg]; exact (below_size (by repeat (first | (with_reducible first | exact HB.out | apply below_alloc | apply pw_below_drewN | apply below_drew1) | exact HB.out))) : w.heap.size ≤ gb185)); have n3_ := Aside0.mk ((by rw [hg]; exact (below_size (by repeat (first | (with_reducible first | exact HB.out | apply below_alloc | apply pw_below_drewN | apply below_drew1) | exact HB.out))) : w.heap.size ≤ gb185)); clear HB; have HB := n0_; have BK185 := n1_; have GW185 := n2_; have GE185 := n3_; clear n0_ n1_ n2_ n3_; clear hb hbox hg; have hcz6_0 : w5.cell? ⟨gb185, 0, none⟩ = some (.bool a0_0) := (blk_cell BK185.out 0).trans rfl; have hcz6_1 : w5.cell? ⟨gb185, 1, none⟩ = some (.bool a0_1) := (blk_cell BK185.out 1).trans rfl; have hcz6_2 : w5.cell? ⟨gb185, 2, none⟩ = some (.slice A0_2 l0_2.length c0_2) := (blk_cell BK185.out 2).trans rfl; have hcz6_3 : w5.cell? ⟨gb185, 3, none⟩ = some (.slice A0_3 l0_3.length c0_3) := (blk_cell BK185.out 3).trans rfl; have hcz6_4 : w5.cell? ⟨gb185, 4, none⟩ = some (.slice A0_4 l0_4.length c0_4) := (blk_cell BK185.out 4).trans rfl; have hcz6_5 : w5.cell? ⟨gb185, 5, none⟩ = some (.slice A0_5 l0_5.length c0_5) := (blk_cell BK185.out 5).trans rfl; have hcz6_6 : w5.cell? ⟨gb185, 6, none⟩ = some (.bool a0_6) := (blk_cell BK185.out 6).trans rfl; have hcz6_7 : w5.cell? ⟨gb185, 7, none⟩ = some (.bool a0_7) := (blk_cell BK185.out 7).trans rfl; have hfz6_0 := blk_frozen BK185.out 0; have hfz6_1 := blk_frozen BK185.out 1; have hfz6_2 := blk_frozen BK185.out 2; have hfz6_3 := blk_frozen BK185.out 3; have hfz6_4 := blk_frozen BK185.out 4; have hfz6_5 := blk_frozen BK185.out 5; have hfz6_6 := blk_frozen BK185.out 6; have hfz6_7 := blk_frozen BK185.out 7) | (go_at_call 31; (with_reducible refine (slices_Contains_string_string.calls k _ _ l0_3 a1 true _ ?side1 ?side2 A3.out).mono ?_); (case side1 => repeat (first | exact (Kd.C_below HR0_3.out HB.out) | (with_reducible refine Kd.C_alloc ?_ _) | (with_reducible refine Kd.C_drewN ?_ _) | (with_reducible refine Kd.C_drew ?_))); (case side2 => exact HC0_3.out); rintro e w' ⟨rfl, ⟨nd, rfl⟩⟩; (try first | exact ⟨rfl, _, World.drewN_drewN _ _ _⟩ | exact ⟨rfl, _, Eq.trans (World.drewN_drewN _ _ _) (congrArg (World.drewN _) (Nat.add_assoc _ _ _))⟩)))
  repeat (go_quiet (first | ((with_reducible refine gate_dst (N := 2) rfl ?_); refine box_event ?hg (N := 2) ?hd (cs := #[.bool a0_0, .bool a0_1, .slice A0_2 l0_2.length c0_2, .slice A0_3 l0_3.length c0_3, .slice A0_4 l0_4.length c0_4, .slice A0_5 l0_5.length c0_5, .bool a0_6, .bool a0_7]) (t := 25) ?hr ?_; (case hd => rfl); (case hg => rfl); (case hr => first | (go_simp; done) | (go_simp; rfl)); intro gb185 hg w5 hbox hb; have n0_ := Aside0.mk (below_step (by repeat (first | (with_reducible first | exact HB.out | apply below_alloc | apply pw_below_drewN | apply below_drew1) | exact HB.out)) hb); have n1_ := Aside0.mk (hbox); have n2_ := Aside0.mk ((by rw [hg]; exact (below_size (by repeat (first | (with_reducible first | exact HB.out | apply below_alloc | apply pw_below_drewN | apply below_drew1) | exact HB.out))) : w.heap.size ≤ gb185)); have n3_ := Aside0.mk ((by rw [hg]; exact (below_size (by repeat (first | (with_reducible first | exact HB.out | apply below_alloc | apply pw_below_drewN | apply below_drew1) | exact HB.out))) : w.heap.size ≤ gb185)); clear HB; have HB := n0_; have BK185 := n1_; have GW185 := n2_; have GE185 := n3_; clear n0_ n1_ n2_ n3_; clear hb hbox hg; have hcz6_0 : w5.cell? ⟨gb185, 0, none⟩ = some (.bool a0_0) := (blk_cell BK185.out 0).trans rfl; have hcz6_1 : w5.cell? ⟨gb185, 1, none⟩ = some (.bool a0_1) := (blk_cell BK185.out 1).trans rfl; have hcz6_2 : w5.cell? ⟨gb185, 2, none⟩ = some (.slice A0_2 l0_2.length c0_2) := (blk_cell BK185.out 2).trans rfl; have hcz6_3 : w5.cell? ⟨gb185, 3, none⟩ = some (.slice A0_3 l0_3.length c0_3) := (blk_cell BK185.out 3).trans rfl; have hcz6_4 : w5.cell? ⟨gb185, 4, none⟩ = some (.slice A0_4 l0_4.length c0_4) := (blk_cell BK185.out 4).trans rfl; have hcz6_5 : w5.cell? ⟨gb185, 5, none⟩ = some (.slice A0_5 l0_5.length c0_5) := (blk_cell BK185.out 5).trans rfl; have hcz6_6 : w5.cell? ⟨gb185, 6, none⟩ = some (.bool a0_6) := (blk_cell BK185.out 6).trans rfl; have hcz6_7 : w5.cell? ⟨gb185, 7, none⟩ = some (.bool a0_7) := (blk_cell BK185.out 7).trans rfl; have hfz6_0 := blk_frozen BK185.out 0; have hfz6_1 := blk_frozen BK185.out 1; have hfz6_2 := blk_frozen BK185.out 2; have hfz6_3 := blk_frozen BK185.out 3; have hfz6_4 := blk_frozen BK185.out 4; have hfz6_5 := blk_frozen BK185.out 5; have hfz6_6 := blk_frozen BK185.out 6; have hfz6_7 := blk_frozen BK185.out 7) | (go_at_call 31; (with_reducible refine (slices_Contains_string_string.calls k _ _ l0_3 a1 true _ ?side1 ?side2 A3.out).mono ?_); (case side1 => repeat (first | exact (Kd.C_below HR0_3.out HB.out) | (with_reducible refine Kd.C_alloc ?_ _) | (with_reducible refine Kd.C_drewN ?_ _) | (with_reducible refine Kd.C_drew ?_))); (case side2 => exact HC0_3.out); rintro e w' ⟨rfl, ⟨nd, rfl⟩⟩; (try first | exact ⟨rfl, _, World.drewN_drewN _ _ _⟩ | exact ⟨rfl, _, Eq.trans (World.drewN_drewN _ _ _) (congrArg (World.drewN _) (Nat.add_assoc _ _ _))⟩))); try go_wp2_with (first | ((with_reducible refine gate_dst (N := 2) rfl ?_); refine box_event ?hg (N := 2) ?hd (cs := #[.bool a0_0, .bool a0_1, .slice A0_2 l0_2.length c0_2, .slice A0_3 l0_3.length c0_3, .slice A0_4 l0_4.length c0_4, .slice A0_5 l0_5.length c0_5, .bool a0_6, .bool a0_7]) (t := 25) ?hr ?_; (case hd => rfl); (case hg => rfl); (case hr => first | (go_simp; done) | (go_simp; rfl)); intro gb185 hg w5 hbox hb; have n0_ := Aside0.mk (below_step (by repeat (first | (with_reducible first | exact HB.out | apply below_alloc | apply pw_below_drewN | apply below_drew1) | exact HB.out)) hb); have n1_ := Aside0.mk (hbox); have n2_ := Aside0.mk ((by rw [hg]; exact (below_size (by repeat (first | (with_reducible first | exact HB.out | apply below_alloc | apply pw_below_drewN | apply below_drew1) | exact HB.out))) : w.heap.size ≤ gb185)); have n3_ := Aside0.mk ((by rw [hg]; exact (below_size (by repeat (first | (with_reducible first | exact HB.out | apply below_alloc | apply pw_below_drewN | apply below_drew1) | exact HB.out))) : w.heap.size ≤ gb185)); clear HB; have HB := n0_; have BK185 := n1_; have GW185 := n2_; have GE185 := n3_; clear n0_ n1_ n2_ n3_; clear hb hbox hg; have hcz6_0 : w5.cell? ⟨gb185, 0, none⟩ = some (.bool a0_0) := (blk_cell BK185.out 0).trans rfl; have hcz6_1 : w5.cell? ⟨gb185, 1, none⟩ = some (.bool a0_1) := (blk_cell BK185.out 1).trans rfl; have hcz6_2 : w5.cell? ⟨gb185, 2, none⟩ = some (.slice A0_2 l0_2.length c0_2) := (blk_cell BK185.out 2).trans rfl; have hcz6_3 : w5.cell? ⟨gb185, 3, none⟩ = some (.slice A0_3 l0_3.length c0_3) := (blk_cell BK185.out 3).trans rfl; have hcz6_4 : w5.cell? ⟨gb185, 4, none⟩ = some (.slice A0_4 l0_4.length c0_4) := (blk_cell BK185.out 4).trans rfl; have hcz6_5 : w5.cell? ⟨gb185, 5, none⟩ = some (.slice A0_5 l0_5.length c0_5) := (blk_cell BK185.out 5).trans rfl; have hcz6_6 : w5.cell? ⟨gb185, 6, none⟩ = some (.bool a0_6) := (blk_cell BK185.out 6).trans rfl; have hcz6_7 : w5.cell? ⟨gb185, 7, none⟩ = some (.bool a0_7) := (blk_cell BK185.out 7).trans rfl; have hfz6_0 := blk_frozen BK185.out 0; have hfz6_1 := blk_frozen BK185.out 1; have hfz6_2 := blk_frozen BK185.out 2; have hfz6_3 := blk_frozen BK185.out 3; have hfz6_4 := blk_frozen BK185.out 4; have hfz6_5 := blk_frozen BK185.out 5; have hfz6_6 := blk_frozen BK185.out 6; have hfz6_7 := blk_frozen BK185.out 7) | (go_at_call 31; (with_reducible refine (slices_Contains_string_string.calls k _ _ l0_3 a1 true _ ?side1 ?side2 A3.out).mono ?_); (case side1 => repeat (first | exact (Kd.C_below HR0_3.out HB.out) | (with_reducible refine Kd.C_alloc ?_ _) | (with_reducible refine Kd.C_drewN ?_ _) | (with_reducible refine Kd.C_drew ?_))); (case side2 => exact HC0_3.out); rintro e w' ⟨rfl, ⟨nd, rfl⟩⟩; (try first | exact ⟨rfl, _, World.drewN_drewN _ _ _⟩ | exact ⟨rfl, _, Eq.trans (World.drewN_drewN _ _ _) (congrArg (World.drewN _) (Nat.add_assoc _ _ _))⟩))))
  go_ret
  exact ⟨by first | rfl | (simp [errW_none, errW_some] <;> rfl) | (simp [*, errW_none, errW_some] <;> rfl), by repeat (first | (with_reducible first | exact HB.out | apply below_alloc | apply pw_below_drewN | apply below_drew1 | refine below_set ?_ GE185.out) | exact HB.out)⟩
 ·replace c4 := Bool.eq_false_iff.mpr c4
  subst c4
  have H1 : ((slices_Contains_string_string.f k l0_2 a1).bind fun t187 => (if (t187 != a0_0) = true then (some 1) else (some 0))) = some r := by rw [if_neg (show ¬ (false = true) by decide)] at H; exact H
  clear H
  have H := H1
  clear H1
  replace H := Option.bind_eq_some_iff.mp H
  obtain ⟨t187, A70, H⟩ := H
  replace H : (if (t187 != a0_0) = true then (some 1) else (some 0)) = some r := H
  have A7 := Aside0.mk A70
  clear A70
  by_cases c8 : (t187 != a0_0) = true
  ·rw [if_pos c8] at H
   have c8b0 : (t187 != a0_0) = true := c8
   (try (have c8b1 : decide (t187 = a0_0) = false := by simpa using c8))
   (try (have c8b2 : (t187 == a0_0) = false := by simpa using c8))
   (try (have c8b3 : ¬ (t187 = a0_0) := by simpa using c8))
   clear c8
   obtain rfl := Option.some.inj H
   go_enter Try.func13, Try.ntmps13
   go_wp2_with (first | ((with_reducible refine gate_dst (N := 2) rfl ?_); refine box_event ?hg (N := 2) ?hd (cs := #[.bool a0_0, .bool a0_1, .slice A0_2 l0_2.length c0_2, .slice A0_3 l0_3.length c0_3, .slice A0_4 l0_4.length c0_4, .slice A0_5 l0_5.length c0_5, .bool a0_6, .bool a0_7]) (t := 25) ?hr ?_; (case hd => rfl); (case hg => rfl); (case hr => first | (go_simp; done) | (go_simp; rfl)); intro gb185 hg w9 hbox hb; have n0_ := Aside0.mk (below_step (by repeat (first | (with_reducible first | exact HB.out | apply below_alloc | apply pw_below_drewN | apply below_drew1) | exact HB.out)) hb); have n1_ := Aside0.mk (hbox); have n2_ := Aside0.mk ((by rw [hg]; exact (below_size (by repeat (first | (with_reducible first | exact HB.out | apply below_alloc | apply pw_below_drewN | apply below_drew1) | exact HB.out))) : w.heap.size ≤ gb185)); have n3_ := Aside0.mk ((by rw [hg]; exact (below_size (by repeat (first | (with_reducible first | exact HB.out | apply below_alloc | apply pw_below_drewN | apply below_drew1) | exact HB.out))) : w.heap.size ≤ gb185)); clear HB; have HB := n0_; have BK185 := n1_; have GW185 := n2_; have GE185 := n3_; clear n0_ n1_ n2_ n3_; clear hb hbox hg; have hcz10_0 : w9.cell? ⟨gb185, 0, none⟩ = some (.bool a0_0) := (blk_cell BK185.out 0).trans rfl; have hcz10_1 : w9.cell? ⟨gb185, 1, none⟩ = some (.bool a0_1) := (blk_cell BK185.out 1).trans rfl; have hcz10_2 : w9.cell? ⟨gb185, 2, none⟩ = some (.slice A0_2 l0_2.length c0_2) := (blk_cell BK185.out 2).trans rfl; have hcz10_3 : w9.cell? ⟨gb185, 3, none⟩ = some (.slice A0_3 l0_3.length c0_3) := (blk_cell BK185.out 3).trans rfl; have hcz10_4 : w9.cell? ⟨gb185, 4, none⟩ = some (.slice A0_4 l0_4.length c0_4) := (blk_cell BK185.out 4).trans rfl; have hcz10_5 : w9.cell? ⟨gb185, 5, none⟩ = some (.slice A0_5 l0_5.length c0_5) := (blk_cell BK185.out 5).trans rfl; have hcz10_6 : w9.cell? ⟨gb185, 6, none⟩ = some (.bool a0_6) := (blk_cell BK185.out 6).trans rfl; have hcz10_7 : w9.cell? ⟨gb185, 7, none⟩ = some (.bool a0_7) := (blk_cell BK185.out 7).trans rfl; have hfz10_0 := blk_frozen BK185.out 0; have hfz10_1 := blk_frozen BK185.out 1; have hfz10_2 := blk_frozen BK185.out 2; have hfz10_3 := blk_frozen BK185.out 3; have hfz10_4 := blk_frozen BK185.out 4; have hfz10_5 := blk_frozen BK185.out 5; have hfz10_6 := blk_frozen BK185.out 6; have hfz10_7 := blk_frozen BK185.out 7) | (go_at_call 31; (with_reducible refine (slices_Contains_string_string.calls k _ _ l0_3 a1 false _ ?side1 ?side2 A3.out).mono ?_); (case side1 => repeat (first | exact (Kd.C_below HR0_3.out HB.out) | (with_reducible refine Kd.C_alloc ?_ _) | (with_reducible refine Kd.C_drewN ?_ _) | (with_reducible refine Kd.C_drew ?_))); (case side2 => exact HC0_3.out); rintro e w' ⟨rfl, ⟨nd, rfl⟩⟩; (try first | exact ⟨rfl, _, World.drewN_drewN _ _ _⟩ | exact ⟨rfl, _, Eq.trans (World.drewN_drewN _ _ _) (congrArg (World.drewN _) (Nat.add_assoc _ _ _))⟩)) | (go_at_call 31; (with_reducible refine (slices_Contains_string_string.calls k _ _ l0_2 a1 t187 _ ?side1 ?side2 A7.out).mono ?_); (case side1 => repeat (first | exact (Kd.C_below HR0_2.out (by repeat (first | (with_reducible first | exact HB.out | apply below_alloc | apply pw_below_drewN | apply below_drew1 | refine below_set ?_ GE185.out) | exact HB.out))) | (with_reducible refine Kd.C_alloc ?_ _) | (with_reducible refine Kd.C_drewN ?_ _) | (with_reducible refine Kd.C_drew ?_))); (case side2 => exact HC0_2.out); rintro e w' ⟨rfl, ⟨nd, rfl⟩⟩; (try first | exact ⟨rfl, _, World.drewN_drewN _ _ _⟩ | exact ⟨rfl, _, Eq.trans (World.drewN_drewN _ _ _) (congrArg (World.drewN _) (Nat.add_assoc _ _ _))⟩)))
   repeat (go_quiet (first | ((with_reducible refine gate_dst (N := 2) rfl ?_); refine box_event ?hg (N := 2) ?hd (cs := #[.bool a0_0, .bool a0_1, .slice A0_2 l0_2.length c0_2, .slice A0_3 l0_3.length c0_3, .slice A0_4 l0_4.length c0_4, .slice A0_5 l0_5.length c0_5, .bool a0_6, .bool a0_7]) (t := 25) ?hr ?_; (case hd => rfl); (case hg => rfl); (case hr => first | (go_simp; done) | (go_simp; rfl)); intro gb185 hg w9 hbox hb; have n0_ := Aside0.mk (below_step (by repeat (first | (with_reducible first | exact HB.out | apply below_alloc | apply pw_below_drewN | apply below_drew1) | exact HB.out)) hb); have n1_ := Aside0.mk (hbox); have n2_ := Aside0.mk ((by rw [hg]; exact (below_size (by repeat (first | (with_reducible first | exact HB.out | apply below_alloc | apply pw_below_drewN | apply below_drew1) | exact HB.out))) : w.heap.size ≤ gb185)); have n3_ := Aside0.mk ((by rw [hg]; exact (below_size (by repeat (first | (with_reducible first | exact HB.out | apply below_alloc | apply pw_below_drewN | apply below_drew1) | exact HB.out))) : w.heap.size ≤ gb185)); clear HB; have HB := n0_; have BK185 := n1_; have GW185 := n2_; have GE185 := n3_; clear n0_ n1_ n2_ n3_; clear hb hbox hg; have hcz10_0 : w9.cell? ⟨gb185, 0, none⟩ = some (.bool a0_0) := (blk_cell BK185.out 0).trans rfl; have hcz10_1 : w9.cell? ⟨gb185, 1, none⟩ = some (.bool a0_1) := (blk_cell BK185.out 1).trans rfl; have hcz10_2 : w9.cell? ⟨gb185, 2, none⟩ = some (.slice A0_2 l0_2.length c0_2) := (blk_cell BK185.out 2).trans rfl; have hcz10_3 : w9.cell? ⟨gb185, 3, none⟩ = some (.slice A0_3 l0_3.length c0_3) := (blk_cell BK185.out 3).trans rfl; have hcz10_4 : w9.cell? ⟨gb185, 4, none⟩ = some (.slice A0_4 l0_4.length c0_4) := (blk_cell BK185.out 4).trans rfl; have hcz10_5 : w9.cell? ⟨gb185, 5, none⟩ = some (.slice A0_5 l0_5.length c0_5) := (blk_cell BK185.out 5).trans rfl; have hcz10_6 : w9.cell? ⟨gb185, 6, none⟩ = some (.bool a0_6) := (blk_cell BK185.out 6).trans rfl; have hcz10_7 : w9.cell? ⟨gb185, 7, none⟩ = some (.bool a0_7) := (blk_cell BK185.out 7).trans rfl; have hfz10_0 := blk_frozen BK185.out 0; have hfz10_1 := blk_frozen BK185.out 1; have hfz10_2 := blk_frozen BK185.out 2; have hfz10_3 := blk_frozen BK185.out 3; have hfz10_4 := blk_frozen BK185.out 4; have hfz10_5 := blk_frozen BK185.out 5; have hfz10_6 := blk_frozen BK185.out 6; have hfz10_7 := blk_frozen BK185.out 7) | (go_at_call 31; (with_reducible refine (slices_Contains_string_string.calls k _ _ l0_3 a1 false _ ?side1 ?side2 A3.out).mono ?_); (case side1 => repeat (first | exact (Kd.C_below HR0_3.out HB.out) | (with_reducible refine Kd.C_alloc ?_ _) | (with_reducible refine Kd.C_drewN ?_ _) | (with_reducible refine Kd.C_drew ?_))); (case side2 => exact HC0_3.out); rintro e w' ⟨rfl, ⟨nd, rfl⟩⟩; (try first | exact ⟨rfl, _, World.drewN_drewN _ _ _⟩ | exact ⟨rfl, _, Eq.trans (World.drewN_drewN _ _ _) (congrArg (World.drewN _) (Nat.add_assoc _ _ _))⟩)) | (go_at_call 31; (with_reducible refine (slices_Contains_string_string.calls k _ _ l0_2 a1 t187 _ ?side1 ?side2 A7.out).mono ?_); (case side1 => repeat (first | exact (Kd.C_below HR0_2.out (by repeat (first | (with_reducible first | exact HB.out | apply below_alloc | apply pw_below_drewN | apply below_drew1 | refine below_set ?_ GE185.out) | exact HB.out))) | (with_reducible refine Kd.C_alloc ?_ _) | (with_reducible refine Kd.C_drewN ?_ _) | (with_reducible refine Kd.C_drew ?_))); (case side2 => exact HC0_2.out); rintro e w' ⟨rfl, ⟨nd, rfl⟩⟩; (try first | exact ⟨rfl, _, World.drewN_drewN _ _ _⟩ | exact ⟨rfl, _, Eq.trans (World.drewN_drewN _ _ _) (congrArg (World.drewN _) (Nat.add_assoc _ _ _))⟩))); try go_wp2_with (first | ((with_reducible refine gate_dst (N := 2) rfl ?_); refine box_event ?hg (N := 2) ?hd (cs := #[.bool a0_0, .bool a0_1, .slice A0_2 l0_2.length c0_2, .slice A0_3 l0_3.length c0_3, .slice A0_4 l0_4.length c0_4, .slice A0_5 l0_5.length c0_5, .bool a0_6, .bool a0_7]) (t := 25) ?hr ?_; (case hd => rfl); (case hg => rfl); (case hr => first | (go_simp; done) | (go_simp; rfl)); intro gb185 hg w9 hbox hb; have n0_ := Aside0.mk (below_step (by repeat (first | (with_reducible first | exact HB.out | apply below_alloc | apply pw_below_drewN | apply below_drew1) | exact HB.out)) hb); have n1_ := Aside0.mk (hbox); have n2_ := Aside0.mk ((by rw [hg]; exact (below_size (by repeat (first | (with_reducible first | exact HB.out | apply below_alloc | apply pw_below_drewN | apply below_drew1) | exact HB.out))) : w.heap.size ≤ gb185)); have n3_ := Aside0.mk ((by rw [hg]; exact (below_size (by repeat (first | (with_reducible first | exact HB.out | apply below_alloc | apply pw_below_drewN | apply below_drew1) | exact HB.out))) : w.heap.size ≤ gb185)); clear HB; have HB := n0_; have BK185 := n1_; have GW185 := n2_; have GE185 := n3_; clear n0_ n1_ n2_ n3_; clear hb hbox hg; have hcz10_0 : w9.cell? ⟨gb185, 0, none⟩ = some (.bool a0_0) := (blk_cell BK185.out 0).trans rfl; have hcz10_1 : w9.cell? ⟨gb185, 1, none⟩ = some (.bool a0_1) := (blk_cell BK185.out 1).trans rfl; have hcz10_2 : w9.cell? ⟨gb185, 2, none⟩ = some (.slice A0_2 l0_2.length c0_2) := (blk_cell BK185.out 2).trans rfl; have hcz10_3 : w9.cell? ⟨gb185, 3, none⟩ = some (.slice A0_3 l0_3.length c0_3) := (blk_cell BK185.out 3).trans rfl; have hcz10_4 : w9.cell? ⟨gb185, 4, none⟩ = some (.slice A0_4 l0_4.length c0_4) := (blk_cell BK185.out 4).trans rfl; have hcz10_5 : w9.cell? ⟨gb185, 5, none⟩ = some (.slice A0_5 l0_5.length c0_5) := (blk_cell BK185.out 5).trans rfl; have hcz10_6 : w9.cell? ⟨gb185, 6, none⟩ = some (.bool a0_6) := (blk_cell BK185.out 6).trans rfl; have hcz10_7 : w9.cell? ⟨gb185, 7, none⟩ = some (.bool a0_7) := (blk_cell BK185.out 7).trans rfl; have hfz10_0 := blk_frozen BK185.out 0; have hfz10_1 := blk_frozen BK185.out 1; have hfz10_2 := blk_frozen BK185.out 2; have hfz10_3 := blk_frozen BK185.out 3; have hfz10_4 := blk_frozen BK185.out 4; have hfz10_5 := blk_frozen BK185.out 5; have hfz10_6 := blk_frozen BK185.out 6; have hfz10_7 := blk_frozen BK185.out 7) | (go_at_call 31; (with_reducible refine (slices_Contains_string_string.calls k _ _ l0_3 a1 false _ ?side1 ?side2 A3.out).mono ?_); (case side1 => repeat (first | exact (Kd.C_below HR0_3.out HB.out) | (with_reducible refine Kd.C_alloc ?_ _) | (with_reducible refine Kd.C_drewN ?_ _) | (with_reducible refine Kd.C_drew ?_))); (case side2 => exact HC0_3.out); rintro e w' ⟨rfl, ⟨nd, rfl⟩⟩; (try first | exact ⟨rfl, _, World.drewN_drewN _ _ _⟩ | exact ⟨rfl, _, Eq.trans (World.drewN_drewN _ _ _) (congrArg (World.drewN _) (Nat.add_assoc _ _ _))⟩)) | (go_at_call 31; (with_reducible refine (slices_Contains_string_string.calls k _ _ l0_2 a1 t187 _ ?side1 ?side2 A7.out).mono ?_); (case side1 => repeat (first | exact (Kd.C_below HR0_2.out (by repeat (first | (with_reducible first | exact HB.out | apply below_alloc | apply pw_below_drewN | apply below_drew1 | refine below_set ?_ GE185.out) | exact HB.out))) | (with_reducible refine Kd.C_alloc ?_ _) | (with_reducible refine Kd.C_drewN ?_ _) | (with_reducible refine Kd.C_drew ?_))); (case side2 => exact HC0_2.out); rintro e w' ⟨rfl, ⟨nd, rfl⟩⟩; (try first | exact ⟨rfl, _, World.drewN_drewN _ _ _⟩ | exact ⟨rfl, _, Eq.trans (World.drewN_drewN _ _ _) (congrArg (World.drewN _) (Nat.add_assoc _ _ _))⟩))))
   go_ret
   exact ⟨by first | rfl | (simp [errW_none, errW_some] <;> rfl) | (simp [*, errW_none, errW_some] <;> rfl), by repeat (first | (with_reducible first | exact HB.out | apply below_alloc | apply pw_below_drewN | apply below_drew1 | refine below_set ?_ GE185.out) | exact HB.out)⟩
  ·rw [if_neg c8] at H
   have c8b0 : (t187 != a0_0) = false := by simpa using c8
   (try (have c8b1 : decide (t187 = a0_0) = true := by simpa using c8))
   (try (have c8b2 : (t187 == a0_0) = true := by simpa using c8))
   clear c8
   obtain rfl := Option.some.inj H
   go_enter Try.func13, Try.ntmps13
   go_wp2_with (first | ((with_reducible refine gate_dst (N := 2) rfl ?_); refine box_event ?hg (N := 2) ?hd (cs := #[.bool a0_0, .bool a0_1, .slice A0_2 l0_2.length c0_2, .slice A0_3 l0_3.length c0_3, .slice A0_4 l0_4.length c0_4, .slice A0_5 l0_5.length c0_5, .bool a0_6, .bool a0_7]) (t := 25) ?hr ?_; (case hd => rfl); (case hg => rfl); (case hr => first | (go_simp; done) | (go_simp; rfl)); intro gb185 hg w11 hbox hb; have n0_ := Aside0.mk (below_step (by repeat (first | (with_reducible first | exact HB.out | apply below_alloc | apply pw_below_drewN | apply below_drew1) | exact HB.out)) hb); have n1_ := Aside0.mk (hbox); have n2_ := Aside0.mk ((by rw [hg]; exact (below_size (by repeat (first | (with_reducible first | exact HB.out | apply below_alloc | apply pw_below_drewN | apply below_drew1) | exact HB.out))) : w.heap.size ≤ gb185)); have n3_ := Aside0.mk ((by rw [hg]; exact (below_size (by repeat (first | (with_reducible first | exact HB.out | apply below_alloc | apply pw_below_drewN | apply below_drew1) | exact HB.out))) : w.heap.size ≤ gb185)); clear HB; have HB := n0_; have BK185 := n1_; have GW185 := n2_; have GE185 := n3_; clear n0_ n1_ n2_ n3_; clear hb hbox hg; have hcz12_0 : w11.cell? ⟨gb185, 0, none⟩ = some (.bool a0_0) := (blk_cell BK185.out 0).trans rfl; have hcz12_1 : w11.cell? ⟨gb185, 1, none⟩ = some (.bool a0_1) := (blk_cell BK185.out 1).trans rfl; have hcz12_2 : w11.cell? ⟨gb185, 2, none⟩ = some (.slice A0_2 l0_2.length c0_2) := (blk_cell BK185.out 2).trans rfl; have hcz12_3 : w11.cell? ⟨gb185, 3, none⟩ = some (.slice A0_3 l0_3.length c0_3) := (blk_cell BK185.out 3).trans rfl; have hcz12_4 : w11.cell? ⟨gb185, 4, none⟩ = some (.slice A0_4 l0_4.length c0_4) := (blk_cell BK185.out 4).trans rfl; have hcz12_5 : w11.cell? ⟨gb185, 5, none⟩ = some (.slice A0_5 l0_5.length c0_5) := (blk_cell BK185.out 5).trans rfl; have hcz12_6 : w11.cell? ⟨gb185, 6, none⟩ = some (.bool a0_6) := (blk_cell BK185.out 6).trans rfl; have hcz12_7 : w11.cell? ⟨gb185, 7, none⟩ = some (.bool a0_7) := (blk_cell BK185.out 7).trans rfl; have hfz12_0 := blk_frozen BK185.out 0; have hfz12_1 := blk_frozen BK185.out 1; have hfz12_2 := blk_frozen BK185.out 2; have hfz12_3 := blk_frozen BK185.out 3; have hfz12_4 := blk_frozen BK185.out 4; have hfz12_5 := blk_frozen BK185.out 5; have hfz12_6 := blk_frozen BK185.out 6; have hfz12_7 := blk_frozen BK185.out 7) | (go_at_call 31; (with_reducible refine (slices_Contains_string_string.calls k _ _ l0_3 a1 false _ ?side1 ?side2 A3.out).mono ?_); (case side1 => repeat (first | exact (Kd.C_below HR0_3.out HB.out) | (with_reducible refine Kd.C_alloc ?_ _) | (with_reducible refine Kd.C_drewN ?_ _) | (with_reducible refine Kd.C_drew ?_))); (case side2 => exact HC0_3.out); rintro e w' ⟨rfl, ⟨nd, rfl⟩⟩; (try first | exact ⟨rfl, _, World.drewN_drewN _ _ _⟩ | exact ⟨rfl, _, Eq.trans (World.drewN_drewN _ _ _) (congrArg (World.drewN _) (Nat.add_assoc _ _ _))⟩)) | (go_at_call 31; (with_reducible refine (slices_Contains_string_string.calls k _ _ l0_2 a1 t187 _ ?side1 ?side2 A7.out).mono ?_); (case side1 => repeat (first | exact (Kd.C_below HR0_2.out (by repeat (first | (with_reducible first | exact HB.out | apply below_alloc | apply pw_below_drewN | apply below_drew1 | refine below_set ?_ GE185.out) | exact HB.out))) | (with_reducible refine Kd.C_alloc ?_ _) | (with_reducible refine Kd.C_drewN ?_ _) | (with_reducible refine Kd.C_drew ?_))); (case side2 => exact HC0_2.out); rintro e w' ⟨rfl, ⟨nd, rfl⟩⟩; (try first | exact ⟨rfl, _, World.drewN_drewN _ _ _⟩ | exact ⟨rfl, _, Eq.trans (World.drewN_drewN _ _ _) (congrArg (World.drewN _) (Nat.add_assoc _ _ _))⟩)))
   repeat (go_quiet (first | ((with_reducible refine gate_dst (N := 2) rfl ?_); refine box_event ?hg (N := 2) ?hd (cs := #[.bool a0_0, .bool a0_1, .slice A0_2 l0_2.length c0_2, .slice A0_3 l0_3.length c0_3, .slice A0_4 l0_4.length c0_4, .slice A0_5 l0_5.length c0_5, .bool a0_6, .bool a0_7]) (t := 25) ?hr ?_; (case hd => rfl); (case hg => rfl); (case hr => first | (go_simp; done) | (go_simp; rfl)); intro gb185 hg w11 hbox hb; have n0_ := Aside0.mk (below_step (by repeat (first | (with_reducible first | exact HB.out | apply below_alloc | apply pw_below_drewN | apply below_drew1) | exact HB.out)) hb); have n1_ := Aside0.mk (hbox); have n2_ := Aside0.mk ((by rw [hg]; exact (below_size (by repeat (first | (with_reducible first | exact HB.out | apply below_alloc | apply pw_below_drewN | apply below_drew1) | exact HB.out))) : w.heap.size ≤ gb185)); have n3_ := Aside0.mk ((by rw [hg]; exact (below_size (by repeat (first | (with_reducible first | exact HB.out | apply below_alloc | apply pw_below_drewN | apply below_drew1) | exact HB.out))) : w.heap.size ≤ gb185)); clear HB; have HB := n0_; have BK185 := n1_; have GW185 := n2_; have GE185 := n3_; clear n0_ n1_ n2_ n3_; clear hb hbox hg; have hcz12_0 : w11.cell? ⟨gb185, 0, none⟩ = some (.bool a0_0) := (blk_cell BK185.out 0).trans rfl; have hcz12_1 : w11.cell? ⟨gb185, 1, none⟩ = some (.bool a0_1) := (blk_cell BK185.out 1).trans rfl; have hcz12_2 : w11.cell? ⟨gb185, 2, none⟩ = some (.slice A0_2 l0_2.length c0_2) := (blk_cell BK185.out 2).trans rfl; have hcz12_3 : w11.cell? ⟨gb185, 3, none⟩ = some (.slice A0_3 l0_3.length c0_3) := (blk_cell BK185.out 3).trans rfl; have hcz12_4 : w11.cell? ⟨gb185, 4, none⟩ = some (.slice A0_4 l0_4.length c0_4) := (blk_cell BK185.out 4).trans rfl; have hcz12_5 : w11.cell? ⟨gb185, 5, none⟩ = some (.slice A0_5 l0_5.length c0_5) := (blk_cell BK185.out 5).trans rfl; have hcz12_6 : w11.cell? ⟨gb185, 6, none⟩ = some (.bool a0_6) := (blk_cell BK185.out 6).trans rfl; have hcz12_7 : w11.cell? ⟨gb185, 7, none⟩ = some (.bool a0_7) := (blk_cell BK185.out 7).trans rfl; have hfz12_0 := blk_frozen BK185.out 0; have hfz12_1 := blk_frozen BK185.out 1; have hfz12_2 := blk_frozen BK185.out 2; have hfz12_3 := blk_frozen BK185.out 3; have hfz12_4 := blk_frozen BK185.out 4; have hfz12_5 := blk_frozen BK185.out 5; have hfz12_6 := blk_frozen BK185.out 6; have hfz12_7 := blk_frozen BK185.out 7) | (go_at_call 31; (with_reducible refine (slices_Contains_string_string.calls k _ _ l0_3 a1 false _ ?side1 ?side2 A3.out).mono ?_); (case side1 => repeat (first | exact (Kd.C_below HR0_3.out HB.out) | (with_reducible refine Kd.C_alloc ?_ _) | (with_reducible refine Kd.C_drewN ?_ _) | (with_reducible refine Kd.C_drew ?_))); (case side2 => exact HC0_3.out); rintro e w' ⟨rfl, ⟨nd, rfl⟩⟩; (try first | exact ⟨rfl, _, World.drewN_drewN _ _ _⟩ | exact ⟨rfl, _, Eq.trans (World.drewN_drewN _ _ _) (congrArg (World.drewN _) (Nat.add_assoc _ _ _))⟩)) | (go_at_call 31; (with_reducible refine (slices_Contains_string_string.calls k _ _ l0_2 a1 t187 _ ?side1 ?side2 A7.out).mono ?_); (case side1 => repeat (first | exact (Kd.C_below HR0_2.out (by repeat (first | (with_reducible first | exact HB.out | apply below_alloc | apply pw_below_drewN | apply below_drew1 | refine below_set ?_ GE185.out) | exact HB.out))) | (with_reducible refine Kd.C_alloc ?_ _) | (with_reducible refine Kd.C_drewN ?_ _) | (with_reducible refine Kd.C_drew ?_))); (case side2 => exact HC0_2.out); rintro e w' ⟨rfl, ⟨nd, rfl⟩⟩; (try first | exact ⟨rfl, _, World.drewN_drewN _ _ _⟩ | exact ⟨rfl, _, Eq.trans (World.drewN_drewN _ _ _) (congrArg (World.drewN _) (Nat.add_assoc _ _ _))⟩))); try go_wp2_with (first | ((with_reducible refine gate_dst (N := 2) rfl ?_); refine box_event ?hg (N := 2) ?hd (cs := #[.bool a0_0, .bool a0_1, .slice A0_2 l0_2.length c0_2, .slice A0_3 l0_3.length c0_3, .slice A0_4 l0_4.length c0_4, .slice A0_5 l0_5.length c0_5, .bool a0_6, .bool a0_7]) (t := 25) ?hr ?_; (case hd => rfl); (case hg => rfl); (case hr => first | (go_simp; done) | (go_simp; rfl)); intro gb185 hg w11 hbox hb; have n0_ := Aside0.mk (below_step (by repeat (first | (with_reducible first | exact HB.out | apply below_alloc | apply pw_below_drewN | apply below_drew1) | exact HB.out)) hb); have n1_ := Aside0.mk (hbox); have n2_ := Aside0.mk ((by rw [hg]; exact (below_size (by repeat (first | (with_reducible first | exact HB.out | apply below_alloc | apply pw_below_drewN | apply below_drew1) | exact HB.out))) : w.heap.size ≤ gb185)); have n3_ := Aside0.mk ((by rw [hg]; exact (below_size (by repeat (first | (with_reducible first | exact HB.out | apply below_alloc | apply pw_below_drewN | apply below_drew1) | exact HB.out))) : w.heap.size ≤ gb185)); clear HB; have HB := n0_; have BK185 := n1_; have GW185 := n2_; have GE185 := n3_; clear n0_ n1_ n2_ n3_; clear hb hbox hg; have hcz12_0 : w11.cell? ⟨gb185, 0, none⟩ = some (.bool a0_0) := (blk_cell BK185.out 0).trans rfl; have hcz12_1 : w11.cell? ⟨gb185, 1, none⟩ = some (.bool a0_1) := (blk_cell BK185.out 1).trans rfl; have hcz12_2 : w11.cell? ⟨gb185, 2, none⟩ = some (.slice A0_2 l0_2.length c0_2) := (blk_cell BK185.out 2).trans rfl; have hcz12_3 : w11.cell? ⟨gb185, 3, none⟩ = some (.slice A0_3 l0_3.length c0_3) := (blk_cell BK185.out 3).trans rfl; have hcz12_4 : w11.cell? ⟨gb185, 4, none⟩ = some (.slice A0_4 l0_4.length c0_4) := (blk_cell BK185.out 4).trans rfl; have hcz12_5 : w11.cell? ⟨gb185, 5, none⟩ = some (.slice A0_5 l0_5.length c0_5) := (blk_cell BK185.out 5).trans rfl; have hcz12_6 : w11.cell? ⟨gb185, 6, none⟩ = some (.bool a0_6) := (blk_cell BK185.out 6).trans rfl; have hcz12_7 : w11.cell? ⟨gb185, 7, none⟩ = some (.bool a0_7) := (blk_cell BK185.out 7).trans rfl; have hfz12_0 := blk_frozen BK185.out 0; have hfz12_1 := blk_frozen BK185.out 1; have hfz12_2 := blk_frozen BK185.out 2; have hfz12_3 := blk_frozen BK185.out 3; have hfz12_4 := blk_frozen BK185.out 4; have hfz12_5 := blk_frozen BK185.out 5; have hfz12_6 := blk_frozen BK185.out 6; have hfz12_7 := blk_frozen BK185.out 7) | (go_at_call 31; (with_reducible refine (slices_Contains_string_string.calls k _ _ l0_3 a1 false _ ?side1 ?side2 A3.out).mono ?_); (case side1 => repeat (first | exact (Kd.C_below HR0_3.out HB.out) | (with_reducible refine Kd.C_alloc ?_ _) | (with_reducible refine Kd.C_drewN ?_ _) | (with_reducible refine Kd.C_drew ?_))); (case side2 => exact HC0_3.out); rintro e w' ⟨rfl, ⟨nd, rfl⟩⟩; (try first | exact ⟨rfl, _, World.drewN_drewN _ _ _⟩ | exact ⟨rfl, _, Eq.trans (World.drewN_drewN _ _ _) (congrArg (World.drewN _) (Nat.add_assoc _ _ _))⟩)) | (go_at_call 31; (with_reducible refine (slices_Contains_string_string.calls k _ _ l0_2 a1 t187 _ ?side1 ?side2 A7.out).mono ?_); (case side1 => repeat (first | exact (Kd.C_below HR0_2.out (by repeat (first | (with_reducible first | exact HB.out | apply below_alloc | apply pw_below_drewN | apply below_drew1 | refine below_set ?_ GE185.out) | exact HB.out))) | (with_reducible refine Kd.C_alloc ?_ _) | (with_reducible refine Kd.C_drewN ?_ _) | (with_reducible refine Kd.C_drew ?_))); (case side2 => exact HC0_2.out); rintro e w' ⟨rfl, ⟨nd, rfl⟩⟩; (try first | exact ⟨rfl, _, World.drewN_drewN _ _ _⟩ | exact ⟨rfl, _, Eq.trans (World.drewN_drewN _ _ _) (congrArg (World.drewN _) (Nat.add_assoc _ _ _))⟩))))
   go_ret
   exact ⟨by first | rfl | (simp [errW_none, errW_some] <;> rfl) | (simp [*, errW_none, errW_some] <;> rfl), by repeat (first | (with_reducible first | exact HB.out | apply below_alloc | apply pw_below_drewN | apply below_drew1 | refine below_set ?_ GE185.out) | exact HB.out)⟩

end Go.Proofs.Ytjofofpplpmgjaa.Pr
-- SLIMMED
namespace Go.Proofs.Ytjofofpplpmgjaa.Pr
open Go.RowKit Go.Proofs.YtjofofpplpmgjaaW.PrintWords Go.Proofs.YtjofofpplpmgjaaW.PrintLast Go.Proofs.YtjofofpplpmgjaaW.PrintMore
attribute [local go_sem] max2_int min2_int max_two min_two max_three min_three max_four min_four   -- for this text's walks alone
set_option linter.unusedVariables false
set_option linter.unusedSimpArgs false

/-! ### boltingref12_Element: function 14 -/
def boltingref12_Element.f (k : Nat) (a0_0 : Bool) (a0_1 : Bool) (l0_2 : List ByteArray) (l0_3 : List ByteArray) (l0_4 : List ByteArray) (l0_5 : List (S35)) (a0_6 : Bool) (a0_7 : Bool) (a1 : ByteArray) : Option (Int) := (boltingref02_Has.f k l0_3 a1).bind fun t459 => (if t459 = true then (some 2) else ((boltingref02_Has.f k l0_2 a1).bind fun t460 => (if (t460 == a0_0) = true then (some 0) else (some 1))))
set_option maxHeartbeats 8000000 in
set_option maxRecDepth 100000 in
theorem boltingref12_Element.calls (k : Nat) (a0_0 : Bool) (a0_1 : Bool) (A0_2 : Option Addr) (c0_2 : Nat) (l0_2 : List ByteArray) (A0_3 : Option Addr) (c0_3 : Nat) (l0_3 : List ByteArray) (A0_4 : Option Addr) (c0_4 : Nat) (l0_4 : List ByteArray) (A0_5 : Option Addr) (c0_5 : Nat) (l0_5 : List (S35)) (a0_6 : Bool) (a0_7 : Bool) (a1 : ByteArray) (r : Int) (w : World) (hr0_2 : Kd.C Kd.string w A0_2 l0_2.length l0_2) (hc0_2 : l0_2.length ≤ c0_2) (hr0_3 : Kd.C Kd.string w A0_3 l0_3.length l0_3) (hc0_3 : l0_3.length ≤ c0_3) (hr0_4 : Kd.C Kd.string w A0_4 l0_4.length l0_4) (hc0_4 : l0_4.length ≤ c0_4) (hr0_5 : Kd.C k35 w A0_5 l0_5.length l0_5) (hc0_5 : l0_5.length ≤ c0_5) (h : boltingref12_Element.f k a0_0 a0_1 l0_2 l0_3 l0_4 l0_5 a0_6 a0_7 a1 = some r) :
  Calls Try.prog 14 #[.agg #[.bool a0_0, .bool a0_1, .slice A0_2 l0_2.length c0_2, .slice A0_3 l0_3.length c0_3, .slice A0_4 l0_4.length c0_4, .slice A0_5 l0_5.length c0_5, .bool a0_6, .bool a0_7], .string a1] w fun e w' => e = .returned (.int .i64 r) ∧ Below w.heap.size w w' := by
 have hu25 := Try.underlying25
 have HR0_2 := Aside0.mk hr0_2
 have HC0_2 := Aside0.mk hc0_2
 clear hr0_2 hc0_2
 have HR0_3 := Aside0.mk hr0_3
 have HC0_3 := Aside0.mk hc0_3
 clear hr0_3 hc0_3
 have HR0_4 := Aside0.mk hr0_4
 have HC0_4 := Aside0.mk hc0_4
 clear hr0_4 hc0_4
 have HR0_5 := Aside0.mk hr0_5
 have HC0_5 := Aside0.mk hc0_5
 clear hr0_5 hc0_5
 have HB := Aside0.mk (Below.refl w.heap.size w)
 have H : ((boltingref02_Has.f k l0_3 a1).bind fun t459 => (if t459 = true then (some 2) else ((boltingref02_Has.f k l0_2 a1).bind fun t460 => (if (t460 == a0_0) = true then (some 0) else (some 1))))) = some r := h
 clear h
 replace H := Option.bind_eq_some_iff.mp H
 obtain ⟨t459, A30, H⟩ := H
 replace H : (if t459 = true then (some 2) else ((boltingref02_Has.f k l0_2 a1).bind fun t460 => (if (t460 == a0_0) = true then (some 0) else (some 1)))) = some r := H
 have A3 := Aside0.mk A30
 clear A30
 by_cases c4 : t459 = true
 ·subst c4
  have H1 : (some 2) = some r := by rw [if_pos rfl] at H; exact H
  clear H
  have H := H1
  clear H1
  obtain rfl := Option.some.inj H
  go_enter Try.func14, Try.ntmps14
  go_wp2_with (first | ((with_reducible refine gate_dst (N := 2) rfl ?_); refine box_event ?hg (N := 2) ?hd (cs := #[.bool a0_0, .bool a0_1, .slice A0_2 l0_2.length c0_2, .slice A0_3 l0_3.length c0_3, .slice A0_4 l0_4.length c0_4, .slice A0_5 l0_5.length c0_5, .bool a0_6, .bool a0_7]) (t := 25) ?hr ?_; (case hd => rfl); (case hg => rfl); (case hr => first | (go_simp; done) | (go_simp; rfl)); intro gb458 hg w5 hbox hb; have n0_ := Aside0.mk (below_step (by repeat (first | (with_reducible first | exact HB.out | apply below_alloc | apply pw_below_drewN | apply below_drew1) | exact HB.out)) hb); have n1_ := Aside0.mk (hbox); have n2_ := Aside0.mk ((by rw [hg]; exact (below_size (by repeat (first | (with_reducible first | exact HB.out | apply below_alloc | apply pw_below_drewN | apply below_drew1) | exact HB.out))) : w.heap.size ≤ gb458)); have n3_ := Aside0.mk ((by rw [hg]; exact (below_size (by repeat (first | (with_reducible first | exact HB.out | apply below_alloc | apply pw_below_drewN | apply below_drew1) | exact HB.out))) : w.heap.size ≤ gb458)); clear HB; have HB := n0_; have BK458 := n1_; have GW458 := n2_; have GE458 := n3_; clear n0_ n1_ n2_ n3_; clear hb hbox hg; have hcz6_0 : w5.cell? ⟨gb458, 0, none⟩ = some (.bool a0_0) := (blk_cell BK458.out 0).trans rfl; have hcz6_1 : w5.cell? ⟨gb458, 1, none⟩ = some (.bool a0_1) := (blk_cell BK458.out 1).trans rfl; have hcz6_2 : w5.cell? ⟨gb458, 2, none⟩ = some (.slice A0_2 l0_2.length c0_2) := (blk_cell BK458.out 2).trans rfl; have hcz6_3 : w5.cell? ⟨gb458, 3, none⟩ = some (.slice A0_3 l0_3.length c0_3) := (blk_cell BK458.out 3).trans rfl; have hcz6_4 : w5.cell? ⟨gb458, 4, none⟩ = some (.slice A0_4 l0_4.length c0_4) := (blk_cell BK458.out 4).trans rfl; have hcz6_5 : w5.cell? ⟨gb458, 5, none⟩ = some (.slice A0_5 l0_5.length c0_5) := (blk_cell BK458.out 5).trans rfl; have hcz6_6 : w5.cell? ⟨gb458, 6, none⟩ = some (.bool a0_6) := (blk_cell BK458.out 6).trans rfl; have hcz6_7 : w5.cell? ⟨gb458, 7, none⟩ = some (.bool a0_7) := (blk_cell BK458.out 7).trans rfl; have hfz6_0 := blk_frozen BK458.out 0; have hfz6_1 := blk_frozen BK458.out 1; have hfz6_2 := blk_frozen BK458.out 2; have hfz6_3 := blk_frozen BK458.out 3; have hfz6_4 := blk_frozen BK458.out 4; have hfz6_5 := blk_frozen BK458.out 5; have hfz6_6 := blk_frozen BK458.out 6; have hfz6_7 := blk_frozen BK458.out 7) | (go_at_call 19; (with_reducible refine (boltingref02_Has.calls k _ _ l0_3 a1 true _ ?side1 ?side2 A3.out).mono ?_); (case side1 => repeat (first | exact (Kd.C_below HR0_3.out HB.out) | (with_reducible refine Kd.C_alloc ?_ _) | (with_reducible refine Kd.C_drewN ?_ _) | (with_reducible refine Kd.C_drew ?_))); (case side2 => exact HC0_3.out); rintro e w' ⟨rfl, ⟨nd, rfl⟩⟩; (try first | exact ⟨rfl, _, World.drewN_drewN _ _ _⟩ | exact ⟨rfl, _, Eq.trans (World.drewN_drewN _ _ _) (congrArg (World.drewN _) (Nat.add_assoc _ _ _))⟩)))
  repeat (go_quiet (first | ((with_reducible refine gate_dst (N := 2) rfl ?_); refine box_event ?hg (N := 2) ?hd (cs := #[.bool a0_0, .bool a0_1, .slice A0_2 l0_2.length c0_2, .slice A0_3 l0_3.length c0_3, .slice A0_4 l0_4.length c0_4, .slice A0_5 l0_5.length c0_5, .bool a0_6, .bool a0_7]) (t := 25) ?hr ?_; (case hd => rfl); (case hg => rfl); (case hr => first | (go_simp; done) | (go_simp; rfl)); intro gb458 hg w5 hbox hb; have n0_ := Aside0.mk (below_step (by repeat (first | (with_reducible first | exact HB.out | apply below_alloc | apply pw_below_drewN | apply below_drew1) | exact HB.out)) hb); have n1_ := Aside0.mk (hbox); have n2_ := Aside0.mk ((by rw [hg]; exact (below_size (by repeat (first | (with_reducible first | exact HB.out | apply below_alloc | apply pw_below_drewN | apply below_drew1) | exact HB.out))) : w.heap.size ≤ gb458)); have n3_ := Aside0.mk ((by rw [hg]; exact (below_size (by repeat (first | (with_reducible first | exact HB.out | apply below_alloc | apply pw_below_drewN | apply below_drew1) | exact HB.out))) : w.heap.size ≤ gb458)); clear HB; have HB := n0_; have BK458 := n1_; have GW458 := n2_; have GE458 := n3_; clear n0_ n1_ n2_ n3_; clear hb hbox hg; have hcz6_0 : w5.cell? ⟨gb458, 0, none⟩ = some (.bool a0_0) := (blk_cell BK458.out 0).trans rfl; have hcz6_1 : w5.cell? ⟨gb458, 1, none⟩ = some (.bool a0_1) := (blk_cell BK458.out 1).trans rfl; have hcz6_2 : w5.cell? ⟨gb458, 2, none⟩ = some (.slice A0_2 l0_2.length c0_2) := (blk_cell BK458.out 2).trans rfl; have hcz6_3 : w5.cell? ⟨gb458, 3, none⟩ = some (.slice A0_3 l0_3.length c0_3) := (blk_cell BK458.out 3).trans rfl; have hcz6_4 : w5.cell? ⟨gb458, 4, none⟩ = some (.slice A0_4 l0_4.length c0_4) := (blk_cell BK458.out 4).trans rfl; have hcz6_5 : w5.cell? ⟨gb458, 5, none⟩ = some (.slice A0_5 l0_5.length c0_5) := (blk_cell BK458.out 5).trans rfl; have hcz6_6 : w5.cell? ⟨gb458, 6, none⟩ = some (.bool a0_6) := (blk_cell BK458.out 6).trans rfl; have hcz6_7 : w5.cell? ⟨gb458, 7, none⟩ = some (.bool a0_7) := (blk_cell BK458.out 7).trans rfl; have hfz6_0 := blk_frozen BK458.out 0; have hfz6_1 := blk_frozen BK458.out 1; have hfz6_2 := blk_frozen BK458.out 2; have hfz6_3 := blk_frozen BK458.out 3; have hfz6_4 := blk_frozen BK458.out 4; have hfz6_5 := blk_frozen BK458.out 5; have hfz6_6 := blk_frozen BK458.out 6; have hfz6_7 := blk_frozen BK458.out 7) | (go_at_call 19; (with_reducible refine (boltingref02_Has.calls k _ _ l0_3 a1 true _ ?side1 ?side2 A3.out).mono ?_); (case side1 => repeat (first | exact (Kd.C_below HR0_3.out HB.out) | (with_reducible refine Kd.C_alloc ?_ _) | (with_reducible refine Kd.C_drewN ?_ _) | (with_reducible refine Kd.C_drew ?_))); (case side2 => exact HC0_3.out); rintro e w' ⟨rfl, ⟨nd, rfl⟩⟩; (try first | exact ⟨rfl, _, World.drewN_drewN _ _ _⟩ | exact ⟨rfl, _, Eq.trans (World.drewN_drewN _ _ _) (congrArg (World.drewN _) (Nat.add_assoc _ _ _))⟩))); try go_wp2_with (first | ((with_reducible refine gate_dst (N := 2) rfl ?_); refine box_event ?hg (N := 2) ?hd (cs := #[.bool a0_0, .bool a0_1, .slice A0_2 l0_2.length c0_2, .slice A0_3 l0_3.length c0_3, .slice A0_4 l0_4.length c0_4, .slice A0_5 l0_5.length c0_5, .bool a0_6, .bool a0_7]) (t := 25) ?hr ?_; (case hd => rfl); (case hg => rfl); (case hr => first | (go_simp; done) | (go_simp; rfl)); intro gb458 hg w5 hbox hb; have n0_ := Aside0.mk (below_step (by repeat (first | (with_reducible first | exact HB.out | apply below_alloc | apply pw_below_drewN | apply below_drew1) | exact HB.out)) hb); have n1_ := Aside0.mk (hbox); have n2_ := Aside0.mk ((by rw [hg]; exact (below_size (by repeat (first | (with_reducible first | exact HB.out | apply below_alloc | apply pw_below_drewN | apply below_drew1) | exact HB.out))) : w.heap.size ≤ gb458)); have n3_ := Aside0.mk ((by rw [hg]; exact (below_size (by repeat (first | (with_reducible first | exact HB.out | apply below_alloc | apply pw_below_drewN | apply below_drew1) | exact HB.out))) : w.heap.size ≤ gb458)); clear HB; have HB := n0_; have BK458 := n1_; have GW458 := n2_; have GE458 := n3_; clear n0_ n1_ n2_ n3_; clear hb hbox hg; have hcz6_0 : w5.cell? ⟨gb458, 0, none⟩ = some (.bool a0_0) := (blk_cell BK458.out 0).trans rfl; have hcz6_1 : w5.cell? ⟨gb458, 1, none⟩ = some (.bool a0_1) := (blk_cell BK458.out 1).trans rfl; have hcz6_2 : w5.cell? ⟨gb458, 2, none⟩ = some (.slice A0_2 l0_2.length c0_2) := (blk_cell BK458.out 2).trans rfl; have hcz6_3 : w5.cell? ⟨gb458, 3, none⟩ = some (.slice A0_3 l0_3.length c0_3) := (blk_cell BK458.out 3).trans rfl; have hcz6_4 : w5.cell? ⟨gb458, 4, none⟩ = some (.slice A0_4 l0_4.length c0_4) := (blk_cell BK458.out 4).trans rfl; have hcz6_5 : w5.cell? ⟨gb458, 5, none⟩ = some (.slice A0_5 l0_5.length c0_5) := (blk_cell BK458.out 5).trans rfl; have hcz6_6 : w5.cell? ⟨gb458, 6, none⟩ = some (.bool a0_6) := (blk_cell BK458.out 6).trans rfl; have hcz6_7 : w5.cell? ⟨gb458, 7, none⟩ = some (.bool a0_7) := (blk_cell BK458.out 7).trans rfl; have hfz6_0 := blk_frozen BK458.out 0; have hfz6_1 := blk_frozen BK458.out 1; have hfz6_2 := blk_frozen BK458.out 2; have hfz6_3 := blk_frozen BK458.out 3; have hfz6_4 := blk_frozen BK458.out 4; have hfz6_5 := blk_frozen BK458.out 5; have hfz6_6 := blk_frozen BK458.out 6; have hfz6_7 := blk_frozen BK458.out 7) | (go_at_call 19; (with_reducible refine (boltingref02_Has.calls k _ _ l0_3 a1 true _ ?side1 ?side2 A3.out).mono ?_); (case side1 => repeat (first | exact (Kd.C_below HR0_3.out HB.out) | (with_reducible refine Kd.C_alloc ?_ _) | (with_reducible refine Kd.C_drewN ?_ _) | (with_reducible refine Kd.C_drew ?_))); (case side2 => exact HC0_3.out); rintro e w' ⟨rfl, ⟨nd, rfl⟩⟩; (try first | exact ⟨rfl, _, World.drewN_drewN _ _ _⟩ | exact ⟨rfl, _, Eq.trans (World.drewN_drewN _ _ _) (congrArg (World.drewN _) (Nat.add_assoc _ _ _))⟩))))
  go_ret
  exact ⟨by first | rfl | (simp [errW_none, errW_some] <;> rfl) | (simp [*, errW_none, errW_some] <;> rfl), by repeat (first | (with_reducible first | exact HB.out | apply below_alloc | apply pw_below_drewN | apply below_drew1 | refine below_set ?_ GE458.out) | exact HB.out)⟩
 ·replace c4 := Bool.eq_false_iff.mpr c4
  subst c4
  have H1 : ((boltingref02_Has.f k l0_2 a1).bind fun t460 => (if (t460 == a0_0) = true then (some 0) else (some 1))) = some r := by rw [if_neg (show ¬ (false = true) by decide)] at H; exact H
  clear H
  have H := H1
  clear H1
  replace H := Option.bind_eq_some_iff.mp H
  obtain ⟨t460, A70, H⟩ := H
  replace H : (if (t460 == a0_0) = true then (some 0) else (some 1)) = some r := H
  have A7 := Aside0.mk A70
  clear A70
  by_cases c8 : (t460 == a0_0) = true
  ·rw [if_pos c8] at H
   have c8b0 : (t460 == a0_0) = true := c8
   (try (have c8b1 : decide (t460 = a0_0) = true := by simpa using c8))
   (try (have c8b2 : (t460 == a0_0) = true := by simpa using c8))
   clear c8
   obtain rfl := Option.some.inj H
   go_enter Try.func14, Try.ntmps14
   go_wp2_with (first | ((with_reducible refine gate_dst (N := 2) rfl ?_); refine box_event ?hg (N := 2) ?hd (cs := #[.bool a0_0, .bool a0_1, .slice A0_2 l0_2.length c0_2, .slice A0_3 l0_3.length c0_3, .slice A0_4 l0_4.length c0_4, .slice A0_5 l0_5.length c0_5, .bool a0_6, .bool a0_7]) (t := 25) ?hr ?_; (case hd => rfl); (case hg => rfl); (case hr => first | (go_simp; done) | (go_simp; rfl)); intro gb458 hg w9 hbox hb; have n0_ := Aside0.mk (below_step (by repeat (first | (with_reducible first | exact HB.out | apply below_alloc | apply pw_below_drewN | apply below_drew1) | exact HB.out)) hb); have n1_ := Aside0.mk (hbox); have n2_ := Aside0.mk ((by rw [hg]; exact (below_size (by repeat (first | (with_reducible first | exact HB.out | apply below_alloc | apply pw_below_drewN | apply below_drew1) | exact HB.out))) : w.heap.size ≤ gb458)); have n3_ := Aside0.mk ((by rw [hg]; exact (below_size (by repeat (first | (with_reducible first | exact HB.out | apply below_alloc | apply pw_below_drewN | apply below_drew1) | exact HB.out))) : w.heap.size ≤ gb458)); clear HB; have HB := n0_; have BK458 := n1_; have GW458 := n2_; have GE458 := n3_; clear n0_ n1_ n2_ n3_; clear hb hbox hg; have hcz10_0 : w9.cell? ⟨gb458, 0, none⟩ = some (.bool a0_0) := (blk_cell BK458.out 0).trans rfl; have hcz10_1 : w9.cell? ⟨gb458, 1, none⟩ = some (.bool a0_1) := (blk_cell BK458.out 1).trans rfl; have hcz10_2 : w9.cell? ⟨gb458, 2, none⟩ = some (.slice A0_2 l0_2.length c0_2) := (blk_cell BK458.out 2).trans rfl; have hcz10_3 : w9.cell? ⟨gb458, 3, none⟩ = some (.slice A0_3 l0_3.length c0_3) := (blk_cell BK458.out 3).trans rfl; have hcz10_4 : w9.cell? ⟨gb458, 4, none⟩ = some (.slice A0_4 l0_4.length c0_4) := (blk_cell BK458.out 4).trans rfl; have hcz10_5 : w9.cell? ⟨gb458, 5, none⟩ = some (.slice A0_5 l0_5.length c0_5) := (blk_cell BK458.out 5).trans rfl; have hcz10_6 : w9.cell? ⟨gb458, 6, none⟩ = some (.bool a0_6) := (blk_cell BK458.out 6).trans rfl; have hcz10_7 : w9.cell? ⟨gb458, 7, none⟩ = some (.bool a0_7) := (blk_cell BK458.out 7).trans rfl; have hfz10_0 := blk_frozen BK458.out 0; have hfz10_1 := blk_frozen BK458.out 1; have hfz10_2 := blk_frozen BK458.out 2; have hfz10_3 := blk_frozen BK458.out 3; have hfz10_4 := blk_frozen BK458.out 4; have hfz10_5 := blk_frozen BK458.out 5; have hfz10_6 := blk_frozen BK458.out 6; have hfz10_7 := blk_frozen BK458.out 7) | (go_at_call 19; (with_reducible refine (boltingref02_Has.calls k _ _ l0_3 a1 false _ ?side1 ?side2 A3.out).mono ?_); (case side1 => repeat (first | exact (Kd.C_below HR0_3.out HB.out) | (with_reducible refine Kd.C_alloc ?_ _) | (with_reducible refine Kd.C_drewN ?_ _) | (with_reducible refine Kd.C_drew ?_))); (case side2 => exact HC0_3.out); rintro e w' ⟨rfl, ⟨nd, rfl⟩⟩; (try first | exact ⟨rfl, _, World.drewN_drewN _ _ _⟩ | exact ⟨rfl, _, Eq.trans (World.drewN_drewN _ _ _) (congrArg (World.drewN _) (Nat.add_assoc _ _ _))⟩)) | (go_at_call 19; (with_reducible refine (boltingref02_Has.calls k _ _ l0_2 a1 t460 _ ?side1 ?side2 A7.out).mono ?_); (case side1 => repeat (first | exact (Kd.C_below HR0_2.out (by repeat (first | (with_reducible first | exact HB.out | apply below_alloc | apply pw_below_drewN | apply below_drew1 | refine below_set ?_ GE458.out) | exact HB.out))) | (with_reducible refine Kd.C_alloc ?_ _) | (with_reducible refine Kd.C_drewN ?_ _) | (with_reducible refine Kd.C_drew ?_))); (case side2 => exact HC0_2.out); rintro e w' ⟨rfl, ⟨nd, rfl⟩⟩; (try first | exact ⟨rfl, _, World.drewN_drewN _ _ _⟩ | exact ⟨rfl, _, Eq.trans (World.drewN_drewN _ _ _) (congrArg (World.drewN _) (Nat.add_assoc _ _ _))⟩)))
   repeat (go_quiet (first | ((with_reducible refine gate_dst (N := 2) rfl ?_); refine box_event ?hg (N := 2) ?hd (cs := #[.bool a0_0, .bool a0_1, .slice A0_2 l0_2.length c0_2, .slice A0_3 l0_3.length c0_3, .slice A0_4 l0_4.length c0_4, .slice A0_5 l0_5.length c0_5, .bool a0_6, .bool a0_7]) (t := 25) ?hr ?_; (case hd => rfl); (case hg => rfl); (case hr => first | (go_simp; done) | (go_simp; rfl)); intro gb458 hg w9 hbox hb; have n0_ := Aside0.mk (below_step (by repeat (first | (with_reducible first | exact HB.out | apply below_alloc | apply pw_below_drewN | apply below_drew1) | exact HB.out)) hb); have n1_ := Aside0.mk (hbox); have n2_ := Aside0.mk ((by rw [hg]; exact (below_size (by repeat (first | (with_reducible first | exact HB.out | apply below_alloc | apply pw_below_drewN | apply below_drew1) | exact HB.out))) : w.heap.size ≤ gb458)); have n3_ := Aside0.mk ((by rw [hg]; exact (below_size (by repeat (first | (with_reducible first | exact HB.out | apply below_alloc | apply pw_below_drewN | apply below_drew1) | exact HB.out))) : w.heap.size ≤ gb458)); clear HB; have HB := n0_; have BK458 := n1_; have GW458 := n2_; have GE458 := n3_; clear n0_ n1_ n2_ n3_; clear hb hbox hg; have hcz10_0 : w9.cell? ⟨gb458, 0, none⟩ = some (.bool a0_0) := (blk_cell BK458.out 0).trans rfl; have hcz10_1 : w9.cell? ⟨gb458, 1, none⟩ = some (.bool a0_1) := (blk_cell BK458.out 1).trans rfl; have hcz10_2 : w9.cell? ⟨gb458, 2, none⟩ = some (.slice A0_2 l0_2.length c0_2) := (blk_cell BK458.out 2).trans rfl; have hcz10_3 : w9.cell? ⟨gb458, 3, none⟩ = some (.slice A0_3 l0_3.length c0_3) := (blk_cell BK458.out 3).trans rfl; have hcz10_4 : w9.cell? ⟨gb458, 4, none⟩ = some (.slice A0_4 l0_4.length c0_4) := (blk_cell BK458.out 4).trans rfl; have hcz10_5 : w9.cell? ⟨gb458, 5, none⟩ = some (.slice A0_5 l0_5.length c0_5) := (blk_cell BK458.out 5).trans rfl; have hcz10_6 : w9.cell? ⟨gb458, 6, none⟩ = some (.bool a0_6) := (blk_cell BK458.out 6).trans rfl; have hcz10_7 : w9.cell? ⟨gb458, 7, none⟩ = some (.bool a0_7) := (blk_cell BK458.out 7).trans rfl; have hfz10_0 := blk_frozen BK458.out 0; have hfz10_1 := blk_frozen BK458.out 1; have hfz10_2 := blk_frozen BK458.out 2; have hfz10_3 := blk_frozen BK458.out 3; have hfz10_4 := blk_frozen BK458.out 4; have hfz10_5 := blk_frozen BK458.out 5; have hfz10_6 := blk_frozen BK458.out 6; have hfz10_7 := blk_frozen BK458.out 7) | (go_at_call 19; (with_reducible refine (boltingref02_Has.calls k _ _ l0_3 a1 false _ ?side1 ?side2 A3.out).mono ?_); (case side1 => repeat (first | exact (Kd.C_below HR0_3.out HB.out) | (with_reducible refine Kd.C_alloc ?_ _) | (with_reducible refine Kd.C_drewN ?_ _) | (with_reducible refine Kd.C_drew ?_))); (case side2 => exact HC0_3.out); rintro e w' ⟨rfl, ⟨nd, rfl⟩⟩; (try first | exact ⟨rfl, _, World.drewN_drewN _ _ _⟩ | exact ⟨rfl, _, Eq.trans (World.drewN_drewN _ _ _) (congrArg (World.drewN _) (Nat.add_assoc _ _ _))⟩)) | (go_at_call 19; (with_reducible refine (boltingref02_Has.calls k _ _ l0_2 a1 t460 _ ?side1 ?side2 A7.out).mono ?_); (case side1 => repeat (first | exact (Kd.C_below HR0_2.out (by repeat (first | (with_reducible first | exact HB.out | apply below_alloc | apply pw_below_drewN | apply below_drew1 | refine below_set ?_ GE458.out) | exact HB.out))) | (with_reducible refine Kd.C_alloc ?_ _) | (with_reducible refine Kd.C_drewN ?_ _) | (with_reducible refine Kd.C_drew ?_))); (case side2 => exact HC0_2.out); rintro e w' ⟨rfl, ⟨nd, rfl⟩⟩; (try first | exact ⟨rfl, _, World.drewN_drewN _ _ _⟩ | exact ⟨rfl, _, Eq.trans (World.drewN_drewN _ _ _) (congrArg (World.drewN _) (Nat.add_assoc _ _ _))⟩))); try go_wp2_with (first | ((with_reducible refine gate_dst (N := 2) rfl ?_); refine box_event ?hg (N := 2) ?hd (cs := #[.bool a0_0, .bool a0_1, .slice A0_2 l0_2.length c0_2, .slice A0_3 l0_3.length c0_3, .slice A0_4 l0_4.length c0_4, .slice A0_5 l0_5.length c0_5, .bool a0_6, .bool a0_7]) (t := 25) ?hr ?_; (case hd => rfl); (case hg => rfl); (case hr => first | (go_simp; done) | (go_simp; rfl)); intro gb458 hg w9 hbox hb; have n0_ := Aside0.mk (below_step (by repeat (first | (with_reducible first | exact HB.out | apply below_alloc | apply pw_below_drewN | apply below_drew1) | exact HB.out)) hb); have n1_ := Aside0.mk (hbox); have n2_ := Aside0.mk ((by rw [hg]; exact (below_size (by repeat (first | (with_reducible first | exact HB.out | apply below_alloc | apply pw_below_drewN | apply below_drew1) | exact HB.out))) : w.heap.size ≤ gb458)); have n3_ := Aside0.mk ((by rw [hg]; exact (below_size (by repeat (first | (with_reducible first | exact HB.out | apply below_alloc | apply pw_below_drewN | apply below_drew1) | exact HB.out))) : w.heap.size ≤ gb458)); clear HB; have HB := n0_; have BK458 := n1_; have GW458 := n2_; have GE458 := n3_; clear n0_ n1_ n2_ n3_; clear hb hbox hg; have hcz10_0 : w9.cell? ⟨gb458, 0, none⟩ = some (.bool a0_0) := (blk_cell BK458.out 0).trans rfl; have hcz10_1 : w9.cell? ⟨gb458, 1, none⟩ = some (.bool a0_1) := (blk_cell BK458.out 1).trans rfl; have hcz10_2 : w9.cell? ⟨gb458, 2, none⟩ = some (.slice A0_2 l0_2.length c0_2) := (blk_cell BK458.out 2).trans rfl; have hcz10_3 : w9.cell? ⟨gb458, 3, none⟩ = some (.slice A0_3 l0_3.length c0_3) := (blk_cell BK458.out 3).trans rfl; have hcz10_4 : w9.cell? ⟨gb458, 4, none⟩ = some (.slice A0_4 l0_4.length c0_4) := (blk_cell BK458.out 4).trans rfl; have hcz10_5 : w9.cell? ⟨gb458, 5, none⟩ = some (.slice A0_5 l0_5.length c0_5) := (blk_cell BK458.out 5).trans rfl; have hcz10_6 : w9.cell? ⟨gb458, 6, none⟩ = some (.bool a0_6) := (blk_cell BK458.out 6).trans rfl; have hcz10_7 : w9.cell? ⟨gb458, 7, none⟩ = some (.bool a0_7) := (blk_cell BK458.out 7).trans rfl; have hfz10_0 := blk_frozen BK458.out 0; have hfz10_1 := blk_frozen BK458.out 1; have hfz10_2 := blk_frozen BK458.out 2; have hfz10_3 := blk_frozen BK458.out 3; have hfz10_4 := blk_frozen BK458.out 4; have hfz10_5 := blk_frozen BK458.out 5; have hfz10_6 := blk_frozen BK458.out 6; have hfz10_7 := blk_frozen BK458.out 7) | (go_at_call 19; (with_reducible refine (boltingref02_Has.calls k _ _ l0_3 a1 false _ ?side1 ?side2 A3.out).mono ?_); (case side1 => repeat (first | exact (Kd.C_below HR0_3.out HB.out) | (with_reducible refine Kd.C_alloc ?_ _) | (with_reducible refine Kd.C_drewN ?_ _) | (with_reducible refine Kd.C_drew ?_))); (case side2 => exact HC0_3.out); rintro e w' ⟨rfl, ⟨nd, rfl⟩⟩; (try first | exact ⟨rfl, _, World.drewN_drewN _ _ _⟩ | exact ⟨rfl, _, Eq.trans (World.drewN_drewN _ _ _) (congrArg (World.drewN _) (Nat.add_assoc _ _ _))⟩)) | (go_at_call 19; (with_reducible refine (boltingref02_Has.calls k _ _ l0_2 a1 t460 _ ?side1 ?side2 A7.out).mono ?_); (case side1 => repeat (first | exact (Kd.C_below HR0_2.out (by repeat (first | (with_reducible first | exact HB.out | apply below_alloc | apply pw_below_drewN | apply below_drew1 | refine below_set ?_ GE458.out) | exact HB.out))) | (with_reducible refine Kd.C_alloc ?_ _) | (with_reducible refine Kd.C_drewN ?_ _) | (with_reducible refine Kd.C_drew ?_))); (case side2 => exact HC0_2.out); rintro e w' ⟨rfl, ⟨nd, rfl⟩⟩; (try first | exact ⟨rfl, _, World.drewN_drewN _ _ _⟩ | exact ⟨rfl, _, Eq.trans (World.drewN_drewN _ _ _) (congrArg (World.drewN _) (Nat.add_assoc _ _ _))⟩))))
   go_ret
   exact ⟨by first | rfl | (simp [errW_none, errW_some] <;> rfl) | (simp [*, errW_none, errW_some] <;> rfl), by repeat (first | (with_reducible first | exact HB.out | apply below_alloc | apply pw_below_drewN | apply below_drew1 | refine below_set ?_ GE458.out) | exact HB.out)⟩
  ·rw [if_neg c8] at H
   have c8b0 : (t460 == a0_0) = false := by simpa using c8
   (try (have c8b1 : decide (t460 = a0_0) = false := by simpa using c8))
   (try (have c8b2 : (t460 == a0_0) = false := by simpa using c8))
   (try (have c8b3 : ¬ (t460 = a0_0) := by simpa using c8))
   clear c8
   obtain rfl := Option.some.inj H
   go_enter Try.func14, Try.ntmps14
   go_wp2_with (first | ((with_reducible refine gate_dst (N := 2) rfl ?_); refine box_event ?hg (N := 2) ?hd (cs := #[.bool a0_0, .bool a0_1, .slice A0_2 l0_2.length c0_2, .slice A0_3 l0_3.length c0_3, .slice A0_4 l0_4.length c0_4, .slice A0_5 l0_5.length c0_5, .bool a0_6, .bool a0_7]) (t := 25) ?hr ?_; (case hd => rfl); (case hg => rfl); (case hr => first | (go_simp; done) | (go_simp; rfl)); intro gb458 hg w11 hbox hb; have n0_ := Aside0.mk (below_step (by repeat (first | (with_reducible first | exact HB.out | apply below_alloc | apply pw_below_drewN | apply below_drew1) | exact HB.out)) hb); have n1_ := Aside0.mk (hbox); have n2_ := Aside0.mk ((by rw [hg]; exact (below_size (by repeat (first | (with_reducible first | exact HB.out | apply below_alloc | apply pw_below_drewN | apply below_drew1) | exact HB.out))) : w.heap.size ≤ gb458)); have n3_ := Aside0.mk ((by rw [hg]; exact (below_size (by repeat (first | (with_reducible first | exact HB.out | apply below_alloc | apply pw_below_drewN | apply below_drew1) | exact HB.out))) : w.heap.size ≤ gb458)); clear HB; have HB := n0_; have BK458 := n1_; have GW458 := n2_; have GE458 := n3_; clear n0_ n1_ n2_ n3_; clear hb hbox hg; have hcz12_0 : w11.cell? ⟨gb458, 0, none⟩ = some (.bool a0_0) := (blk_cell BK458.out 0).trans rfl; have hcz12_1 : w11.cell? ⟨gb458, 1, none⟩ = some (.bool a0_1) := (blk_cell BK458.out 1).trans rfl; have hcz12_2 : w11.cell? ⟨gb458, 2, none⟩ = some (.slice A0_2 l0_2.length c0_2) := (blk_cell BK458.out 2).trans rfl; have hcz12_3 : w11.cell? ⟨gb458, 3, none⟩ = some (.slice A0_3 l0_3.length c0_3) := (blk_cell BK458.out 3).trans rfl; have hcz12_4 : w11.cell? ⟨gb458, 4, none⟩ = some (.slice A0_4 l0_4.length c0_4) := (blk_cell BK458.out 4).trans rfl; have hcz12_5 : w11.cell? ⟨gb458, 5, none⟩ = some (.slice A0_5 l0_5.length c0_5) := (blk_cell BK458.out 5).trans rfl; have hcz12_6 : w11.cell? ⟨gb458, 6, none⟩ = some (.bool a0_6) := (blk_cell BK458.out 6).trans rfl; have hcz12_7 : w11.cell? ⟨gb458, 7, none⟩ = some (.bool a0_7) := (blk_cell BK458.out 7).trans rfl; have hfz12_0 := blk_frozen BK458.out 0; have hfz12_1 := blk_frozen BK458.out 1; have hfz12_2 := blk_frozen BK458.out 2; have hfz12_3 := blk_frozen BK458.out 3; have hfz12_4 := blk_frozen BK458.out 4; have hfz12_5 := blk_frozen BK458.out 5; have hfz12_6 := blk_frozen BK458.out 6; have hfz12_7 := blk_frozen BK458.out 7) | (go_at_call 19; (with_reducible refine (boltingref02_Has.calls k _ _ l0_3 a1 false _ ?side1 ?side2 A3.out).mono ?_); (case side1 => repeat (first | exact (Kd.C_below HR0_3.out HB.out) | (with_reducible refine Kd.C_alloc ?_ _) | (with_reducible refine Kd.C_drewN ?_ _) | (with_reducible refine Kd.C_drew ?_))); (case side2 => exact HC0_3.out); rintro e w' ⟨rfl, ⟨nd, rfl⟩⟩; (try first | exact ⟨rfl, _, World.drewN_drewN _ _ _⟩ | exact ⟨rfl, _, Eq.trans (World.drewN_drewN _ _ _) (congrArg (World.drewN _) (Nat.add_assoc _ _ _))⟩)) | (go_at_call 19; (with_reducible refine (boltingref02_Has.calls k _ _ l0_2 a1 t460 _ ?side1 ?side2 A7.out).mono ?_); (case side1 => repeat (first | exact (Kd.C_below HR0_2.out (by repeat (first | (with_reducible first | exact HB.out | apply below_alloc | apply pw_below_drewN | apply below_drew1 | refine below_set ?_ GE458.out) | exact HB.out))) | (with_reducible refine Kd.C_alloc ?_ _) | (with_reducible refine Kd.C_drewN ?_ _) | (with_reducible refine Kd.C_drew ?_))); (case side2 => exact HC0_2.out); rintro e w' ⟨rfl, ⟨nd, rfl⟩⟩; (try first | exact ⟨rfl, _, World.drewN_drewN _ _ _⟩ | exact ⟨rfl, _, Eq.trans (World.drewN_drewN _ _ _) (congrArg (World.drewN _) (Nat.add_assoc _ _ _))⟩)))
   repeat (go_quiet (first | ((with_reducible refine gate_dst (N := 2) rfl ?_); refine box_event ?hg (N := 2) ?hd (cs := #[.bool a0_0, .bool a0_1, .slice A0_2 l0_2.length c0_2, .slice A0_3 l0_3.length c0_3, .slice A0_4 l0_4.length c0_4, .slice A0_5 l0_5.length c0_5, .bool a0_6, .bool a0_7]) (t := 25) ?hr ?_; (case hd => rfl); (case hg => rfl); (case hr => first | (go_simp; done) | (go_simp; rfl)); intro gb458 hg w11 hbox hb; have n0_ := Aside0.mk (below_step (by repeat (first | (with_reducible first | exact HB.out | apply below_alloc | apply pw_below_drewN | apply below_drew1) | exact HB.out)) hb); have n1_ := Aside0.mk (hbox); have n2_ := Aside0.mk ((by rw [hg]; exact (below_size (by repeat (first | (with_reducible first | exact HB.out | apply below_alloc | apply pw_below_drewN | apply below_drew1) | exact HB.out))) : w.heap.size ≤ gb458)); have n3_ := Aside0.mk ((by rw [hg]; exact (below_size (by repeat (first | (with_reducible first | exact HB.out | apply below_alloc | apply pw_below_drewN | apply below_drew1) | exact HB.out))) : w.heap.size ≤ gb458)); clear HB; have HB := n0_; have BK458 := n1_; have GW458 := n2_; have GE458 := n3_; clear n0_ n1_ n2_ n3_; clear hb hbox hg; have hcz12_0 : w11.cell? ⟨gb458, 0, none⟩ = some (.bool a0_0) := (blk_cell BK458.out 0).trans rfl; have hcz12_1 : w11.cell? ⟨gb458, 1, none⟩ = some (.bool a0_1) := (blk_cell BK458.out 1).trans rfl; have hcz12_2 : w11.cell? ⟨gb458, 2, none⟩ = some (.slice A0_2 l0_2.length c0_2) := (blk_cell BK458.out 2).trans rfl; have hcz12_3 : w11.cell? ⟨gb458, 3, none⟩ = some (.slice A0_3 l0_3.length c0_3) := (blk_cell BK458.out 3).trans rfl; have hcz12_4 : w11.cell? ⟨gb458, 4, none⟩ = some (.slice A0_4 l0_4.length c0_4) := (blk_cell BK458.out 4).trans rfl; have hcz12_5 : w11.cell? ⟨gb458, 5, none⟩ = some (.slice A0_5 l0_5.length c0_5) := (blk_cell BK458.out 5).trans rfl; have hcz12_6 : w11.cell? ⟨gb458, 6, none⟩ = some (.bool a0_6) := (blk_cell BK458.out 6).trans rfl; have hcz12_7 : w11.cell? ⟨gb458, 7, none⟩ = some (.bool a0_7) := (blk_cell BK458.out 7).trans rfl; have hfz12_0 := blk_frozen BK458.out 0; have hfz12_1 := blk_frozen BK458.out 1; have hfz12_2 := blk_frozen BK458.out 2; have hfz12_3 := blk_frozen BK458.out 3; have hfz12_4 := blk_frozen BK458.out 4; have hfz12_5 := blk_frozen BK458.out 5; have hfz12_6 := blk_frozen BK458.out 6; have hfz12_7 := blk_frozen BK458.out 7) | (go_at_call 19; (with_reducible refine (boltingref02_Has.calls k _ _ l0_3 a1 false _ ?side1 ?side2 A3.out).mono ?_); (case side1 => repeat (first | exact (Kd.C_below HR0_3.out HB.out) | (with_reducible refine Kd.C_alloc ?_ _) | (with_reducible refine Kd.C_drewN ?_ _) | (with_reducible refine Kd.C_drew ?_))); (case side2 => exact HC0_3.out); rintro e w' ⟨rfl, ⟨nd, rfl⟩⟩; (try first | exact ⟨rfl, _, World.drewN_drewN _ _ _⟩ | exact ⟨rfl, _, Eq.trans (World.drewN_drewN _ _ _) (congrArg (World.drewN _) (Nat.add_assoc _ _ _))⟩)) | (go_at_call 19; (with_reducible refine (boltingref02_Has.calls k _ _ l0_2 a1 t460 _ ?side1 ?side2 A7.out).mono ?_); (case side1 => repeat (first | exact (Kd.C_below HR0_2.out (by repeat (first | (with_reducible first | exact HB.out | apply below_alloc | apply pw_below_drewN | apply below_drew1 | refine below_set ?_ GE458.out) | exact HB.out))) | (with_reducible refine Kd.C_alloc ?_ _) | (with_reducible refine Kd.C_drewN ?_ _) | (with_reducible refine Kd.C_drew ?_))); (case side2 => exact HC0_2.out); rintro e w' ⟨rfl, ⟨nd, rfl⟩⟩; (try first | exact ⟨rfl, _, World.drewN_drewN _ _ _⟩ | exact ⟨rfl, _, Eq.trans (World.drewN_drewN _ _ _) (congrArg (World.drewN _) (Nat.add_assoc _ _ _))⟩))); try go_wp2_with (first | ((with_reducible refine gate_dst (N := 2) rfl ?_); refine box_event ?hg (N := 2) ?hd (cs := #[.bool a0_0, .bool a0_1, .slice A0_2 l0_2.length c0_2, .slice A0_3 l0_3.length c0_3, .slice A0_4 l0_4.length c0_4, .slice A0_5 l0_5.length c0_5, .bool a0_6, .bool a0_7]) (t := 25) ?hr ?_; (case hd => rfl); (case hg => rfl); (case hr => first | (go_simp; done) | (go_simp; rfl)); intro gb458 hg w11 hbox hb; have n0_ := Aside0.mk (below_step (by repeat (first | (with_reducible first | exact HB.out | apply below_alloc | apply pw_below_drewN | apply below_drew1) | exact HB.out)) hb); have n1_ := Aside0.mk (hbox); have n2_ := Aside0.mk ((by rw [hg]; exact (below_size (by repeat (first | (with_reducible first | exact HB.out | apply below_alloc | apply pw_below_drewN | apply below_drew1) | exact HB.out))) : w.heap.size ≤ gb458)); have n3_ := Aside0.mk ((by rw [hg]; exact (below_size (by repeat (first | (with_reducible first | exact HB.out | apply below_alloc | apply pw_below_drewN | apply below_drew1) | exact HB.out))) : w.heap.size ≤ gb458)); clear HB; have HB := n0_; have BK458 := n1_; have GW458 := n2_; have GE458 := n3_; clear n0_ n1_ n2_ n3_; clear hb hbox hg; have hcz12_0 : w11.cell? ⟨gb458, 0, none⟩ = some (.bool a0_0) := (blk_cell BK458.out 0).trans rfl; have hcz12_1 : w11.cell? ⟨gb458, 1, none⟩ = some (.bool a0_1) := (blk_cell BK458.out 1).trans rfl; have hcz12_2 : w11.cell? ⟨gb458, 2, none⟩ = some (.slice A0_2 l0_2.length c0_2) := (blk_cell BK458.out 2).trans rfl; have hcz12_3 : w11.cell? ⟨gb458, 3, none⟩ = some (.slice A0_3 l0_3.length c0_3) := (blk_cell BK458.out 3).trans rfl; have hcz12_4 : w11.cell? ⟨gb458, 4, none⟩ = some (.slice A0_4 l0_4.length c0_4) := (blk_cell BK458.out 4).trans rfl; have hcz12_5 : w11.cell? ⟨gb458, 5, none⟩ = some (.slice A0_5 l0_5.length c0_5) := (blk_cell BK458.out 5).trans rfl; have hcz12_6 : w11.cell? ⟨gb458, 6, none⟩ = some (.bool a0_6) := (blk_cell BK458.out 6).trans rfl; have hcz12_7 : w11.cell? ⟨gb458, 7, none⟩ = some (.bool a0_7) := (blk_cell BK458.out 7).trans rfl; have hfz12_0 := blk_frozen BK458.out 0; have hfz12_1 := blk_frozen BK458.out 1; have hfz12_2 := blk_frozen BK458.out 2; have hfz12_3 := blk_frozen BK458.out 3; have hfz12_4 := blk_frozen BK458.out 4; have hfz12_5 := blk_frozen BK458.out 5; have hfz12_6 := blk_frozen BK458.out 6; have hfz12_7 := blk_frozen BK458.out 7) | (go_at_call 19; (with_reducible refine (boltingref02_Has.calls k _ _ l0_3 a1 false _ ?side1 ?side2 A3.out).mono ?_); (case side1 => repeat (first | exact (Kd.C_below HR0_3.out HB.out) | (with_reducible refine Kd.C_alloc ?_ _) | (with_reducible refine Kd.C_drewN ?_ _) | (with_reducible refine Kd.C_drew ?_))); (case side2 => exact HC0_3.out); rintro e w' ⟨rfl, ⟨nd, rfl⟩⟩; (try first | exact ⟨rfl, _, World.drewN_drewN _ _ _⟩ | exact ⟨rfl, _, Eq.trans (World.drewN_drewN _ _ _) (congrArg (World.drewN _) (Nat.add_assoc _ _ _))⟩)) | (go_at_call 19; (with_reducible refine (boltingref02_Has.calls k _ _ l0_2 a1 t460 _ ?side1 ?side2 A7.out).mono ?_); (case side1 => repeat (first | exact (Kd.C_below HR0_2.out (by repeat (first | (with_reducible first | exact HB.out | apply below_alloc | apply pw_below_drewN | apply below_drew1 | refine below_set ?_ GE458.out) | exact HB.out))) | (with_reducible refine Kd.C_alloc ?_ _) | (with_reducible refine Kd.C_drewN ?_ _) | (with_reducible refine Kd.C_drew ?_))); (case side2 => exact HC0_2.out); rintro e w' ⟨rfl, ⟨nd, rfl⟩⟩; (try first | exact ⟨rfl, _, World.drewN_drewN _ _ _⟩ | exact ⟨rfl, _, Eq.trans (World.drewN_drewN _ _ _) (congrArg (World.drewN _) (Nat.add_assoc _ _ _))⟩))))
   go_ret
   exact ⟨by first | rfl | (simp [errW_none, errW_some] <;> rfl) | (simp [*, errW_none, errW_some] <;> rfl), by repeat (first | (with_reducible first | exact HB.out | apply below_alloc | apply pw_below_drewN | apply below_drew1 | refine below_set ?_ GE458.out) | exact HB.out)⟩

/-! ### boltingref12_Attr: function 16 -/
def boltingref12_Attr.l0 : Nat → ByteArray → ByteArray → Bool → Int → Bool → Bool → List ByteArray → List ByteArray → List ByteArray → List (S35) → Bool → Bool → Option (Bool)
 | 0, _, _, _, _, _, _, _, _, _, _, _, _ => none
 | k + 1, x1, x2, x7, x8, x462000, x462001, x462002, x462003, x462004, x462005, x462006, x462007 => if x8 < (x462005.length : Int) then (if x7 = true then (boltingref12_Attr.l0 k x1 x2 true (wrap64 (x8 + 1)) x462000 x462001 x462002 x462003 x462004 x462005 x462006 x462007) else (if 0 ≤ x8 then (if ((rd_T35 x462005 x8).f0).toList = x1.toList then ((boltingref02_Has.f k ((rd_T35 x462005 x8).f1) x2).bind fun t465 => (boltingref12_Attr.l0 k x1 x2 t465 (wrap64 (x8 + 1)) x462000 x462001 x462002 x462003 x462004 x462005 x462006 x462007)) else (boltingref12_Attr.l0 k x1 x2 false (wrap64 (x8 + 1)) x462000 x462001 x462002 x462003 x462004 x462005 x462006 x462007)) else (none))) else (if x462001 = true then (if x7 = true then (some true) else (if x462007 = true then (if (x2.size : Int) > 5 then (if 0 ≤ 5 then (if 5 ≤ (x2.size : Int) then (some ((x2.extract 0 5).toList == ([100, 97, 116, 97, 45] : List UInt8))) else (none)) else (none)) else (some false)) else (some false))) else (some (!x7)))
def boltingref12_Attr.f (k : Nat) (a0_0 : Bool) (a0_1 : Bool) (l0_2 : List ByteArray) (l0_3 : List ByteArray) (l0_4 : List ByteArray) (l0_5 : List (S35)) (a0_6 : Bool) (a0_7 : Bool) (a1 : ByteArray) (a2 : ByteArray) : Option (Bool) := (boltingref02_Has.f k l0_4 a2).bind fun t462 => (boltingref12_Attr.l0 k a1 a2 t462 0 a0_0 a0_1 l0_2 l0_3 l0_4 l0_5 a0_6 a0_7)
set_option maxHeartbeats 8000000 in
set_option maxRecDepth 100000 in
theorem boltingref12_Attr.calls (k : Nat) (a0_0 : Bool) (a0_1 : Bool) (A0_2 : Option Addr) (c0_2 : Nat) (l0_2 : List ByteArray) (A0_3 : Option Addr) (c0_3 : Nat) (l0_3 : List ByteArray) (A0_4 : Option Addr) (c0_4 : Nat) (l0_4 : List ByteArray) (A0_5 : Option Addr) (c0_5 : Nat) (l0_5 : List (S35)) (a0_6 : Bool) (a0_7 : Bool) (a1 : ByteArray) (a2 : ByteArray) (r : Bool) (w : World) (hr0_2 : Kd.C Kd.string w A0_2 l0_2.length l0_2) (hc0_2 : l0_2.length ≤ c0_2) (hr0_3 : Kd.C Kd.string w A0_3 l0_3.length l0_3) (hc0_3 : l0_3.length ≤ c0_3) (hr0_4 : Kd.C Kd.string w A0_4 l0_4.length l0_4) (hc0_4 : l0_4.length ≤ c0_4) (hr0_5 : Kd.C k35 w A0_5 l0_5.length l0_5) (hc0_5 : l0_5.length ≤ c0_5) (h : boltingref12_Attr.f k a0_0 a0_1 l0_2 l0_3 l0_4 l0_5 a0_6 a0_7 a1 a2 = some r) :
  Calls Try.prog 16 #[.agg #[.bool a0_0, .bool a0_1, .slice A0_2 l0_2.length c0_2, .slice A0_3 l0_3.length c0_3, .slice A0_4 l0_4.length c0_4, .slice A0_5 l0_5.length c0_5, .bool a0_6, .bool a0_7], .string a1, .string a2] w fun e w' => e = .returned (.bool r) ∧ Below w.heap.size w w' := by
 have hu25 := Try.underlying25
 have HR0_2 := Aside0.mk hr0_2
 have HC0_2 := Aside0.mk hc0_2
 clear hr0_2 hc0_2
 have HR0_3 := Aside0.mk hr0_3
 have HC0_3 := Aside0.mk hc0_3
 clear hr0_3 hc0_3
 have HR0_4 := Aside0.mk hr0_4
 have HC0_4 := Aside0.mk hc0_4
 clear hr0_4 hc0_4
 have HR0_5 := Aside0.mk hr0_5
 have HC0_5 := Aside0.mk hc0_5
 clear hr0_5 hc0_5
 have HB := Aside0.mk (Below.refl w.heap.size w)
 have H : ((boltingref02_Has.f k l0_4 a2).bind fun t462 => (boltingref12_Attr.l0 k a1 a2 t462 0 a0_0 a0_1 l0_2 l0_3 l0_4 l0_5 a0_6 a0_7)) = some r := h
 clear h
 replace H := Option.bind_eq_some_iff.mp H
 obtain ⟨t462, A40, H⟩ := H
 replace H : (boltingref12_Attr.l0 k a1 a2 t462 0 a0_0 a0_1 l0_2 l0_3 l0_4 l0_5 a0_6 a0_7) = some r := H
 have A4 := Aside0.mk A40
 clear A40
 have H' := Aside0.mk H
 clear H
 go_enter Try.func16, Try.ntmps16
 go_wp2_with (first | ((with_reducible refine gate_dst (N := 3) rfl ?_); (try (refine gate_guard (by rfl) ?_; dsimp only)); refine box_event ?hg (N := 3) ?hd (cs := #[.bool a0_0, .bool a0_1, .slice A0_2 l0_2.length c0_2, .slice A0_3 l0_3.length c0_3, .slice A0_4 l0_4.length c0_4, .slice A0_5 l0_5.length c0_5, .bool a0_6, .bool a0_7]) (t := 25) ?hr ?_; (case hd => rfl); (case hg => rfl); (case hr => first | (go_simp; done) | (go_simp; rfl)); intro gb461 hg w5 hbox hb; have n0_ := Aside0.mk (below_step (by repeat (first | (with_reducible first | exact HB.out | apply below_alloc | apply pw_below_drewN | apply below_drew1) | exact HB.out)) hb); have n1_ := Aside0.mk (hbox); have n2_ := Aside0.mk ((by rw [hg]; exact (below_size (by repeat (first | (with_reducible first | exact HB.out | apply below_alloc | apply pw_below_drewN | apply below_drew1) | exact HB.out))) : w.heap.size ≤ gb461)); have n3_ := Aside0.mk ((by rw [hg]; exact (below_size (by repeat (first | (with_reducible first | exact HB.out | apply below_alloc | apply pw_below_drewN | apply below_drew1) | exact HB.out))) : w.heap.size ≤ gb461)); clear HB; have HB := n0_; have BK461 := n1_; have GW461 := n2_; have GE461 := n3_; clear n0_ n1_ n2_ n3_; clear hb hbox hg; have hcz6_0 : w5.cell? ⟨gb461, 0, none⟩ = some (.bool a0_0) := (blk_cell BK461.out 0).trans rfl; have hcz6_1 : w5.cell? ⟨gb461, 1, none⟩ = some (.bool a0_1) := (blk_cell BK461.out 1).trans rfl; have hcz6_2 : w5.cell? ⟨gb461, 2, none⟩ = some (.slice A0_2 l0_2.length c0_2) := (blk_cell BK461.out 2).trans rfl; have hcz6_3 : w5.cell? ⟨gb461, 3, none⟩ = some (.slice A0_3 l0_3.length c0_3) := (blk_cell BK461.out 3).trans rfl; have hcz6_4 : w5.cell? ⟨gb461, 4, none⟩ = some (.slice A0_4 l0_4.length c0_4) := (blk_cell BK461.out 4).trans rfl; have hcz6_5 : w5.cell? ⟨gb461, 5, none⟩ = some (.slice A0_5 l0_5.length c0_5) := (blk_cell BK461.out 5).trans rfl; have hcz6_6 : w5.cell? ⟨gb461, 6, none⟩ = some (.bool a0_6) := (blk_cell BK461.out 6).trans rfl; have hcz6_7 : w5.cell? ⟨gb461, 7, none⟩ = some (.bool a0_7) := (blk_cell BK461.out 7).trans rfl; have hfz6_0 := blk_frozen BK461.out 0; have hfz6_1 := blk_frozen BK461.out 1; have hfz6_2 := blk_frozen BK461.out 2; have hfz6_3 := blk_frozen BK461.out 3; have hfz6_4 := blk_frozen BK461.out 4; have hfz6_5 := blk_frozen BK461.out 5; have hfz6_6 := blk_frozen BK461.out 6; have hfz6_7 := blk_frozen BK461.out 7) | ((with_reducible refine gate_callee (f := 19) rfl ?_); refine goesL_ (some 12) rfl rfl Try.func19 (by kernel_rfl) rfl #[.slice A0_4 l0_4.length c0_4, .string a2] rfl (by (try simp only [List.map_toArray, List.map_cons, List.map_nil]); first | done | rfl | (simp only [List.length_drop, List.length_take]; rfl)) ?_; (with_reducible refine (boltingref02_Has.calls k _ _ l0_4 a2 t462 _ ?side1 ?side2 A4.out).mono ?_); (case side1 => repeat (first | exact (Kd.C_below HR0_4.out HB.out) | (with_reducible refine Kd.C_alloc ?_ _) | (with_reducible refine Kd.C_drewN ?_ _) | (with_reducible refine Kd.C_drew ?_))); (case side2 => exact HC0_4.out); rintro e w' ⟨rfl, ⟨nd, rfl⟩⟩; refine ⟨_, rfl, ?_⟩))
 go_loopg [7, 8] k (fun kq v7 v8 w' => ∃ (x7_1 : Bool) (x8_1 : Int), v7 = .bool x7_1 ∧ v8 = .int .i64 x8_1 ∧ Aside0 (boltingref12_Attr.l0 kq a1 a2 x7_1 x8_1 a0_0 a0_1 l0_2 l0_3 l0_4 l0_5 a0_6 a0_7 = some r) ∧ Aside0 (kq ≤ k) ∧ Aside0 (w'.heap[gb461]? = some (.cells #[.bool a0_0, .bool a0_1, (.slice A0_2 l0_2.length c0_2), (.slice A0_3 l0_3.length c0_3), (.slice A0_4 l0_4.length c0_4), (.slice A0_5 l0_5.length c0_5), .bool a0_6, .bool a0_7] 25 (0, 0))) ∧ Aside0 (Below w.heap.size w w'))
 case atStart => exact ⟨(t462), (0), (by first | rfl | (simp; done) | (simp [*]; done)), (by first | rfl | (simp; done) | (simp [*]; done)), H', ⟨Nat.le_refl _⟩, ⟨by exact BK461.out⟩, ⟨by repeat (first | (with_reducible first | exact HB.out | apply below_alloc | apply pw_below_drewN | apply below_drew1 | refine below_set ?_ GE461.out) | exact HB.out)⟩⟩
 case round =>
  clear H'
  try clear c1
  try clear p2
  try clear hcz6_0
  try clear hcz6_1
  try clear hcz6_2
  try clear hcz6_3
  try clear hcz6_4
  try clear hcz6_5
  try clear hcz6_6
  try clear hcz6_7
  try clear hfz6_0
  try clear hfz6_1
  try clear hfz6_2
  try clear hfz6_3
  try clear hfz6_4
  try clear hfz6_5
  try clear hfz6_6
  try clear hfz6_7
  obtain ⟨x7_1, x8_1, rfl, rfl, HA, HK1, BK461, HB⟩ := hrel
  cases gk with
  | zero => exact absurd HA.out (by simp [boltingref12_Attr.l0])
  | succ k1 =>
   have H := HA.out
   clear HA
   simp only [boltingref12_Attr.l0] at H
   by_cases c7 : x8_1 < (l0_5.length : Int)
   ·rw [if_pos c7] at H
    have c7b0 : decide (x8_1 < (l0_5.length : Int)) = true := decide_eq_true c7
    clear c7
    by_cases c8 : x7_1 = true
    ·subst c8
     have H1 : (boltingref12_Attr.l0 k1 a1 a2 true (wrap64 (x8_1 + 1)) a0_0 a0_1 l0_2 l0_3 l0_4 l0_5 a0_6 a0_7) = some r := by rw [if_pos rfl] at H; exact H
     clear H
     have H := H1
     clear H1
     have H' := Aside0.mk H
     clear H
     have hcz9_0 : wr.cell? ⟨gb461, 0, none⟩ = some (.bool a0_0) := (blk_cell BK461.out 0).trans rfl
     have hcz9_1 : wr.cell? ⟨gb461, 1, none⟩ = some (.bool a0_1) := (blk_cell BK461.out 1).trans rfl
     have hcz9_2 : wr.cell? ⟨gb461, 2, none⟩ = some (.slice A0_2 l0_2.length c0_2) := (blk_cell BK461.out 2).trans rfl
     have hcz9_3 : wr.cell? ⟨gb461, 3, none⟩ = some (.slice A0_3 l0_3.length c0_3) := (blk_cell BK461.out 3).trans rfl
     have hcz9_4 : wr.cell? ⟨gb461, 4, none⟩ = some (.slice A0_4 l0_4.length c0_4) := (blk_cell BK461.out 4).trans rfl
     have hcz9_5 : wr.cell? ⟨gb461, 5, none⟩ = some (.slice A0_5 l0_5.length c0_5) := (blk_cell BK461.out 5).trans rfl
     have hcz9_6 : wr.cell? ⟨gb461, 6, none⟩ = some (.bool a0_6) := (blk_cell BK461.out 6).trans rfl
     have hcz9_7 : wr.cell? ⟨gb461, 7, none⟩ = some (.bool a0_7) := (blk_cell BK461.out 7).trans rfl
     have hfz9_0 := blk_frozen BK461.out 0
     have hfz9_1 := blk_frozen BK461.out 1
     have hfz9_2 := blk_frozen BK461.out 2
     have hfz9_3 := blk_frozen BK461.out 3
     have hfz9_4 := blk_frozen BK461.out 4
     have hfz9_5 := blk_frozen BK461.out 5
     have hfz9_6 := blk_frozen BK461.out 6
     have hfz9_7 := blk_frozen BK461.out 7
     go_wp2
     go_roundg k1
     case measure => have := HK1.out; omega
     case rel => exact ⟨(true), (wrap64 (x8_1 + 1)), (by first | rfl | (simp; done) | (simp [*]; done)), (by first | rfl | (simp; done) | (simp [*]; done)), H', ⟨by have := HK1.out; omega⟩, ⟨by exact BK461.out⟩, ⟨by repeat (first | (with_reducible first | exact HB.out | apply below_alloc | apply pw_below_drewN | apply below_drew1 | refine below_set ?_ GE461.out) | exact HB.out)⟩⟩
    ·replace c8 := Bool.eq_false_iff.mpr c8
     subst c8
     have H1 : (if 0 ≤ x8_1 then (if ((rd_T35 l0_5 x8_1).f0).toList = a1.toList then ((boltingref02_Has.f k1 ((rd_T35 l0_5 x8_1).f1) a2).bind fun t465 => (boltingref12_Attr.l0 k1 a1 a2 t465 (wrap64 (x8_1 + 1)) a0_0 a0_1 l0_2 l0_3 l0_4 l0_5 a0_6 a0_7)) else (boltingref12_Attr.l0 k1 a1 a2 false (wrap64 (x8_1 + 1)) a0_0 a0_1 l0_2 l0_3 l0_4 l0_5 a0_6 a0_7)) else (none)) = some r := by rw [if_neg (show ¬ (false = true) by decide)] at H; exact H
     clear H
     have H := H1
     clear H1
     by_cases c10 : 0 ≤ x8_1
     ·rw [if_pos c10] at H
      have c10b0 : decide (0 ≤ x8_1) = true := decide_eq_true c10
      clear c10
      by_cases c11 : ((rd_T35 l0_5 x8_1).f0).toList = a1.toList
      ·rw [if_pos c11] at H
       have c11b0 : (((rd_T35 l0_5 x8_1).f0).toList == a1.toList) = true := beq_iff_eq.mpr c11
       have c11b1 : (((rd_T35 l0_5 x8_1).f0).toList != a1.toList) = false := bne_eq_false_iff_eq.mpr c11
       clear c11
       replace H := Option.bind_eq_some_iff.mp H
       obtain ⟨t465, A120, H⟩ := H
       replace H : (boltingref12_Attr.l0 k1 a1 a2 t465 (wrap64 (x8_1 + 1)) a0_0 a0_1 l0_2 l0_3 l0_4 l0_5 a0_6 a0_7) = some r := H
       have A12 := Aside0.mk A120
       clear A120
       have H' := Aside0.mk H
       clear H
       have hcz13_0 : wr.cell? ⟨gb461, 0, none⟩ = some (.bool a0_0) := (blk_cell BK461.out 0).trans rfl
       have hcz13_1 : wr.cell? ⟨gb461, 1, none⟩ = some (.bool a0_1) := (blk_cell BK461.out 1).trans rfl
       have hcz13_2 : wr.cell? ⟨gb461, 2, none⟩ = some (.slice A0_2 l0_2.length c0_2) := (blk_cell BK461.out 2).trans rfl
       have hcz13_3 : wr.cell? ⟨gb461, 3, none⟩ = some (.slice A0_3 l0_3.length c0_3) := (blk_cell BK461.out 3).trans rfl
       have hcz13_4 : wr.cell? ⟨gb461, 4, none⟩ = some (.slice A0_4 l0_4.length c0_4) := (blk_cell BK461.out 4).trans rfl
       have hcz13_5 : wr.cell? ⟨gb461, 5, none⟩ = some (.slice A0_5 l0_5.length c0_5) := (blk_cell BK461.out 5).trans rfl
       have hcz13_6 : wr.cell? ⟨gb461, 6, none⟩ = some (.bool a0_6) := (blk_cell BK461.out 6).trans rfl
       have hcz13_7 : wr.cell? ⟨gb461, 7, none⟩ = some (.bool a0_7) := (blk_cell BK461.out 7).trans rfl
       have hfz13_0 := blk_frozen BK461.out 0
       have hfz13_1 := blk_frozen BK461.out 1
       have hfz13_2 := blk_frozen BK461.out 2
       have hfz13_3 := blk_frozen BK461.out 3
       have hfz13_4 := blk_frozen BK461.out 4
       have hfz13_5 := blk_frozen BK461.out 5
       have hfz13_6 := blk_frozen BK461.out 6
       have hfz13_7 := blk_frozen BK461.out 7
       have p463 : 0 ≤ (x8_1 : Int) := of_decide_eq_true (by first | (with_reducible assumption) | assumption)
       have q463 : x8_1 < (l0_5.length : Int) := of_decide_eq_true (by first | (with_reducible assumption) | assumption)
       obtain ⟨ad463, A463_1, c463_1, e463, hx463_0, hx463_1, hl463_1, hi463_1⟩ := at_T35 HR0_5.out x8_1 p463 q463
       cases e463
       replace hx463_0 := (HB.out.cell (World.block_lt_of_cell? w _ hx463_0)).trans hx463_0
       replace hx463_1 := (HB.out.cell (World.block_lt_of_cell? w _ hx463_1)).trans hx463_1
       have HR463_1 := Aside0.mk hi463_1
       have HC463_1 := Aside0.mk hl463_1
       clear hi463_1 hl463_1
       replace p463 := eq_true p463
       replace q463 := eq_true q463
       have p464 : 0 ≤ (x8_1 : Int) := of_decide_eq_true (by first | (with_reducible assumption) | assumption)
       have q464 : x8_1 < (l0_5.length : Int) := of_decide_eq_true (by first | (with_reducible assumption) | assumption)
       obtain ⟨ad464, A464_1, c464_1, e464, hx464_0, hx464_1, hl464_1, hi464_1⟩ := at_T35 HR0_5.out x8_1 p464 q464
       obtain rfl : ad463 = ad464 := (by injection e464)
       replace hx464_0 := (HB.out.cell (World.block_lt_of_cell? w _ hx464_0)).trans hx464_0
       replace hx464_1 := (HB.out.cell (World.block_lt_of_cell? w _ hx464_1)).trans hx464_1
       have HR464_1 := Aside0.mk hi464_1
       have HC464_1 := Aside0.mk hl464_1
       clear hi464_1 hl464_1
       replace p464 := eq_true p464
       replace q464 := eq_true q464
       have ea_ := Option.some.inj (hx463_1.symm.trans hx464_1)
       injection ea_ with ea_ en_ ec_
       subst ea_
       subst ec_
       clear en_
       go_wp2_with (first | (go_at_call 19; (with_reducible refine (boltingref02_Has.calls k1 _ _ ((rd_T35 l0_5 x8_1).f1) a2 t465 _ ?side1 ?side2 A12.out).mono ?_); (case side1 => repeat (first | exact (Kd.C_below HR464_1.out HB.out) | (with_reducible refine Kd.C_alloc ?_ _) | (with_reducible refine Kd.C_drewN ?_ _) | (with_reducible refine Kd.C_drew ?_))); (case side2 => exact HC464_1.out); rintro e w' ⟨rfl, ⟨nd, rfl⟩⟩))
       go_roundg k1
       case measure => have := HK1.out; omega
       case rel => exact ⟨(t465), (wrap64 (x8_1 + 1)), (by first | rfl | (simp; done) | (simp [*]; done)), (by first | rfl | (simp; done) | (simp [*]; done)), H', ⟨by have := HK1.out; omega⟩, ⟨by exact BK461.out⟩, ⟨by repeat (first | (with_reducible first | exact HB.out | apply below_alloc | apply pw_below_drewN | apply below_drew1 | refine below_set ?_ GE461.out) | exact HB.out)⟩⟩
      ·rw [if_neg c11] at H
       have c11b0 : (((rd_T35 l0_5 x8_1).f0).toList == a1.toList) = false := beq_eq_false_iff_ne.mpr c11
       have c11b1 : (((rd_T35 l0_5 x8_1).f0).toList != a1.toList) = true := bne_iff_ne.mpr c11
       have H' := Aside0.mk H
       clear H
       have hcz14_0 : wr.cell? ⟨gb461, 0, none⟩ = some (.bool a0_0) := (blk_cell BK461.out 0).trans rfl
       have hcz14_1 : wr.cell? ⟨gb461, 1, none⟩ = some (.bool a0_1) := (blk_cell BK461.out 1).trans rfl
       have hcz14_2 : wr.cell? ⟨gb461, 2, none⟩ = some (.slice A0_2 l0_2.length c0_2) := (blk_cell BK461.out 2).trans rfl
       have hcz14_3 : wr.cell? ⟨gb461, 3, none⟩ = some (.slice A0_3 l0_3.length c0_3) := (blk_cell BK461.out 3).trans rfl
       have hcz14_4 : wr.cell? ⟨gb461, 4, none⟩ = some (.slice A0_4 l0_4.length c0_4) := (blk_cell BK461.out 4).trans rfl
       have hcz14_5 : wr.cell? ⟨gb461, 5, none⟩ = some (.slice A0_5 l0_5.length c0_5) := (blk_cell BK461.out 5).trans rfl
       have hcz14_6 : wr.cell? ⟨gb461, 6, none⟩ = some (.bool a0_6) := (blk_cell BK461.out 6).trans rfl
       have hcz14_7 : wr.cell? ⟨gb461, 7, none⟩ = some (.bool a0_7) := (blk_cell BK461.out 7).trans rfl
       have hfz14_0 := blk_frozen BK461.out 0
       have hfz14_1 := blk_frozen BK461.out 1
       have hfz14_2 := blk_frozen BK461.out 2
       have hfz14_3 := blk_frozen BK461.out 3
       have hfz14_4 := blk_frozen BK461.out 4
       have hfz14_5 := blk_frozen BK461.out 5
       have hfz14_6 := blk_frozen BK461.out 6
       have hfz14_7 := blk_frozen BK461.out 7
       have p463 : 0 ≤ (x8_1 : Int) := of_decide_eq_true (by first | (with_reducible assumption) | assumption)
       have q463 : x8_1 < (l0_5.length : Int) := of_decide_eq_true (by first | (with_reducible assumption) | assumption)
       obtain ⟨ad463, A463_1, c463_1, e463, hx463_0, hx463_1, hl463_1, hi463_1⟩ := at_T35 HR0_5.out x8_1 p463 q463
       cases e463
       replace hx463_0 := (HB.out.cell (World.block_lt_of_cell? w _ hx463_0)).trans hx463_0
       replace hx463_1 := (HB.out.cell (World.block_lt_of_cell? w _ hx463_1)).trans hx463_1
       have HR463_1 := Aside0.mk hi463_1
       have HC463_1 := Aside0.mk hl463_1
       clear hi463_1 hl463_1
       replace p463 := eq_true p463
       replace q463 := eq_true q463
       go_wp2
       go_roundg k1
       case measure => have := HK1.out; omega
       case rel => exact ⟨(false), (wrap64 (x8_1 + 1)), (by first | rfl | (simp; done) | (simp [*]; done)), (by first | rfl | (simp; done) | (simp [*]; done)), H', ⟨by have := HK1.out; omega⟩, ⟨by exact BK461.out⟩, ⟨by repeat (first | (with_reducible first | exact HB.out | apply below_alloc | apply pw_below_drewN | apply below_drew1 | refine below_set ?_ GE461.out) | exact HB.out)⟩⟩
     ·rw [if_neg c10] at H
      exact absurd H (by simp)
   ·rw [if_neg c7] at H
    have c7b0 : decide (x8_1 < (l0_5.length : Int)) = false := decide_eq_false c7
    clear c7
    by_cases c15 : a0_1 = true
    ·subst c15
     have H1 : (if x7_1 = true then (some true) else (if a0_7 = true then (if (a2.size : Int) > 5 then (if 0 ≤ 5 then (if 5 ≤ (a2.size : Int) then (some ((a2.extract 0 5).toList == ([100, 97, 116, 97, 45] : List UInt8))) else (none)) else (none)) else (some false)) else (some false))) = some r := by rw [if_pos rfl] at H; exact H
     clear H
     have H := H1
     clear H1
     by_cases c16 : x7_1 = true
     ·subst c16
      have H1 : (some true) = some r := by rw [if_pos rfl] at H; exact H
      clear H
      have H := H1
      clear H1
      obtain rfl := Option.some.inj H
      have hcz17_0 : wr.cell? ⟨gb461, 0, none⟩ = some (.bool a0_0) := (blk_cell BK461.out 0).trans rfl
      have hcz17_1 : wr.cell? ⟨gb461, 1, none⟩ = some (.bool true) := (blk_cell BK461.out 1).trans rfl
      have hcz17_2 : wr.cell? ⟨gb461, 2, none⟩ = some (.slice A0_2 l0_2.length c0_2) := (blk_cell BK461.out 2).trans rfl
      have hcz17_3 : wr.cell? ⟨gb461, 3, none⟩ = some (.slice A0_3 l0_3.length c0_3) := (blk_cell BK461.out 3).trans rfl
      have hcz17_4 : wr.cell? ⟨gb461, 4, none⟩ = some (.slice A0_4 l0_4.length c0_4) := (blk_cell BK461.out 4).trans rfl
      have hcz17_5 : wr.cell? ⟨gb461, 5, none⟩ = some (.slice A0_5 l0_5.length c0_5) := (blk_cell BK461.out 5).trans rfl
      have hcz17_6 : wr.cell? ⟨gb461, 6, none⟩ = some (.bool a0_6) := (blk_cell BK461.out 6).trans rfl
      have hcz17_7 : wr.cell? ⟨gb461, 7, none⟩ = some (.bool a0_7) := (blk_cell BK461.out 7).trans rfl
      have hfz17_0 := blk_frozen BK461.out 0
      have hfz17_1 := blk_frozen BK461.out 1
      have hfz17_2 := blk_frozen BK461.out 2
      have hfz17_3 := blk_frozen BK461.out 3
      have hfz17_4 := blk_frozen BK461.out 4
      have hfz17_5 := blk_frozen BK461.out 5
      have hfz17_6 := blk_frozen BK461.out 6
      have hfz17_7 := blk_frozen BK461.out 7
      go_wp2
      go_ret
      exact ⟨by first | rfl | (simp [errW_none, errW_some] <;> rfl) | (simp [*, errW_none, errW_some] <;> rfl), by repeat (first | (with_reducible first | exact HB.out | apply below_alloc | apply pw_below_drewN | apply below_drew1 | refine below_set ?_ GE461.out) | exact HB.out)⟩
     ·replace c16 := Bool.eq_false_iff.mpr c16
      subst c16
      have H1 : (if a0_7 = true then (if (a2.size : Int) > 5 then (if 0 ≤ 5 then (if 5 ≤ (a2.size : Int) then (some ((a2.extract 0 5).toList == ([100, 97, 116, 97, 45] : List UInt8))) else (none)) else (none)) else (some false)) else (some false)) = some r := by rw [if_neg (show ¬ (false = true) by decide)] at H; exact H
      clear H
      have H := H1
      clear H1
      by_cases c18 : a0_7 = true
      ·subst c18
       have H1 : (if (a2.size : Int) > 5 then (if 0 ≤ 5 then (if 5 ≤ (a2.size : Int) then (some ((a2.extract 0 5).toList == ([100, 97, 116, 97, 45] : List UInt8))) else (none)) else (none)) else (some false)) = some r := by rw [if_pos rfl] at H; exact H
       clear H
       have H := H1
       clear H1
       by_cases c19 : (a2.size : Int) > 5
       ·rw [if_pos c19] at H
        have c19b0 : decide (5 < (a2.size : Int)) = true := decide_eq_true c19
        have c19b1 : decide (5 < a2.size) = true := decide_eq_true (by omega)
        clear c19
        by_cases c20 : 0 ≤ 5
        ·rw [if_pos c20] at H
         have c20b0 := eq_true c20
         have c20b1 : decide (0 ≤ 5) = true := decide_eq_true c20
         clear c20
         by_cases c21 : 5 ≤ (a2.size : Int)
         ·rw [if_pos c21] at H
          have c21b0 := eq_true c21
          have c21b1 : decide (5 ≤ (a2.size : Int)) = true := decide_eq_true c21
          clear c21
          obtain rfl := Option.some.inj H
          have hcz22_0 : wr.cell? ⟨gb461, 0, none⟩ = some (.bool a0_0) := (blk_cell BK461.out 0).trans rfl
          have hcz22_1 : wr.cell? ⟨gb461, 1, none⟩ = some (.bool true) := (blk_cell BK461.out 1).trans rfl
          have hcz22_2 : wr.cell? ⟨gb461, 2, none⟩ = some (.slice A0_2 l0_2.length c0_2) := (blk_cell BK461.out 2).trans rfl
          have hcz22_3 : wr.cell? ⟨gb461, 3, none⟩ = some (.slice A0_3 l0_3.length c0_3) := (blk_cell BK461.out 3).trans rfl
          have hcz22_4 : wr.cell? ⟨gb461, 4, none⟩ = some (.slice A0_4 l0_4.length c0_4) := (blk_cell BK461.out 4).trans rfl
          have hcz22_5 : wr.cell? ⟨gb461, 5, none⟩ = some (.slice A0_5 l0_5.length c0_5) := (blk_cell BK461.out 5).trans rfl
          have hcz22_6 : wr.cell? ⟨gb461, 6, none⟩ = some (.bool a0_6) := (blk_cell BK461.out 6).trans rfl
          have hcz22_7 : wr.cell? ⟨gb461, 7, none⟩ = some (.bool true) := (blk_cell BK461.out 7).trans rfl
          have hfz22_0 := blk_frozen BK461.out 0
          have hfz22_1 := blk_frozen BK461.out 1
          have hfz22_2 := blk_frozen BK461.out 2
          have hfz22_3 := blk_frozen BK461.out 3
          have hfz22_4 := blk_frozen BK461.out 4
          have hfz22_5 := blk_frozen BK461.out 5
          have hfz22_6 := blk_frozen BK461.out 6
          have hfz22_7 := blk_frozen BK461.out 7
          go_wp2
          go_ret
          exact ⟨by first | rfl | (simp [errW_none, errW_some] <;> rfl) | (simp [*, errW_none, errW_some] <;> rfl), by repeat (first | (with_reducible first | exact HB.out | apply below_alloc | apply pw_below_drewN | apply below_drew1 | refine below_set ?_ GE461.out) | exact HB.out)⟩
         ·rw [if_neg c21] at H
          exact absurd H (by simp)
        ·rw [if_neg c20] at H
         exact absurd H (by simp)
       ·rw [if_neg c19] at H
        have c19b0 : decide (5 < (a2.size : Int)) = false := decide_eq_false c19
        have c19b1 : decide (5 < a2.size) = false := decide_eq_false (by omega)
        clear c19
        obtain rfl := Option.some.inj H
        have hcz23_0 : wr.cell? ⟨gb461, 0, none⟩ = some (.bool a0_0) := (blk_cell BK461.out 0).trans rfl
        have hcz23_1 : wr.cell? ⟨gb461, 1, none⟩ = some (.bool true) := (blk_cell BK461.out 1).trans rfl
        have hcz23_2 : wr.cell? ⟨gb461, 2, none⟩ = some (.slice A0_2 l0_2.length c0_2) := (blk_cell BK461.out 2).trans rfl
        have hcz23_3 : wr.cell? ⟨gb461, 3, none⟩ = some (.slice A0_3 l0_3.length c0_3) := (blk_cell BK461.out 3).trans rfl
        have hcz23_4 : wr.cell? ⟨gb461, 4, none⟩ = some (.slice A0_4 l0_4.length c0_4) := (blk_cell BK461.out 4).trans rfl
        have hcz23_5 : wr.cell? ⟨gb461, 5, none⟩ = some (.slice A0_5 l0_5.length c0_5) := (blk_cell BK461.out 5).trans rfl
        have hcz23_6 : wr.cell? ⟨gb461, 6, none⟩ = some (.bool a0_6) := (blk_cell BK461.out 6).trans rfl
        have hcz23_7 : wr.cell? ⟨gb461, 7, none⟩ = some (.bool true) := (blk_cell BK461.out 7).trans rfl
        have hfz23_0 := blk_frozen BK461.out 0
        have hfz23_1 := blk_frozen BK461.out 1
        have hfz23_2 := blk_frozen BK461.out 2
        have hfz23_3 := blk_frozen BK461.out 3
        have hfz23_4 := blk_frozen BK461.out 4
        have hfz23_5 := blk_frozen BK461.out 5
        have hfz23_6 := blk_frozen BK461.out 6
        have hfz23_7 := blk_frozen BK461.out 7
        go_wp2
        go_ret
        exact ⟨by first | rfl | (simp [errW_none, errW_some] <;> rfl) | (simp [*, errW_none, errW_some] <;> rfl), by repeat (first | (with_reducible first | exact HB.out | apply below_alloc | apply pw_below_drewN | apply below_drew1 | refine below_set ?_ GE461.out) | exact HB.out)⟩
      ·replace c18 := Bool.eq_false_iff.mpr c18
       subst c18
       have H1 : (some false) = some r := by rw [if_neg (show ¬ (false = true) by decide)] at H; exact H
       clear H
       have H := H1
       clear H1
       obtain rfl := Option.some.inj H
       have hcz24_0 : wr.cell? ⟨gb461, 0, none⟩ = some (.bool a0_0) := (blk_cell BK461.out 0).trans rfl
       have hcz24_1 : wr.cell? ⟨gb461, 1, none⟩ = some (.bool true) := (blk_cell BK461.out 1).trans rfl
       have hcz24_2 : wr.cell? ⟨gb461, 2, none⟩ = some (.slice A0_2 l0_2.length c0_2) := (blk_cell BK461.out 2).trans rfl
       have hcz24_3 : wr.cell? ⟨gb461, 3, none⟩ = some (.slice A0_3 l0_3.length c0_3) := (blk_cell BK461.out 3).trans rfl
       have hcz24_4 : wr.cell? ⟨gb461, 4, none⟩ = some (.slice A0_4 l0_4.length c0_4) := (blk_cell BK461.out 4).trans rfl
       have hcz24_5 : wr.cell? ⟨gb461, 5, none⟩ = some (.slice A0_5 l0_5.length c0_5) := (blk_cell BK461.out 5).trans rfl
       have hcz24_6 : wr.cell? ⟨gb461, 6, none⟩ = some (.bool a0_6) := (blk_cell BK461.out 6).trans rfl
       have hcz24_7 : wr.cell? ⟨gb461, 7, none⟩ = some (.bool false) := (blk_cell BK461.out 7).trans rfl
       have hfz24_0 := blk_frozen BK461.out 0
       have hfz24_1 := blk_frozen BK461.out 1
       have hfz24_2 := blk_frozen BK461.out 2
       have hfz24_3 := blk_frozen BK461.out 3
       have hfz24_4 := blk_frozen BK461.out 4
       have hfz24_5 := blk_frozen BK461.out 5
       have hfz24_6 := blk_frozen BK461.out 6
       have hfz24_7 := blk_frozen BK461.out 7
       go_wp2
       go_ret
       exact ⟨by first | rfl | (simp [errW_none, errW_some] <;> rfl) | (simp [*, errW_none, errW_some] <;> rfl), by repeat (first | (with_reducible first | exact HB.out | apply below_alloc | apply pw_below_drewN | apply below_drew1 | refine below_set ?_ GE461.out) | exact HB.out)⟩
    ·replace c15 := Bool.eq_false_iff.mpr c15
     subst c15
     have H1 : (some (!x7_1)) = some r := by rw [if_neg (show ¬ (false = true) by decide)] at H; exact H
     clear H
     have H := H1
     clear H1
     obtain rfl := Option.some.inj H
     have hcz25_0 : wr.cell? ⟨gb461, 0, none⟩ = some (.bool a0_0) := (blk_cell BK461.out 0).trans rfl
     have hcz25_1 : wr.cell? ⟨gb461, 1, none⟩ = some (.bool false) := (blk_cell BK461.out 1).trans rfl
     have hcz25_2 : wr.cell? ⟨gb461, 2, none⟩ = some (.slice A0_2 l0_2.length c0_2) := (blk_cell BK461.out 2).trans rfl
     have hcz25_3 : wr.cell? ⟨gb461, 3, none⟩ = some (.slice A0_3 l0_3.length c0_3) := (blk_cell BK461.out 3).trans rfl
     have hcz25_4 : wr.cell? ⟨gb461, 4, none⟩ = some (.slice A0_4 l0_4.length c0_4) := (blk_cell BK461.out 4).trans rfl
     have hcz25_5 : wr.cell? ⟨gb461, 5, none⟩ = some (.slice A0_5 l0_5.length c0_5) := (blk_cell BK461.out 5).trans rfl
     have hcz25_6 : wr.cell? ⟨gb461, 6, none⟩ = some (.bool a0_6) := (blk_cell BK461.out 6).trans rfl
     have hcz25_7 : wr.cell? ⟨gb461, 7, none⟩ = some (.bool a0_7) := (blk_cell BK461.out 7).trans rfl
     have hfz25_0 := blk_frozen BK461.out 0
     have hfz25_1 := blk_frozen BK461.out 1
     have hfz25_2 := blk_frozen BK461.out 2
     have hfz25_3 := blk_frozen BK461.out 3
     have hfz25_4 := blk_frozen BK461.out 4
     have hfz25_5 := blk_frozen BK461.out 5
     have hfz25_6 := blk_frozen BK461.out 6
     have hfz25_7 := blk_frozen BK461.out 7
     go_wp2
     go_ret
     exact ⟨by first | rfl | (simp [errW_none, errW_some] <;> rfl) | (simp [*, errW_none, errW_some] <;> rfl), by repeat (first | (with_reducible first | exact HB.out | apply below_alloc | apply pw_below_drewN | apply below_drew1 | refine below_set ?_ GE461.out) | exact HB.out)⟩

end Go.Proofs.Ytjofofpplpmgjaa.Pr
namespace Go.Proofs.Ytjofofpplpmgjaa.Pr
open Go.RowKit Go.Proofs.YtjofofpplpmgjaaW.PrintWords Go.Proofs.YtjofofpplpmgjaaW.PrintLast Go.Proofs.YtjofofpplpmgjaaW.PrintMore
attribute [local go_sem] max2_int min2_int max_two min_two max_three min_three max_four min_four   -- for this text's walks alone
set_option linter.unusedVariables false
set_option linter.unusedSimpArgs false

/-! ### boltingref02_Is: function 27 -/
def boltingref02_Is.l0 : Nat → List ByteArray → Int → Option (Bool)
  | 0, _, _ => none
  | k + 1, x0, x3 => if x3 < (x0.length : Int) then (if 0 ≤ (wrap64 (x3 - 1)) then (if (wrap64 (x3 - 1)) < (x0.length : Int) then (if 0 ≤ x3 then (if ((Op.bytesLess ((rdOf ByteArray.empty x0 (wrap64 (x3 - 1))).toList) ((rdOf ByteArray.empty x0 x3).toList)) = true) then (boltingref02_Is.l0 k x0 (wrap64 (x3 + 1))) else (some false)) else (none)) else (none)) else (none)) else (some true)
def boltingref02_Is.f (k : Nat) (l0 : List ByteArray) : Option (Bool) := boltingref02_Is.l0 k l0 1
end Go.Proofs.Ytjofofpplpmgjaa.Pr
/- Configurations: what they read as; config.Element, boltingref12.Element, Attr, Same in plain words. -/
namespace Go.Proofs.Ytjofofpplpmgjaa.Pure
set_option linter.unusedVariables false
set_option linter.unusedSimpArgs false
open Go.RowKit Go.Lib Go.Shelf Go.Proofs.YtjofofpplpmgjaaW.PrintWords Go.Proofs.YtjofofpplpmgjaaW.PrintLast Go.Proofs.YtjofofpplpmgjaaW.PrintMore Go.Proofs.Ytjofofpplpmgjaa.Pr

structure Cf where
  al : Bool
  aal : Bool
  els : List ByteArray
  rep : List ByteArray
  ats : List ByteArray
  per : List S35
  com : Bool
  dt : Bool
/-- What a slice reads as. -/
def Sl {α : Type} (d : Kd α) (w : World) (v : Value) (xs : List α) : Prop := ∃ A c, v = .slice A xs.length c ∧ xs.length ≤ c ∧ d.C w A xs.length xs
theorem Sl.below {α : Type} {d : Kd α} {w w' : World} {v : Value} {xs : List α} (h : Sl d w v xs) (hb : Below w.heap.size w w') : Sl d w' v xs := by
  obtain ⟨A, c, rfl, hl, hC⟩ := h
  exact ⟨A, c, rfl, hl, Kd.C_below hC hb⟩
/-- What a configuration reads as. -/
def CfV (w : World) (v : Value) (c : Cf) : Prop := ∃ v2 v3 v4 v5, v = .agg #[.bool c.al, .bool c.aal, v2, v3, v4, v5, .bool c.com, .bool c.dt] ∧ Sl Kd.string w v2 c.els ∧ Sl Kd.string w v3 c.rep ∧ Sl Kd.string w v4 c.ats ∧ Sl k35 w v5 c.per
theorem CfV.below {w w' : World} {v : Value} {c : Cf} (h : CfV w v c) (hb : Below w.heap.size w w') : CfV w' v c := by
  obtain ⟨v2, v3, v4, v5, hv, h2, h3, h4, h5⟩ := h
  exact ⟨v2, v3, v4, v5, hv, h2.below hb, h3.below hb, h4.below hb, h5.below hb⟩
structure Fit (c : Cf) : Prop where
  els : c.els.length ≤ 1000
  rep : c.rep.length ≤ 1000
  ats : c.ats.length ≤ 1000
  per : c.per.length ≤ 1000
  sub : ∀ p ∈ c.per, p.f1.length ≤ 1000
theorem drawn_below {w w' : World} (h : Drawn0 w w') : Below w.heap.size w w' := by
  obtain ⟨n, rfl⟩ := h
  exact pw_below_drewN (Below.refl _ _) n

/-! ### elements -/
def elemI (c : Cf) (n : ByteArray) : Int := if mem c.rep n = true then 2 else if (mem c.els n != c.al) = true then 1 else 0
/-! ### attributes, the reference -/
def dataB (a : ByteArray) : Bool := hasPrefix (dat a) [100, 97, 116, 97, 45] && decide (5 < a.size)
def perB (e a : ByteArray) (p : S35) : Bool := decide (p.f0 = e) && mem p.f1 a
def namedB (c : Cf) (e a : ByteArray) : Bool := mem c.ats a || c.per.any (perB e a)
def attrB (c : Cf) (e a : ByteArray) : Bool := if c.aal = true then (namedB c e a || (c.dt && dataB a)) else !namedB c e a
def finB (c : Cf) (a : ByteArray) (nm : Bool) : Bool := if c.aal = true then (nm || (c.dt && dataB a)) else !nm
theorem attrB_fin (c : Cf) (e a : ByteArray) : attrB c e a = finB c a (namedB c e a) := rfl
theorem data_pre (a : ByteArray) (h : 5 < a.size) : ((a.extract 0 5).toList == ([100, 97, 116, 97, 45] : List UInt8)) = dataB a := by
  unfold dataB Lib.hasPrefix
  rw [Lib.toList_data, Lib.extract_eq]
  simp only [List.drop_zero, h, decide_true, Bool.and_true]
  have hl : 5 < (dat a).length := by rw [show (dat a).length = a.size from (Lib.size_eq a).symm]; exact h
  rw [Bool.eq_iff_iff, beq_iff_eq, List.isPrefixOf_iff_prefix, List.prefix_iff_eq_take]
  simp only [Nat.sub_zero]
  constructor
  · intro e; simpa using e.symm
  · intro e; simpa using e.symm
theorem rd35_at {l : List S35} {i : Nat} {x : S35} (h : l[i]? = some x) : rd_T35 l (i : Int) = x := by
  unfold rd_T35
  rw [Int.toNat_natCast, List.getD_eq_getElem?_getD, h]
  rfl
theorem rattr_l0 {c : Cf} (hf : Fit c) (e a : ByteArray) : ∀ (d i : Nat) (acc : Bool), i + d = c.per.length → ∀ k, d + 1100 < k →
    boltingref12_Attr.l0 k e a acc (i : Int) c.al c.aal c.els c.rep c.ats c.per c.com c.dt = some (finB c a (acc || (c.per.drop i).any (perB e a)))
  | 0, i, acc, h, k, hk => by
    obtain ⟨k, rfl⟩ : ∃ m, k = m + 1 := ⟨k - 1, by omega⟩
    simp only [boltingref12_Attr.l0]
    rw [if_neg (by omega), List.drop_of_length_le (by omega)]
    simp only [List.any_nil, Bool.or_false]
    unfold finB
    cases c.aal with
    | false => rw [if_neg (by decide), if_neg (by decide)]
    | true =>
      rw [if_pos rfl, if_pos rfl]
      cases acc with
      | true => rw [if_pos rfl, Bool.true_or]
      | false =>
        rw [if_neg (by decide), Bool.false_or]
        cases c.dt with
        | false => rw [if_neg (by decide), Bool.false_and]
        | true =>
          rw [if_pos rfl, Bool.true_and]
          by_cases h5 : (a.size : Int) > 5
          · rw [if_pos h5, if_pos (by decide), if_pos (by omega), data_pre a (by omega)]
          · rw [if_neg h5]
            unfold dataB
            rw [show decide (5 < a.size) = false from decide_eq_false (by omega), Bool.and_false]
  | d + 1, i, acc, h, k, hk => by
    obtain ⟨k, rfl⟩ : ∃ m, k = m + 1 := ⟨k - 1, by omega⟩
    have hp := hf.per
    obtain ⟨p, hp0⟩ : ∃ p, c.per[i]? = some p := ⟨_, List.getElem?_eq_getElem (by omega)⟩
    have hs := hf.sub p (List.mem_of_getElem? hp0)
    simp only [boltingref12_Attr.l0]
    rw [if_pos (by omega), rd35_at hp0, wrap_succ (by omega) (by omega), drop_at hp0, List.any_cons]
    cases acc with
    | true =>
      rw [if_pos rfl]
      have := rattr_l0 hf e a d (i + 1) true (by omega) k (by omega)
      simpa using this
    | false =>
      rw [if_neg (by decide), if_pos (by omega), Bool.false_or]
      by_cases he : p.f0 = e
      · rw [if_pos (by rw [he]), has_f _ _ (by omega) (by omega), Option.bind_some]
        have := rattr_l0 hf e a d (i + 1) (mem p.f1 a) (by omega) k (by omega)
        rw [show perB e a p = mem p.f1 a from by unfold perB; rw [decide_eq_true he, Bool.true_and]]
        exact this
      · rw [if_neg (fun g => he (toList_inj g))]
        have := rattr_l0 hf e a d (i + 1) false (by omega) k (by omega)
        rw [show perB e a p = false from by unfold perB; rw [decide_eq_false he, Bool.false_and]]
        exact this
def cfOf (x : Bool × Bool × List ByteArray × List ByteArray × List ByteArray × List S35 × Bool × Bool) : Cf := ⟨x.1, x.2.1, x.2.2.1, x.2.2.2.1, x.2.2.2.2.1, x.2.2.2.2.2.1, x.2.2.2.2.2.2.1, x.2.2.2.2.2.2.2⟩
def plainC : Cf := cfOf (config_Plain.f.getD (true, true, [], [], [], [], true, true))
def allC : Cf := ⟨false, false, [], [], [], [], true, false⟩
end Go.Proofs.Ytjofofpplpmgjaa.Pure
/- config.Attr: its contract. -/
namespace Go.Proofs.Ytjofofpplpmgjaa.Pure
set_option linter.unusedVariables false
set_option linter.unusedSimpArgs false
open Go.RowKit Go.Lib Go.Shelf Go.Proofs.YtjofofpplpmgjaaW.PrintWords Go.Proofs.YtjofofpplpmgjaaW.PrintLast Go.Proofs.YtjofofpplpmgjaaW.PrintMore Go.Proofs.Ytjofofpplpmgjaa.Pr

/-- slices.Contains at a list that is read. -/
theorem contains_calls {v : Value} {l : List ByteArray} (hl : l.length ≤ 1000) (s : ByteArray) {w : World} (h : Sl Kd.string w v l) :
    Calls Try.prog 31 #[v, .string s] w fun e w' => e = .returned (.bool (mem l s)) ∧ Below w.heap.size w w' := by
  obtain ⟨A, c, rfl, hc, hC⟩ := h
  refine (slices_Contains_string_string.calls 2000 A c l s _ w hC hc (contains_f l s (by omega) (by omega))).mono ?_
  rintro e w' ⟨rfl, hd⟩
  exact ⟨rfl, drawn_below hd⟩
set_option maxHeartbeats 2000000 in
theorem attr1_calls (e a : ByteArray) (p : S35) (hp : p.f1.length ≤ 1000) {cs : List Value} {W : World} (hK : k35.K W p cs) (b1 b2 : Nat) (h1 : W.cell? ⟨b1, 0, none⟩ = some (.string e)) (h2 : W.cell? ⟨b2, 0, none⟩ = some (.string a)) :
    Calls Try.prog 33 (#[.agg cs.toArray] ++ #[.pointer (some ⟨b1, 0, none⟩), .pointer (some ⟨b2, 0, none⟩)]) W fun r w' => r = .returned (.bool (perB e a p)) ∧ Below W.heap.size W w' := by
  obtain ⟨A1, c1, rfl, hl, hC⟩ := k35_open hK
  show Calls Try.prog _ #[.agg #[.string p.f0, .slice A1 p.f1.length c1], .pointer (some ⟨b1, 0, none⟩), .pointer (some ⟨b2, 0, none⟩)] W _
  have hb : ∀ o, Below W.heap.size W (W.alloc o) := fun o => below_alloc (Below.refl _ _) o
  have g1 : ∀ o, (W.alloc o).cell? ⟨b1, 0, none⟩ = some (.string e) := fun o => ((hb o).cell (p := ⟨b1, 0, none⟩) (World.block_lt_of_cell? W _ h1)).trans h1
  have g2 : ∀ o, (W.alloc o).cell? ⟨b2, 0, none⟩ = some (.string a) := fun o => ((hb o).cell (p := ⟨b2, 0, none⟩) (World.block_lt_of_cell? W _ h2)).trans h2
  have HC : Hid (∀ o, Sl Kd.string (W.alloc o) (.slice A1 p.f1.length c1) p.f1) := fun o => Sl.below ⟨A1, c1, rfl, hl, hC⟩ (hb o)
  have HB := hid hb
  have HP := hid hp
  obtain ⟨m, hm⟩ : ∃ m, mem p.f1 a = m := ⟨_, rfl⟩
  have HM := hid hm
  unfold perB
  rw [hm]
  obtain ⟨f0, hf0⟩ : ∃ f0, p.f0 = f0 := ⟨_, rfl⟩
  rw [hf0]
  clear hb hC hl hK hp hm hf0
  by_cases he : f0 = e
  · subst he
    go_enter Try.func33, Try.ntmps33
    go_wp2_with (go_at_call 31; refine (contains_calls HP.out a (HC.out _)).mono ?_; rintro r w' ⟨rfl, hb'⟩)
    go_ret
    exact ⟨by simp only [decide_true, Bool.true_and]; rw [← HM.out]; rfl, below_step (HB.out _) hb'⟩
  · have he1 : ¬ f0.toList = e.toList := fun g => he (toList_inj g)
    go_enter Try.func33, Try.ntmps33
    go_wp2
    go_ret
    exact ⟨by rw [decide_eq_false he, Bool.false_and]; rfl, HB.out _⟩
theorem at_old {w w' : World} {p : Addr} {v : Value} (h : w.cell? p = some v) (hb : Below w.heap.size w w') : w'.cell? p = some v :=
  (hb.cell (p := p) (World.block_lt_of_cell? w p h)).trans h
theorem at_new (w : World) (cs : Array Value) (t : TypeId) (i : Nat) {v : Value} (h : cs[i]? = some v) : (w.alloc (.cells cs t (0, 0))).cell? ⟨w.heap.size, i, none⟩ = some v :=
  (blk_cell (blk_new w _) i).trans h
theorem bl_alloc (w : World) (o : Obj) : Below w.heap.size w (w.alloc o) := below_alloc (Below.refl _ _) o
theorem bl_two (w : World) (o o' : Obj) : Below w.heap.size w ((w.alloc o).alloc o') := below_step (bl_alloc w o) (bl_alloc _ o')
theorem bl_three (w : World) (o o' o'' : Obj) : Below w.heap.size w (((w.alloc o).alloc o').alloc o'') := below_step (bl_two w o o') (bl_alloc _ o'')
theorem pre_calls (a : ByteArray) (w : World) : Calls Try.prog 34 #[.string a, .string ⟨#[100, 97, 116, 97, 45]⟩] w fun r w' => r = .returned (.bool (hasPrefix (dat a) [100, 97, 116, 97, 45])) ∧ w' = w := Try.strings_HasPrefix a ⟨#[100, 97, 116, 97, 45]⟩ w
set_option maxHeartbeats 4000000 in
theorem attr_calls {v : Value} {c : Cf} (hf : Fit c) (e a : ByteArray) {w : World} (h : CfV w v c) :
    Calls Try.prog 15 #[v, .string e, .string a] w fun r w' => r = .returned (.bool (attrB c e a)) ∧ Below w.heap.size w w' := by
  obtain ⟨v2, v3, v4, v5, rfl, h2, h3, h4, h5⟩ := h
  obtain ⟨A4, c4, rfl, l4, h4⟩ := h4
  obtain ⟨A5, c5, rfl, l5, h5⟩ := h5
  obtain ⟨al, aal, els, rep, ats, per, com, dt⟩ := c
  simp only at h4 h5 l4 l5
  unfold attrB namedB
  simp only
  obtain ⟨m, hm⟩ : ∃ m, mem ats a = m := ⟨_, rfl⟩
  obtain ⟨q, hq⟩ : ∃ q, per.any (perB e a) = q := ⟨_, rfl⟩
  have HS : Hid (∀ o o' o'', Sl Kd.string (((w.alloc o).alloc o').alloc o'') (.slice A4 ats.length c4) ats) := fun o o' o'' => Sl.below ⟨A4, c4, rfl, l4, h4⟩ (bl_three w o o' o'')
  have HC : Hid (∀ W, Below w.heap.size w W → k35.C W A5 per.length per) := fun W hb => Kd.C_below h5 hb
  have HF1 := hid hf.ats
  have HF2 := hid hf.sub
  have HA : Hid (∀ (w1 : World), Below w.heap.size w w1 → w1.cell? ⟨w.heap.size + 1, 0, none⟩ = some (.string e) → w1.cell? ⟨w.heap.size + 1 + 1, 0, none⟩ = some (.string a) →
      Calls Try.prog 32 #[.slice A5 per.length c5, .func (.func 33) #[] #[.pointer (some ⟨w.heap.size + 1, 0, none⟩), .pointer (some ⟨w.heap.size + 1 + 1, 0, none⟩)]] w1 fun r w' => r = .returned (.bool q) ∧ Below w1.heap.size w1 w') := fun w1 hb g1 g2 => by
    rw [← hq]
    refine hasPer_calls (c := c5) (perB e a) 33 _ (fun args w => enters_ Try.func33 (by kernel_rfl) rfl args w) w1 (HC.out w1 hb) ?_
    intro W x cs hx hBW hK
    refine (attr1_calls e a x (hf.sub x hx) (k35.K_below hBW hK) _ _ (at_old g1 hBW) (at_old g2 hBW)).mono ?_
    rintro r w' ⟨rfl, hb'⟩
    exact ⟨rfl, below_step hBW hb'⟩
  have HB := hid (bl_three w)
  have HM := hid hm
  rw [hm, hq]
  have HO : Hid (∀ o1 o2 w1, Below (((w.alloc (.cells #[.bool al, .bool aal, v2, v3, .slice A4 ats.length c4, .slice A5 per.length c5, .bool com, .bool dt] 25)).alloc o1).alloc o2).heap.size (((w.alloc (.cells #[.bool al, .bool aal, v2, v3, .slice A4 ats.length c4, .slice A5 per.length c5, .bool com, .bool dt] 25)).alloc o1).alloc o2) w1 →
      w1.cell? ⟨w.heap.size, 1, none⟩ = some (.bool aal) ∧ w1.cell? ⟨w.heap.size, 5, none⟩ = some (.slice A5 per.length c5) ∧ w1.cell? ⟨w.heap.size, 7, none⟩ = some (.bool dt)) := fun o1 o2 w1 hb =>
    ⟨at_old (at_old (at_new w _ 25 1 rfl) (bl_two _ o1 o2)) hb, at_old (at_old (at_new w _ 25 5 rfl) (bl_two _ o1 o2)) hb, at_old (at_old (at_new w _ 25 7 rfl) (bl_two _ o1 o2)) hb⟩
  have HE : Hid (∀ o w1, Below (((w.alloc o).alloc (.cells #[.string e] 9)).alloc (.cells #[.string a] 9)).heap.size (((w.alloc o).alloc (.cells #[.string e] 9)).alloc (.cells #[.string a] 9)) w1 →
      w1.cell? ⟨w.heap.size + 1, 0, none⟩ = some (.string e) ∧ w1.cell? ⟨w.heap.size + 1 + 1, 0, none⟩ = some (.string a)) := fun o w1 hb => by
    have s1 : (w.alloc o).heap.size = w.heap.size + 1 := World.size_alloc ..
    have s2 : ((w.alloc o).alloc (.cells #[.string e] 9)).heap.size = w.heap.size + 1 + 1 := by rw [World.size_alloc, s1]
    have g1 := at_new (w.alloc o) #[.string e] 9 0 (v := .string e) rfl
    have g2 := at_new ((w.alloc o).alloc (.cells #[.string e] 9)) #[.string a] 9 0 (v := .string a) rfl
    rw [s1] at g1
    rw [s2] at g2
    exact ⟨at_old (at_old g1 (bl_alloc _ _)) hb, at_old g2 hb⟩
  have HP := hid (pre_calls a)
  obtain ⟨pr, hpr⟩ : ∃ pr, hasPrefix (dat a) [100, 97, 116, 97, 45] = pr := ⟨_, rfl⟩
  unfold dataB
  rw [hpr] at HP ⊢
  clear h2 h3 h4 h5 hf hq hm hpr l4 l5
  cases m <;> cases aal <;> cases dt <;> cases pr <;> cases q
  all_goals
    go_enter Try.func15, Try.ntmps15
    go_wp2_with first
      | (go_at_call 31; refine (contains_calls HF1.out a (HS.out _ _ _)).mono ?_; rw [HM.out]; rintro r w1 ⟨rfl, hb1⟩; obtain ⟨k1, k5, k7⟩ := HO.out _ _ _ hb1; obtain ⟨k8, k9⟩ := HE.out _ _ hb1; have HB1 := hid (below_step (HB.out _ _ _) hb1); clear hb1)
      | (go_at_call 32; refine (HA.out _ HB1.out k8 k9).mono ?_; rintro r w2 ⟨rfl, hb2⟩; have j1 := at_old k1 hb2; have j7 := at_old k7 hb2; have j8 := at_old k8 hb2; have j9 := at_old k9 hb2; have HB2 := hid (below_step HB1.out hb2); clear hb2 HB1)
      | (go_at_call 34; refine (HP.out _).mono ?_; rintro r w3 ⟨rfl, rfl⟩)
    go_ret
    exact ⟨by first | rfl | (simp; done) | (simp; omega), by first | exact HB2.out | exact HB1.out⟩
end Go.Proofs.Ytjofofpplpmgjaa.Pure
