import Derived.Test.YtjofofpplpmgjaaJConfigCanon1
import Derived.Laws.Cover1
namespace Go.Proofs.Ytjofofpplpmgjaa.Pr
open Go.RowKit Go.Proofs.YtjofofpplpmgjaaW.PrintWords Go.Proofs.YtjofofpplpmgjaaW.PrintLast Go.Proofs.YtjofofpplpmgjaaW.PrintMore
attribute [local go_sem] max2_int min2_int max_two min_two max_three min_three max_four min_four   -- for this text's walks alone
set_option linter.unusedVariables false
set_option linter.unusedSimpArgs false

def boltingref12_Same.l0 : Nat → Int → Bool → Bool → List ByteArray → List ByteArray → List ByteArray → List (S35) → Bool → Bool → Bool → Bool → List ByteArray → List ByteArray → List ByteArray → List (S35) → Bool → Bool → Option (Bool)
 | 0, _, _, _, _, _, _, _, _, _, _, _, _, _, _, _, _, _ => none
 | k + 1, x5, x176000, x176001, x176002, x176003, x176004, x176005, x176006, x176007, x177000, x177001, x177002, x177003, x177004, x177005, x177006, x177007 => if x5 < (x176005.length : Int) then (if 0 ≤ x5 then (if x5 < (x177005.length : Int) then (if ((rd_T35 x176005 x5).f0).toList = ((rd_T35 x177005 x5).f0).toList then ((boltingref02_Equal.f k ((rd_T35 x176005 x5).f1) ((rd_T35 x177005 x5).f1)).bind fun t181 => (if t181 = true then (boltingref12_Same.l0 k (wrap64 (x5 + 1)) x176000 x176001 x176002 x176003 x176004 x176005 x176006 x176007 x177000 x177001 x177002 x177003 x177004 x177005 x177006 x177007) else (some false))) else (some false)) else (none)) else (none)) else (if (x176000 == x177000) = true then (if (x176001 == x177001) = true then (if (x176006 == x177006) = true then (if (x176007 == x177007) = true then ((boltingref02_Equal.f k x176002 x177002).bind fun t182 => (if t182 = true then ((boltingref02_Equal.f k x176003 x177003).bind fun t183 => (if t183 = true then ((boltingref02_Equal.f k x176004 x177004).bind fun t184 => (some t184)) else (some false))) else (some false))) else (some false)) else (some false)) else (some false)) else (some false))
def boltingref12_Same.f (k : Nat) (a0_0 : Bool) (a0_1 : Bool) (l0_2 : List ByteArray) (l0_3 : List ByteArray) (l0_4 : List ByteArray) (l0_5 : List (S35)) (a0_6 : Bool) (a0_7 : Bool) (a1_0 : Bool) (a1_1 : Bool) (l1_2 : List ByteArray) (l1_3 : List ByteArray) (l1_4 : List ByteArray) (l1_5 : List (S35)) (a1_6 : Bool) (a1_7 : Bool) : Option (Bool) := if (l0_5.length : Int) = (l1_5.length : Int) then (boltingref12_Same.l0 k 0 a0_0 a0_1 l0_2 l0_3 l0_4 l0_5 a0_6 a0_7 a1_0 a1_1 l1_2 l1_3 l1_4 l1_5 a1_6 a1_7) else (some false)
set_option maxHeartbeats 8000000 in
set_option maxRecDepth 100000 in
theorem boltingref12_Same.calls (k : Nat) (a0_0 : Bool) (a0_1 : Bool) (A0_2 : Option Addr) (c0_2 : Nat) (l0_2 : List ByteArray) (A0_3 : Option Addr) (c0_3 : Nat) (l0_3 : List ByteArray) (A0_4 : Option Addr) (c0_4 : Nat) (l0_4 : List ByteArray) (A0_5 : Option Addr) (c0_5 : Nat) (l0_5 : List (S35)) (a0_6 : Bool) (a0_7 : Bool) (a1_0 : Bool) (a1_1 : Bool) (A1_2 : Option Addr) (c1_2 : Nat) (l1_2 : List ByteArray) (A1_3 : Option Addr) (c1_3 : Nat) (l1_3 : List ByteArray) (A1_4 : Option Addr) (c1_4 : Nat) (l1_4 : List ByteArray) (A1_5 : Option Addr) (c1_5 : Nat) (l1_5 : List (S35)) (a1_6 : Bool) (a1_7 : Bool) (r : Bool) (w : World) (hr0_2 : Kd.C Kd.string w A0_2 l0_2.length l0_2) (hc0_2 : l0_2.length ≤ c0_2) (hr0_3 : Kd.C Kd.string w A0_3 l0_3.length l0_3) (hc0_3 : l0_3.length ≤ c0_3) (hr0_4 : Kd.C Kd.string w A0_4 l0_4.length l0_4) (hc0_4 : l0_4.length ≤ c0_4) (hr0_5 : Kd.C k35 w A0_5 l0_5.length l0_5) (hc0_5 : l0_5.length ≤ c0_5) (hr1_2 : Kd.C Kd.string w A1_2 l1_2.length l1_2) (hc1_2 : l1_2.length ≤ c1_2) (hr1_3 : Kd.C Kd.string w A1_3 l1_3.length l1_3) (hc1_3 : l1_3.length ≤ c1_3) (hr1_4 : Kd.C Kd.string w A1_4 l1_4.length l1_4) (hc1_4 : l1_4.length ≤ c1_4) (hr1_5 : Kd.C k35 w A1_5 l1_5.length l1_5) (hc1_5 : l1_5.length ≤ c1_5) (h : boltingref12_Same.f k a0_0 a0_1 l0_2 l0_3 l0_4 l0_5 a0_6 a0_7 a1_0 a1_1 l1_2 l1_3 l1_4 l1_5 a1_6 a1_7 = some r) :
  Calls Try.prog 24 #[.agg #[.bool a0_0, .bool a0_1, .slice A0_2 l0_2.length c0_2, .slice A0_3 l0_3.length c0_3, .slice A0_4 l0_4.length c0_4, .slice A0_5 l0_5.length c0_5, .bool a0_6, .bool a0_7], .agg #[.bool a1_0, .bool a1_1, .slice A1_2 l1_2.length c1_2, .slice A1_3 l1_3.length c1_3, .slice A1_4 l1_4.length c1_4, .slice A1_5 l1_5.length c1_5, .bool a1_6, .bool a1_7]] w fun e w' => e = .returned (.bool r) ∧ Below w.heap.size w w' := by
 have hu25 := Try.underlying25
 have HR0_2 := Aside0.mk hr0_2
 have HC0_2 := Aside0.mk hc0_2
 clear hr0_2 hc0_2
 have HR0_3 := Aside0.mk hr0_3
 have HC0_3 := Aside0.mk hc0_3
 clear hr0_3 hc0_3
 have HR0_4 := Aside0.mk hr0_4
 have HC0_4 := Aside0.mk hc0_4
 clear hr0_4 hc0_4
 have HR0_5 := Aside0.mk hr0_5
 have HC0_5 := Aside0.mk hc0_5
 clear hr0_5 hc0_5
 have HR1_2 := Aside0.mk hr1_2
 have HC1_2 := Aside0.mk hc1_2
 clear hr1_2 hc1_2
 have HR1_3 := Aside0.mk hr1_3
 have HC1_3 := Aside0.mk hc1_3
 clear hr1_3 hc1_3
 have HR1_4 := Aside0.mk hr1_4
 have HC1_4 := Aside0.mk hc1_4
 clear hr1_4 hc1_4
 have HR1_5 := Aside0.mk hr1_5
 have HC1_5 := Aside0.mk hc1_5
 clear hr1_5 hc1_5
 have HB := Aside0.mk (Below.refl w.heap.size w)
 have H : (if (l0_5.length : Int) = (l1_5.length : Int) then (boltingref12_Same.l0 k 0 a0_0 a0_1 l0_2 l0_3 l0_4 l0_5 a0_6 a0_7 a1_0 a1_1 l1_2 l1_3 l1_4 l1_5 a1_6 a1_7) else (some false)) = some r := h
 clear h
 by_cases c3 : (l0_5.length : Int) = (l1_5.length : Int)
 ·rw [if_pos c3] at H
  have c3b0 : ((l0_5.length : Int) == (l1_5.length : Int)) = true := beq_iff_eq.mpr c3
  have c3b1 : ((l0_5.length : Int) != (l1_5.length : Int)) = false := bne_eq_false_iff_eq.mpr c3
  have c3b2 : (l0_5.length == l1_5.length) = true := by first | simpa using c3 | (simp at c3 ⊢; omega)
  clear c3
  have H' := Aside0.mk H
  clear H
  go_enter Try.func24, Try.ntmps24
  go_wp2_with (first | ((with_reducible refine gate_dst (N := 2) rfl ?_); refine box_event ?hg (N := 2) ?hd (cs := #[.bool a0_0, .bool a0_1, .slice A0_2 l0_2.length c0_2, .slice A0_3 l0_3.length c0_3, .slice A0_4 l0_4.length c0_4, .slice A0_5 l0_5.length c0_5, .bool a0_6, .bool a0_7]) (t := 25) ?hr ?_; (case hd => rfl); (case hg => rfl); (case hr => first | (go_simp; done) | (go_simp; rfl)); intro gb175 hg w4 hbox hb; have n0_ := Aside0.mk (below_step (by repeat (first | (with_reducible first | exact HB.out | apply below_alloc | apply pw_below_drewN | apply below_drew1) | exact HB.out)) hb); have n1_ := Aside0.mk (hbox); have n2_ := Aside0.mk ((by rw [hg]; exact (below_size (by repeat (first | (with_reducible first | exact HB.out | apply below_alloc | apply pw_below_drewN | apply below_drew1) | exact HB.out))) : w.heap.size ≤ gb175)); have n3_ := Aside0.mk ((by rw [hg]; exact (below_size (by repeat (first | (with_reducible first | exact HB.out | apply below_alloc | apply pw_below_drewN | apply below_drew1) | exact HB.out))) : w.heap.size ≤ gb175)); clear HB; have HB := n0_; have BK175 := n1_; have GW175 := n2_; have GE175 := n3_; clear n0_ n1_ n2_ n3_; clear hb hbox hg) | ((with_reducible refine gate_dst (N := 3) rfl ?_); refine box_event ?hg (N := 3) ?hd (cs := #[.bool a1_0, .bool a1_1, .slice A1_2 l1_2.length c1_2, .slice A1_3 l1_3.length c1_3, .slice A1_4 l1_4.length c1_4, .slice A1_5 l1_5.length c1_5, .bool a1_6, .bool a1_7]) (t := 25) ?hr ?_; (case hd => rfl); (case hg => rfl); (case hr => first | (go_simp; done) | (go_simp; rfl)); intro gb176 hg w5 hbox hb; have n0_ := Aside0.mk (blk_below (g := gb175) (o := .cells #[.bool a0_0, .bool a0_1, .slice A0_2 l0_2.length c0_2, .slice A0_3 l0_3.length c0_3, .slice A0_4 l0_4.length c0_4, .slice A0_5 l0_5.length c0_5, .bool a0_6, .bool a0_7] 25 (0, 0)) (by exact BK175.out) hb); have n1_ := Aside0.mk (below_step (by repeat (first | (with_reducible first | exact HB.out | apply below_alloc | apply pw_below_drewN | apply below_drew1 | refine below_set ?_ GE175.out) | exact HB.out)) hb); have n2_ := Aside0.mk (hbox); have n3_ := Aside0.mk ((by rw [hg]; exact (below_size (by repeat (first | (with_reducible first | exact HB.out | apply below_alloc | apply pw_below_drewN | apply below_drew1 | refine below_set ?_ GE175.out) | exact HB.out))) : w.heap.size ≤ gb176)); have n4_ := Aside0.mk ((by rw [hg]; exact (below_size (by repeat (first | (with_reducible first | exact HB.out | apply below_alloc | apply pw_below_drewN | apply below_drew1 | refine below_set ?_ GE175.out) | exact HB.out))) : w.heap.size ≤ gb176)); have n5_ := Aside0.mk ((by rw [hg]; exact Nat.ne_of_lt (blk_lt (g := gb175) (o := .cells #[.bool a0_0, .bool a0_1, .slice A0_2 l0_2.length c0_2, .slice A0_3 l0_3.length c0_3, .slice A0_4 l0_4.length c0_4, .slice A0_5 l0_5.length c0_5, .bool a0_6, .bool a0_7] 25 (0, 0)) (by exact BK175.out)) : gb175 ≠ gb176)); have n6_ := Aside0.mk ((by rw [hg]; exact Nat.ne_of_gt (blk_lt (g := gb175) (o := .cells #[.bool a0_0, .bool a0_1, .slice A0_2 l0_2.length c0_2, .slice A0_3 l0_3.length c0_3, .slice A0_4 l0_4.length c0_4, .slice A0_5 l0_5.length c0_5, .bool a0_6, .bool a0_7] 25 (0, 0)) (by exact BK175.out)) : gb176 ≠ gb175)); clear BK175; clear HB; have BK175 := n0_; have HB := n1_; have BK176 := n2_; have GW176 := n3_; have GE176 := n4_; have NB175_176 := n5_; have NB176_175 := n6_; clear n0_ n1_ n2_ n3_ n4_ n5_ n6_; clear hb hbox hg; have hnb6 := NB175_176.out; have hnc6 := NB176_175.out; have hcz7_0 : w5.cell? ⟨gb175, 0, none⟩ = some (.bool a0_0) := (blk_cell BK175.out 0).trans rfl; have hcz7_1 : w5.cell? ⟨gb175, 1, none⟩ = some (.bool a0_1) := (blk_cell BK175.out 1).trans rfl; have hcz7_2 : w5.cell? ⟨gb175, 2, none⟩ = some (.slice A0_2 l0_2.length c0_2) := (blk_cell BK175.out 2).trans rfl; have hcz7_3 : w5.cell? ⟨gb175, 3, none⟩ = some (.slice A0_3 l0_3.length c0_3) := (blk_cell BK175.out 3).trans rfl; have hcz7_4 : w5.cell? ⟨gb175, 4, none⟩ = some (.slice A0_4 l0_4.length c0_4) := (blk_cell BK175.out 4).trans rfl; have hcz7_5 : w5.cell? ⟨gb175, 5, none⟩ = some (.slice A0_5 l0_5.length c0_5) := (blk_cell BK175.out 5).trans rfl; have hcz7_6 : w5.cell? ⟨gb175, 6, none⟩ = some (.bool a0_6) := (blk_cell BK175.out 6).trans rfl; have hcz7_7 : w5.cell? ⟨gb175, 7, none⟩ = some (.bool a0_7) := (blk_cell BK175.out 7).trans rfl; have hfz7_0 := blk_frozen BK175.out 0; have hfz7_1 := blk_frozen BK175.out 1; have hfz7_2 := blk_frozen BK175.out 2; have hfz7_3 := blk_frozen BK175.out 3; have hfz7_4 := blk_frozen BK175.out 4; have hfz7_5 := blk_frozen BK175.out 5; have hfz7_6 := blk_frozen BK175.out 6; have hfz7_7 := blk_frozen BK175.out 7; have hcz8_0 : w5.cell? ⟨gb176, 0, none⟩ = some (.bool a1_0) := (blk_cell BK176.out 0).trans rfl; have hcz8_1 : w5.cell? ⟨gb176, 1, none⟩ = some (.bool a1_1) := (blk_cell BK176.out 1).trans rfl; have hcz8_2 : w5.cell? ⟨gb176, 2, none⟩ = some (.slice A1_2 l1_2.length c1_2) := (blk_cell BK176.out 2).trans rfl; have hcz8_3 : w5.cell? ⟨gb176, 3, none⟩ = some (.slice A1_3 l1_3.length c1_3) := (blk_cell BK176.out 3).trans rfl; have hcz8_4 : w5.cell? ⟨gb176, 4, none⟩ = some (.slice A1_4 l1_4.length c1_4) := (blk_cell BK176.out 4).trans rfl; have hcz8_5 : w5.cell? ⟨gb176, 5, none⟩ = some (.slice A1_5 l1_5.length c1_5) := (blk_cell BK176.out 5).trans rfl; have hcz8_6 : w5.cell? ⟨gb176, 6, none⟩ = some (.bool a1_6) := (blk_cell BK176.out 6).trans rfl; have hcz8_7 : w5.cell? ⟨gb176, 7, none⟩ = some (.bool a1_7) := (blk_cell BK176.out 7).trans rfl; have hfz8_0 := blk_frozen BK176.out 0; have hfz8_1 := blk_frozen BK176.out 1; have hfz8_2 := blk_frozen BK176.out 2; have hfz8_3 := blk_frozen BK176.out 3; have hfz8_4 := blk_frozen BK176.out 4; have hfz8_5 := blk_frozen BK176.out 5; have hfz8_6 := blk_frozen BK176.out 6; have hfz8_7 := blk_frozen BK176.out 7))
  repeat (go_quiet (first | ((with_reducible refine gate_dst (N := 2) rfl ?_); refine box_event ?hg (N := 2) ?hd (cs := #[.bool a0_0, .bool a0_1, .slice A0_2 l0_2.length c0_2, .slice A0_3 l0_3.length c0_3, .slice A0_4 l0_4.length c0_4, .slice A0_5 l0_5.length c0_5, .bool a0_6, .bool a0_7]) (t := 25) ?hr ?_; (case hd => rfl); (case hg => rfl); (case hr => first | (go_simp; done) | (go_simp; rfl)); intro gb175 hg w4 hbox hb; have n0_ := Aside0.mk (below_step (by repeat (first | (with_reducible first | exact HB.out | apply below_alloc | apply pw_below_drewN | apply below_drew1) | exact HB.out)) hb); have n1_ := Aside0.mk (hbox); have n2_ := Aside0.mk ((by rw [hg]; exact (below_size (by repeat (first | (with_reducible first | exact HB.out | apply below_alloc | apply pw_below_drewN | apply below_drew1) | exact HB.out))) : w.heap.size ≤ gb175)); have n3_ := Aside0.mk ((by rw [hg]; exact (below_size (by repeat (first | (with_reducible first | exact HB.out | apply below_alloc | apply pw_below_drewN | apply below_drew1) | exact HB.out))) : w.heap.size ≤ gb175)); clear HB; have HB := n0_; have BK175 := n1_; have GW175 := n2_; have GE175 := n3_; clear n0_ n1_ n2_ n3_; clear hb hbox hg) | ((with_reducible refine gate_dst (N := 3) rfl ?_); refine box_event ?hg (N := 3) ?hd (cs := #[.bool a1_0, .bool a1_1, .slice A1_2 l1_2.length c1_2, .slice A1_3 l1_3.length c1_3, .slice A1_4 l1_4.length c1_4, .slice A1_5 l1_5.length c1_5, .bool a1_6, .bool a1_7]) (t := 25) ?hr ?_; (case hd => rfl); (case hg => rfl); (case hr => first | (go_simp; done) | (go_simp; rfl)); intro gb176 hg w5 hbox hb; have n0_ := Aside0.mk (blk_below (g := gb175) (o := .cells #[.bool a0_0, .bool a0_1, .slice A0_2 l0_2.length c0_2, .slice A0_3 l0_3.length c0_3, .slice A0_4 l0_4.length c0_4, .slice A0_5 l0_5.length c0_5, .bool a0_6, .bool a0_7] 25 (0, 0)) (by exact BK175.out) hb); have n1_ := Aside0.mk (below_step (by repeat (first | (with_reducible first | exact HB.out | apply below_alloc | apply pw_below_drewN | apply below_drew1 | refine below_set ?_ GE175.out) | exact HB.out)) hb); have n2_ := Aside0.mk (hbox); have n3_ := Aside0.mk ((by rw [hg]; exact (below_size (by repeat (first | (with_reducible first | exact HB.out | apply below_alloc | apply pw_below_drewN | apply below_drew1 | refine below_set ?_ GE175.out) | exact HB.out))) : w.heap.size ≤ gb176)); have n4_ := Aside0.mk ((by rw [hg]; exact (below_size (by repeat (first | (with_reducible first | exact HB.out | apply below_alloc | apply pw_below_drewN | apply below_drew1 | refine below_set ?_ GE175.out) | exact HB.out))) : w.heap.size ≤ gb176)); have n5_ := Aside0.mk ((by rw [hg]; exact Nat.ne_of_lt (blk_lt (g := gb175) (o := .cells #[.bool a0_0, .bool a0_1, .slice A0_2 l0_2.length c0_2, .slice A0_3 l0_3.length c0_3, .slice A0_4 l0_4.length c0_4, .slice A0_5 l0_5.length c0_5, .bool a0_6, .bool a0_7] 25 (0, 0)) (by exact BK175.out)) : gb175 ≠ gb176)); have n6_ := Aside0.mk ((by rw [hg]; exact Nat.ne_of_gt (blk_lt (g := gb175) (o := .cells #[.bool a0_0, .bool a0_1, .slice A0_2 l0_2.length c0_2, .slice A0_3 l0_3.length c0_3, .slice A0_4 l0_4.length c0_4, .slice A0_5 l0_5.length c0_5, .bool a0_6, .bool a0_7] 25 (0, 0)) (by exact BK175.out)) : gb176 ≠ gb175)); clear BK175; clear HB; have BK175 := n0_; have HB := n1_; have BK176 := n2_; have GW176 := n3_; have GE176 := n4_; have NB175_176 := n5_; have NB176_175 := n6_; clear n0_ n1_ n2_ n3_ n4_ n5_ n6_; clear hb hbox hg; have hnb6 := NB175_176.out; have hnc6 := NB176_175.out; have hcz7_0 : w5.cell? ⟨gb175, 0, none⟩ = some (.bool a0_0) := (blk_cell BK175.out 0).trans rfl; have hcz7_1 : w5.cell? ⟨gb175, 1, none⟩ = some (.bool a0_1) := (blk_cell BK175.out 1).trans rfl; have hcz7_2 : w5.cell? ⟨gb175, 2, none⟩ = some (.slice A0_2 l0_2.length c0_2) := (blk_cell BK175.out 2).trans rfl; have hcz7_3 : w5.cell? ⟨gb175, 3, none⟩ = some (.slice A0_3 l0_3.length c0_3) := (blk_cell BK175.out 3).trans rfl; have hcz7_4 : w5.cell? ⟨gb175, 4, none⟩ = some (.slice A0_4 l0_4.length c0_4) := (blk_cell BK175.out 4).trans rfl; have hcz7_5 : w5.cell? ⟨gb175, 5, none⟩ = some (.slice A0_5 l0_5.length c0_5) := (blk_cell BK175.out 5).trans rfl; have hcz7_6 : w5.cell? ⟨gb175, 6, none⟩ = some (.bool a0_6) := (blk_cell BK175.out 6).trans rfl; have hcz7_7 : w5.cell? ⟨gb175, 7, none⟩ = some (.bool a0_7) := (blk_cell BK175.out 7).trans rfl; have hfz7_0 := blk_frozen BK175.out 0; have hfz7_1 := blk_frozen BK175.out 1; have hfz7_2 := blk_frozen BK175.out 2; have hfz7_3 := blk_frozen BK175.out 3; have hfz7_4 := blk_frozen BK175.out 4; have hfz7_5 := blk_frozen BK175.out 5; have hfz7_6 := blk_frozen BK175.out 6; have hfz7_7 := blk_frozen BK175.out 7; have hcz8_0 : w5.cell? ⟨gb176, 0, none⟩ = some (.bool a1_0) := (blk_cell BK176.out 0).trans rfl; have hcz8_1 : w5.cell? ⟨gb176, 1, none⟩ = some (.bool a1_1) := (blk_cell BK176.out 1).trans rfl; have hcz8_2 : w5.cell? ⟨gb176, 2, none⟩ = some (.slice A1_2 l1_2.length c1_2) := (blk_cell BK176.out 2).trans rfl; have hcz8_3 : w5.cell? ⟨gb176, 3, none⟩ = some (.slice A1_3 l1_3.length c1_3) := (blk_cell BK176.out 3).trans rfl; have hcz8_4 : w5.cell? ⟨gb176, 4, none⟩ = some (.slice A1_4 l1_4.length c1_4) := (blk_cell BK176.out 4).trans rfl; have hcz8_5 : w5.cell? ⟨gb176, 5, none⟩ = some (.slice A1_5 l1_5.length c1_5) := (blk_cell BK176.out 5).trans rfl; have hcz8_6 : w5.cell? ⟨gb176, 6, none⟩ = some (.bool a1_6) := (blk_cell BK176.out 6).trans rfl; have hcz8_7 : w5.cell? ⟨gb176, 7, none⟩ = some (.bool a1_7) := (blk_cell BK176.out 7).trans rfl; have hfz8_0 := blk_frozen BK176.out 0; have hfz8_1 := blk_frozen BK176.out 1; have hfz8_2 := blk_frozen BK176.out 2; have hfz8_3 := blk_frozen BK176.out 3; have hfz8_4 := blk_frozen BK176.out 4; have hfz8_5 := blk_frozen BK176.out 5; have hfz8_6 := blk_frozen BK176.out 6; have hfz8_7 := blk_frozen BK176.out 7)); try go_wp2_with (first | ((with_reducible refine gate_dst (N := 2) rfl ?_); refine box_event ?hg (N := 2) ?hd (cs := #[.bool a0_0, .bool a0_1, .slice A0_2 l0_2.length c0_2, .slice A0_3 l0_3.length c0_3, .slice A0_4 l0_4.length c0_4, .slice A0_5 l0_5.length c0_5, .bool a0_6, .bool a0_7]) (t := 25) ?hr ?_; (case hd => rfl); (case hg => rfl); (case hr => first | (go_simp; done) | (go_simp; rfl)); intro gb175 hg w4 hbox hb; have n0_ := Aside0.mk (below_step (by repeat (first | (with_reducible first | exact HB.out | apply below_alloc | apply pw_below_drewN | apply below_drew1) | exact HB.out)) hb); have n1_ := Aside0.mk (hbox); have n2_ := Aside0.mk ((by rw [hg]; exact (below_size (by repeat (first | (with_reducible first | exact HB.out | apply below_alloc | apply pw_below_drewN | apply below_drew1) | exact HB.out))) : w.heap.size ≤ gb175)); have n3_ := Aside0.mk ((by rw [hg]; exact (below_size (by repeat (first | (with_reducible first | exact HB.out | apply below_alloc | apply pw_below_drewN | apply below_drew1) | exact HB.out))) : w.heap.size ≤ gb175)); clear HB; have HB := n0_; have BK175 := n1_; have GW175 := n2_; have GE175 := n3_; clear n0_ n1_ n2_ n3_; clear hb hbox hg) | ((with_reducible refine gate_dst (N := 3) rfl ?_); refine box_event ?hg (N := 3) ?hd (cs := #[.bool a1_0, .bool a1_1, .slice A1_2 l1_2.length c1_2, .slice A1_3 l1_3.length c1_3, .slice A1_4 l1_4.length c1_4, .slice A1_5 l1_5.length c1_5, .bool a1_6, .bool a1_7]) (t := 25) ?hr ?_; (case hd => rfl); (case hg => rfl); (case hr => first | (go_simp; done) | (go_simp; rfl)); intro gb176 hg w5 hbox hb; have n0_ := Aside0.mk (blk_below (g := gb175) (o := .cells #[.bool a0_0, .bool a0_1, .slice A0_2 l0_2.length c0_2, .slice A0_3 l0_3.length c0_3, .slice A0_4 l0_4.length c0_4, .slice A0_5 l0_5.length c0_5, .bool a0_6, .bool a0_7] 25 (0, 0)) (by exact BK175.out) hb); have n1_ := Aside0.mk (below_step (by repeat (first | (with_reducible first | exact HB.out | apply below_alloc | apply pw_below_drewN | apply below_drew1 | refine below_set ?_ GE175.out) | exact HB.out)) hb); have n2_ := Aside0.mk (hbox); have n3_ := Aside0.mk ((by rw [hg]; exact (below_size (by repeat (first | (with_reducible first | exact HB.out | apply below_alloc | apply pw_below_drewN | apply below_drew1 | refine below_set ?_ GE175.out) | exact HB.out))) : w.heap.size ≤ gb176)); have n4_ := Aside0.mk ((by rw [hg]; exact (below_size (by repeat (first | (with_reducible first | exact HB.out | apply below_alloc | apply pw_below_drewN | apply below_drew1 | refine below_set ?_ GE175.out) | exact HB.out))) : w.heap.size ≤ gb176)); have n5_ := Aside0.mk ((by rw [hg]; exact Nat.ne_of_lt (blk_lt (g := gb175) (o := .cells #[.bool a0_0, .bool a0_1, .slice A0_2 l0_2.length c0_2, .slice A0_3 l0_3.length c0_3, .slice A0_4 l0_4.length c0_4, .slice A0_5 l0_5.length c0_5, .bool a0_6, .bool a0_7] 25 (0, 0)) (by exact BK175.out)) : gb175 ≠ gb176)); have n6_ := Aside0.mk ((by rw [hg]; exact Nat.ne_of_gt (blk_lt (g := gb175) (o := .cells #[.bool a0_0, .bool a0_1, .slice A0_2 l0_2.length c0_2, .slice A0_3 l0_3.length c0_3, .slice A0_4 l0_4.length c0_4, .slice A0_5 l0_5.length c0_5, .bool a0_6, .bool a0_7] 25 (0, 0)) (by exact BK175.out)) : gb176 ≠ gb175)); clear BK175; clear HB; have BK175 := n0_; have HB := n1_; have BK176 := n2_; have GW176 := n3_; have GE176 := n4_; have NB175_176 := n5_; have NB176_175 := n6_; clear n0_ n1_ n2_ n3_ n4_ n5_ n6_; clear hb hbox hg; have hnb6 := NB175_176.out; have hnc6 := NB176_175.out; have hcz7_0 : w5.cell? ⟨gb175, 0, none⟩ = some (.bool a0_0) := (blk_cell BK175.out 0).trans rfl; have hcz7_1 : w5.cell? ⟨gb175, 1, none⟩ = some (.bool a0_1) := (blk_cell BK175.out 1).trans rfl; have hcz7_2 : w5.cell? ⟨gb175, 2, none⟩ = some (.slice A0_2 l0_2.length c0_2) := (blk_cell BK175.out 2).trans rfl; have hcz7_3 : w5.cell? ⟨gb175, 3, none⟩ = some (.slice A0_3 l0_3.length c0_3) := (blk_cell BK175.out 3).trans rfl; have hcz7_4 : w5.cell? ⟨gb175, 4, none⟩ = some (.slice A0_4 l0_4.length c0_4) := (blk_cell BK175.out 4).trans rfl; have hcz7_5 : w5.cell? ⟨gb175, 5, none⟩ = some (.slice A0_5 l0_5.length c0_5) := (blk_cell BK175.out 5).trans rfl; have hcz7_6 : w5.cell? ⟨gb175, 6, none⟩ = some (.bool a0_6) := (blk_cell BK175.out 6).trans rfl; have hcz7_7 : w5.cell? ⟨gb175, 7, none⟩ = some (.bool a0_7) := (blk_cell BK175.out 7).trans rfl; have hfz7_0 := blk_frozen BK175.out 0; have hfz7_1 := blk_frozen BK175.out 1; have hfz7_2 := blk_frozen BK175.out 2; have hfz7_3 := blk_frozen BK175.out 3; have hfz7_4 := blk_frozen BK175.out 4; have hfz7_5 := blk_frozen BK175.out 5; have hfz7_6 := blk_frozen BK175.out 6; have hfz7_7 := blk_frozen BK175.out 7; have hcz8_0 : w5.cell? ⟨gb176, 0, none⟩ = some (.bool a1_0) := (blk_cell BK176.out 0).trans rfl; have hcz8_1 : w5.cell? ⟨gb176, 1, none⟩ = some (.bool a1_1) := (blk_cell BK176.out 1).trans rfl; have hcz8_2 : w5.cell? ⟨gb176, 2, none⟩ = some (.slice A1_2 l1_2.length c1_2) := (blk_cell BK176.out 2).trans rfl; have hcz8_3 : w5.cell? ⟨gb176, 3, none⟩ = some (.slice A1_3 l1_3.length c1_3) := (blk_cell BK176.out 3).trans rfl; have hcz8_4 : w5.cell? ⟨gb176, 4, none⟩ = some (.slice A1_4 l1_4.length c1_4) := (blk_cell BK176.out 4).trans rfl; have hcz8_5 : w5.cell? ⟨gb176, 5, none⟩ = some (.slice A1_5 l1_5.length c1_5) := (blk_cell BK176.out 5).trans rfl; have hcz8_6 : w5.cell? ⟨gb176, 6, none⟩ = some (.bool a1_6) := (blk_cell BK176.out 6).trans rfl; have hcz8_7 : w5.cell? ⟨gb176, 7, none⟩ = some (.bool a1_7) := (blk_cell BK176.out 7).trans rfl; have hfz8_0 := blk_frozen BK176.out 0; have hfz8_1 := blk_frozen BK176.out 1; have hfz8_2 := blk_frozen BK176.out 2; have hfz8_3 := blk_frozen BK176.out 3; have hfz8_4 := blk_frozen BK176.out 4; have hfz8_5 := blk_frozen BK176.out 5; have hfz8_6 := blk_frozen BK176.out 6; have hfz8_7 := blk_frozen BK176.out 7)))
  go_loopg [5] k (fun kq v5 w' => ∃ (x5_1 : Int), v5 = .int .i64 x5_1 ∧ Aside0 (boltingref12_Same.l0 kq x5_1 a0_0 a0_1 l0_2 l0_3 l0_4 l0_5 a0_6 a0_7 a1_0 a1_1 l1_2 l1_3 l1_4 l1_5 a1_6 a1_7 = some r) ∧ Aside0 (kq ≤ k) ∧ Aside0 (w'.heap[gb175]? = some (.cells #[.bool a0_0, .bool a0_1, (.slice A0_2 l0_2.length c0_2), (.slice A0_3 l0_3.length c0_3), (.slice A0_4 l0_4.length c0_4), (.slice A0_5 l0_5.length c0_5), .bool a0_6, .bool a0_7] 25 (0, 0))) ∧ Aside0 (w'.heap[gb176]? = some (.cells #[.bool a1_0, .bool a1_1, (.slice A1_2 l1_2.length c1_2), (.slice A1_3 l1_3.length c1_3), (.slice A1_4 l1_4.length c1_4), (.slice A1_5 l1_5.length c1_5), .bool a1_6, .bool a1_7] 25 (0, 0))) ∧ Aside0 (Below w.heap.size w w'))
  case atStart => exact ⟨(0), (by first | rfl | (simp; done) | (simp [*]; done)), H', ⟨Nat.le_refl _⟩, ⟨by exact BK175.out⟩, ⟨by exact BK176.out⟩, ⟨by repeat (first | (with_reducible first | exact HB.out | apply below_alloc | apply pw_below_drewN | apply below_drew1 | refine below_set ?_ GE175.out | refine below_set ?_ GE176.out) | exact HB.out)⟩⟩
  case round =>
   clear H'
   try clear c1
   try clear c2
   try clear p2
   try clear c3
   try clear c3b0
   try clear c3b1
   try clear c3b2
   try clear c6
   try clear hcz7_0
   try clear hcz7_1
   try clear hcz7_2
   try clear hcz7_3
   try clear hcz7_4
   try clear hcz7_5
   try clear hcz7_6
   try clear hcz7_7
   try clear hcz8_0
   try clear hcz8_1
   try clear hcz8_2
   try clear hcz8_3
   try clear hcz8_4
   try clear hcz8_5
   try clear hcz8_6
   try clear hcz8_7
   try clear hfz7_0
   try clear hfz7_1
   try clear hfz7_2
   try clear hfz7_3
   try clear hfz7_4
   try clear hfz7_5
   try clear hfz7_6
   try clear hfz7_7
   try clear hfz8_0
   try clear hfz8_1
   try clear hfz8_2
   try clear hfz8_3
   try clear hfz8_4
   try clear hfz8_5
   try clear hfz8_6
   try clear hfz8_7
   obtain ⟨x5_1, rfl, HA, HK1, BK175, BK176, HB⟩ := hrel
   cases gk with
   | zero => exact absurd HA.out (by simp [boltingref12_Same.l0])
   | succ k1 =>
    have H := HA.out
    clear HA
    simp only [boltingref12_Same.l0] at H
    by_cases c9 : x5_1 < (l0_5.length : Int)
    ·rw [if_pos c9] at H
     have c9b0 : decide (x5_1 < (l0_5.length : Int)) = true := decide_eq_true c9
     clear c9
     by_cases c10 : 0 ≤ x5_1
     ·rw [if_pos c10] at H
      have c10b0 : decide (0 ≤ x5_1) = true := decide_eq_true c10
      clear c10
      by_cases c11 : x5_1 < (l1_5.length : Int)
      ·rw [if_pos c11] at H
       have c11b0 : decide (x5_1 < (l1_5.length : Int)) = true := decide_eq_true c11
       clear c11
       by_cases c12 : ((rd_T35 l0_5 x5_1).f0).toList = ((rd_T35 l1_5 x5_1).f0).toList
       ·rw [if_pos c12] at H
        have c12b0 : (((rd_T35 l0_5 x5_1).f0).toList == ((rd_T35 l1_5 x5_1).f0).toList) = true := beq_iff_eq.mpr c12
        have c12b1 : (((rd_T35 l0_5 x5_1).f0).toList != ((rd_T35 l1_5 x5_1).f0).toList) = false := bne_eq_false_iff_eq.mpr c12
        clear c12
        replace H := Option.bind_eq_some_iff.mp H
        obtain ⟨t181, A130, H⟩ := H
        have A13 := Aside0.mk A130
        clear A130
        by_cases c14 : t181 = true
        ·subst c14
         replace H : (boltingref12_Same.l0 k1 (wrap64 (x5_1 + 1)) a0_0 a0_1 l0_2 l0_3 l0_4 l0_5 a0_6 a0_7 a1_0 a1_1 l1_2 l1_3 l1_4 l1_5 a1_6 a1_7) = some r := by rw [if_pos rfl] at H; exact H
         have H' := Aside0.mk H
         clear H
         have hnb15 := NB175_176.out
         have hnc15 := NB176_175.out
         have hcz16_0 : wr.cell? ⟨gb175, 0, none⟩ = some (.bool a0_0) := (blk_cell BK175.out 0).trans rfl
         have hcz16_1 : wr.cell? ⟨gb175, 1, none⟩ = some (.bool a0_1) := (blk_cell BK175.out 1).trans rfl
         have hcz16_2 : wr.cell? ⟨gb175, 2, none⟩ = some (.slice A0_2 l0_2.length c0_2) := (blk_cell BK175.out 2).trans rfl
         have hcz16_3 : wr.cell? ⟨gb175, 3, none⟩ = some (.slice A0_3 l0_3.length c0_3) := (blk_cell BK175.out 3).trans rfl
         have hcz16_4 : wr.cell? ⟨gb175, 4, none⟩ = some (.slice A0_4 l0_4.length c0_4) := (blk_cell BK175.out 4).trans rfl
         have hcz16_5 : wr.cell? ⟨gb175, 5, none⟩ = some (.slice A0_5 l0_5.length c0_5) := (blk_cell BK175.out 5).trans rfl
         have hcz16_6 : wr.cell? ⟨gb175, 6, none⟩ = some (.bool a0_6) := (blk_cell BK175.out 6).trans rfl
         have hcz16_7 : wr.cell? ⟨gb175, 7, none⟩ = some (.bool a0_7) := (blk_cell BK175.out 7).trans rfl
         have hfz16_0 := blk_frozen BK175.out 0
         have hfz16_1 := blk_frozen BK175.out 1
         have hfz16_2 := blk_frozen BK175.out 2
         have hfz16_3 := blk_frozen BK175.out 3
         have hfz16_4 := blk_frozen BK175.out 4
         have hfz16_5 := blk_frozen BK175.out 5
         have hfz16_6 := blk_frozen BK175.out 6
         have hfz16_7 := blk_frozen BK175.out 7
         have p177 : 0 ≤ (x5_1 : Int) := of_decide_eq_true (by first | (with_reducible assumption) | assumption)
         have q177 : x5_1 < (l0_5.length : Int) := of_decide_eq_true (by first | (with_reducible assumption) | assumption)
         obtain ⟨ad177, A177_1, c177_1, e177, hx177_0, hx177_1, hl177_1, hi177_1⟩ := at_T35 HR0_5.out x5_1 p177 q177
         cases e177
         replace hx177_0 := (HB.out.cell (World.block_lt_of_cell? w _ hx177_0)).trans hx177_0
         replace hx177_1 := (HB.out.cell (World.block_lt_of_cell? w _ hx177_1)).trans hx177_1
         have HR177_1 := Aside0.mk hi177_1
         have HC177_1 := Aside0.mk hl177_1
         clear hi177_1 hl177_1
         replace p177 := eq_true p177
         replace q177 := eq_true q177
         have hcz17_0 : wr.cell? ⟨gb176, 0, none⟩ = some (.bool a1_0) := (blk_cell BK176.out 0).trans rfl
         have hcz17_1 : wr.cell? ⟨gb176, 1, none⟩ = some (.bool a1_1) := (blk_cell BK176.out 1).trans rfl
         have hcz17_2 : wr.cell? ⟨gb176, 2, none⟩ = some (.slice A1_2 l1_2.length c1_2) := (blk_cell BK176.out 2).trans rfl
         have hcz17_3 : wr.cell? ⟨gb176, 3, none⟩ = some (.slice A1_3 l1_3.length c1_3) := (blk_cell BK176.out 3).trans rfl
         have hcz17_4 : wr.cell? ⟨gb176, 4, none⟩ = some (.slice A1_4 l1_4.length c1_4) := (blk_cell BK176.out 4).trans rfl
         have hcz17_5 : wr.cell? ⟨gb176, 5, none⟩ = some (.slice A1_5 l1_5.length c1_5) := (blk_cell BK176.out 5).trans rfl
         have hcz17_6 : wr.cell? ⟨gb176, 6, none⟩ = some (.bool a1_6) := (blk_cell BK176.out 6).trans rfl
         have hcz17_7 : wr.cell? ⟨gb176, 7, none⟩ = some (.bool a1_7) := (blk_cell BK176.out 7).trans rfl
         have hfz17_0 := blk_frozen BK176.out 0
         have hfz17_1 := blk_frozen BK176.out 1
         have hfz17_2 := blk_frozen BK176.out 2
         have hfz17_3 := blk_frozen BK176.out 3
         have hfz17_4 := blk_frozen BK176.out 4
         have hfz17_5 := blk_frozen BK176.out 5
         have hfz17_6 := blk_frozen BK176.out 6
         have hfz17_7 := blk_frozen BK176.out 7
         have p178 : 0 ≤ (x5_1 : Int) := of_decide_eq_true (by first | (with_reducible assumption) | assumption)
         have q178 : x5_1 < (l1_5.length : Int) := of_decide_eq_true (by first | (with_reducible assumption) | assumption)
         obtain ⟨ad178, A178_1, c178_1, e178, hx178_0, hx178_1, hl178_1, hi178_1⟩ := at_T35 HR1_5.out x5_1 p178 q178
         cases e178
         replace hx178_0 := (HB.out.cell (World.block_lt_of_cell? w _ hx178_0)).trans hx178_0
         replace hx178_1 := (HB.out.cell (World.block_lt_of_cell? w _ hx178_1)).trans hx178_1
         have HR178_1 := Aside0.mk hi178_1
         have HC178_1 := Aside0.mk hl178_1
         clear hi178_1 hl178_1
         replace p178 := eq_true p178
         replace q178 := eq_true q178
         have p179 : 0 ≤ (x5_1 : Int) := of_decide_eq_true (by first | (with_reducible assumption) | assumption)
         have q179 : x5_1 < (l0_5.length : Int) := of_decide_eq_true (by first | (with_reducible assumption) | assumption)
         obtain ⟨ad179, A179_1, c179_1, e179, hx179_0, hx179_1, hl179_1, hi179_1⟩ := at_T35 HR0_5.out x5_1 p179 q179
         obtain rfl : ad177 = ad179 := (by injection e179)
         replace hx179_0 := (HB.out.cell (World.block_lt_of_cell? w _ hx179_0)).trans hx179_0
         replace hx179_1 := (HB.out.cell (World.block_lt_of_cell? w _ hx179_1)).trans hx179_1
         have HR179_1 := Aside0.mk hi179_1
         have HC179_1 := Aside0.mk hl179_1
         clear hi179_1 hl179_1
         replace p179 := eq_true p179
         replace q179 := eq_true q179
         have ea_ := Option.some.inj (hx177_1.symm.trans hx179_1)
         injection ea_ with ea_ en_ ec_
         subst ea_
         subst ec_
         clear en_
         have p180 : 0 ≤ (x5_1 : Int) := of_decide_eq_true (by first | (with_reducible assumption) | assumption)
         have q180 : x5_1 < (l1_5.length : Int) := of_decide_eq_true (by first | (with_reducible assumption) | assumption)
         obtain ⟨ad180, A180_1, c180_1, e180, hx180_0, hx180_1, hl180_1, hi180_1⟩ := at_T35 HR1_5.out x5_1 p180 q180
         obtain rfl : ad178 = ad180 := (by injection e180)
         replace hx180_0 := (HB.out.cell (World.block_lt_of_cell? w _ hx180_0)).trans hx180_0
         replace hx180_1 := (HB.out.cell (World.block_lt_of_cell? w _ hx180_1)).trans hx180_1
         have HR180_1 := Aside0.mk hi180_1
         have HC180_1 := Aside0.mk hl180_1
         clear hi180_1 hl180_1
         replace p180 := eq_true p180
         replace q180 := eq_true q180
         have ea_ := Option.some.inj (hx178_1.symm.trans hx180_1)
         injection ea_ with ea_ en_ ec_
         subst ea_
         subst ec_
         clear en_
         go_wp2_with (first | (go_at_call 56; (with_reducible refine (boltingref02_Equal.calls k1 _ _ ((rd_T35 l0_5 x5_1).f1) _ _ ((rd_T35 l1_5 x5_1).f1) true _ ?side1 ?side2 ?side3 ?side4 A13.out).mono ?_); (case side1 => repeat (first | exact (Kd.C_below HR179_1.out HB.out) | (with_reducible refine Kd.C_alloc ?_ _) | (with_reducible refine Kd.C_drewN ?_ _) | (with_reducible refine Kd.C_drew ?_))); (case side2 => exact HC179_1.out); (case side3 => repeat (first | exact (Kd.C_below HR180_1.out HB.out) | (with_reducible refine Kd.C_alloc ?_ _) | (with_reducible refine Kd.C_drewN ?_ _) | (with_reducible refine Kd.C_drew ?_))); (case side4 => exact HC180_1.out); rintro e w' ⟨rfl, ⟨nd, rfl⟩⟩; (try first | exact ⟨rfl, _, World.drewN_drewN _ _ _⟩ | exact ⟨rfl, _, Eq.trans (World.drewN_drewN _ _ _) (congrArg (World.drewN _) (Nat.add_assoc _ _ _))⟩)))
         repeat (go_quiet (first | (go_at_call 56; (with_reducible refine (boltingref02_Equal.calls k1 _ _ ((rd_T35 l0_5 x5_1).f1) _ _ ((rd_T35 l1_5 x5_1).f1) true _ ?side1 ?side2 ?side3 ?side4 A13.out).mono ?_); (case side1 => repeat (first | exact (Kd.C_below HR179_1.out HB.out) | (with_reducible refine Kd.C_alloc ?_ _) | (with_reducible refine Kd.C_drewN ?_ _) | (with_reducible refine Kd.C_drew ?_))); (case side2 => exact HC179_1.out); (case side3 => repeat (first | exact (Kd.C_below HR180_1.out HB.out) | (with_reducible refine Kd.C_alloc ?_ _) | (with_reducible refine Kd.C_drewN ?_ _) | (with_reducible refine Kd.C_drew ?_))); (case side4 => exact HC180_1.out); rintro e w' ⟨rfl, ⟨nd, rfl⟩⟩; (try first | exact ⟨rfl, _, World.drewN_drewN _ _ _⟩ | exact ⟨rfl, _, Eq.trans (World.drewN_drewN _ _ _) (congrArg (World.drewN _) (Nat.add_assoc _ _ _))⟩))); try go_wp2_with (first | (go_at_call 56; (with_reducible refine (boltingref02_Equal.calls k1 _ _ ((rd_T35 l0_5 x5_1).f1) _ _ ((rd_T35 l1_5 x5_1).f1) true _ ?side1 ?side2 ?side3 ?side4 A13.out).mono ?_); (case side1 => repeat (first | exact (Kd.C_below HR179_1.out HB.out) | (with_reducible refine Kd.C_alloc ?_ _) | (with_reducible refine Kd.C_drewN ?_ _) | (with_reducible refine Kd.C_drew ?_))); (case side2 => exact HC179_1.out); (case side3 => repeat (first | exact (Kd.C_below HR180_1.out HB.out) | (with_reducible refine Kd.C_alloc ?_ _) | (with_reducible refine Kd.C_drewN ?_ _) | (with_reducible refine Kd.C_drew ?_))); (case side4 => exact HC180_1.out); rintro e w' ⟨rfl, ⟨nd, rfl⟩⟩; (try first | exact ⟨rfl, _, World.drewN_drewN _ _ _⟩ | exact ⟨rfl, _, Eq.trans (World.drewN_drewN _ _ _) (congrArg (World.drewN _) (Nat.add_assoc _ _ _))⟩))))
         go_roundg k1
         case measure => have := HK1.out; omega
         case rel => exact ⟨(wrap64 (x5_1 + 1)), (by first | rfl | (simp; done) | (simp [*]; done)), H', ⟨by have := HK1.out; omega⟩, ⟨by exact BK175.out⟩, ⟨by exact BK176.out⟩, ⟨by repeat (first | (with_reducible first | exact HB.out | apply below_alloc | apply pw_below_drewN | apply below_drew1 | refine below_set ?_ GE175.out | refine below_set ?_ GE176.out) | exact HB.out)⟩⟩
        ·replace c14 := Bool.eq_false_iff.mpr c14
         subst c14
         replace H : (some false) = some r := by rw [if_neg (show ¬ (false = true) by decide)] at H; exact H
         obtain rfl := Option.some.inj H
         have hnb18 := NB175_176.out
         have hnc18 := NB176_175.out
         have hcz19_0 : wr.cell? ⟨gb175, 0, none⟩ = some (.bool a0_0) := (blk_cell BK175.out 0).trans rfl
         have hcz19_1 : wr.cell? ⟨gb175, 1, none⟩ = some (.bool a0_1) := (blk_cell BK175.out 1).trans rfl
         have hcz19_2 : wr.cell? ⟨gb175, 2, none⟩ = some (.slice A0_2 l0_2.length c0_2) := (blk_cell BK175.out 2).trans rfl
         have hcz19_3 : wr.cell? ⟨gb175, 3, none⟩ = some (.slice A0_3 l0_3.length c0_3) := (blk_cell BK175.out 3).trans rfl
         have hcz19_4 : wr.cell? ⟨gb175, 4, none⟩ = some (.slice A0_4 l0_4.length c0_4) := (blk_cell BK175.out 4).trans rfl
         have hcz19_5 : wr.cell? ⟨gb175, 5, none⟩ = some (.slice A0_5 l0_5.length c0_5) := (blk_cell BK175.out 5).trans rfl
         have hcz19_6 : wr.cell? ⟨gb175, 6, none⟩ = some (.bool a0_6) := (blk_cell BK175.out 6).trans rfl
         have hcz19_7 : wr.cell? ⟨gb175, 7, none⟩ = some (.bool a0_7) := (blk_cell BK175.out 7).trans rfl
         have hfz19_0 := blk_frozen BK175.out 0
         have hfz19_1 := blk_frozen BK175.out 1
         have hfz19_2 := blk_frozen BK175.out 2
         have hfz19_3 := blk_frozen BK175.out 3
         have hfz19_4 := blk_frozen BK175.out 4
         have hfz19_5 := blk_frozen BK175.out 5
         have hfz19_6 := blk_frozen BK175.out 6
         have hfz19_7 := blk_frozen BK175.out 7
         have p177 : 0 ≤ (x5_1 : Int) := of_decide_eq_true (by first | (with_reducible assumption) | assumption)
         have q177 : x5_1 < (l0_5.length : Int) := of_decide_eq_true (by first | (with_reducible assumption) | assumption)
         obtain ⟨ad177, A177_1, c177_1, e177, hx177_0, hx177_1, hl177_1, hi177_1⟩ := at_T35 HR0_5.out x5_1 p177 q177
         cases e177
         replace hx177_0 := (HB.out.cell (World.block_lt_of_cell? w _ hx177_0)).trans hx177_0
         replace hx177_1 := (HB.out.cell (World.block_lt_of_cell? w _ hx177_1)).trans hx177_1
         have HR177_1 := Aside0.mk hi177_1
         have HC177_1 := Aside0.mk hl177_1
         clear hi177_1 hl177_1
         replace p177 := eq_true p177
         replace q177 := eq_true q177
         have hcz20_0 : wr.cell? ⟨gb176, 0, none⟩ = some (.bool a1_0) := (blk_cell BK176.out 0).trans rfl
         have hcz20_1 : wr.cell? ⟨gb176, 1, none⟩ = some (.bool a1_1) := (blk_cell BK176.out 1).trans rfl
         have hcz20_2 : wr.cell? ⟨gb176, 2, none⟩ = some (.slice A1_2 l1_2.length c1_2) := (blk_cell BK176.out 2).trans rfl
         have hcz20_3 : wr.cell? ⟨gb176, 3, none⟩ = some (.slice A1_3 l1_3.length c1_3) := (blk_cell BK176.out 3).trans rfl
         have hcz20_4 : wr.cell? ⟨gb176, 4, none⟩ = some (.slice A1_4 l1_4.length c1_4) := (blk_cell BK176.out 4).trans rfl
         have hcz20_5 : wr.cell? ⟨gb176, 5, none⟩ = some (.slice A1_5 l1_5.length c1_5) := (blk_cell BK176.out 5).trans rfl
         have hcz20_6 : wr.cell? ⟨gb176, 6, none⟩ = some (.bool a1_6) := (blk_cell BK176.out 6).trans rfl
         have hcz20_7 : wr.cell? ⟨gb176, 7, none⟩ = some (.bool a1_7) := (blk_cell BK176.out 7).trans rfl
         have hfz20_0 := blk_frozen BK176.out 0
         have hfz20_1 := blk_frozen BK176.out 1
         have hfz20_2 := blk_frozen BK176.out 2
         have hfz20_3 := blk_frozen BK176.out 3
         have hfz20_4 := blk_frozen BK176.out 4
         have hfz20_5 := blk_frozen BK176.out 5
         have hfz20_6 := blk_frozen BK176.out 6
         have hfz20_7 := blk_frozen BK176.out 7
         have p178 : 0 ≤ (x5_1 : Int) := of_decide_eq_true (by first | (with_reducible assumption) | assumption)
         have q178 : x5_1 < (l1_5.length : Int) := of_decide_eq_true (by first | (with_reducible assumption) | assumption)
         obtain ⟨ad178, A178_1, c178_1, e178, hx178_0, hx178_1, hl178_1, hi178_1⟩ := at_T35 HR1_5.out x5_1 p178 q178
         cases e178
         replace hx178_0 := (HB.out.cell (World.block_lt_of_cell? w _ hx178_0)).trans hx178_0
         replace hx178_1 := (HB.out.cell (World.block_lt_of_cell? w _ hx178_1)).trans hx178_1
         have HR178_1 := Aside0.mk hi178_1
         have HC178_1 := Aside0.mk hl178_1
         clear hi178_1 hl178_1
         replace p178 := eq_true p178
         replace q178 := eq_true q178
         have p179 : 0 ≤ (x5_1 : Int) := of_decide_eq_true (by first | (with_reducible assumption) | assumption)
         have q179 : x5_1 < (l0_5.length : Int) := of_decide_eq_true (by first | (with_reducible assumption) | assumption)
         obtain ⟨ad179, A179_1, c179_1, e179, hx179_0, hx179_1, hl179_1, hi179_1⟩ := at_T35 HR0_5.out x5_1 p179 q179
         obtain rfl : ad177 = ad179 := (by injection e179)
         replace hx179_0 := (HB.out.cell (World.block_lt_of_cell? w _ hx179_0)).trans hx179_0
         replace hx179_1 := (HB.out.cell (World.block_lt_of_cell? w _ hx179_1)).trans hx179_1
         have HR179_1 := Aside0.mk hi179_1
         have HC179_1 := Aside0.mk hl179_1
         clear hi179_1 hl179_1
         replace p179 := eq_true p179
         replace q179 := eq_true q179
         have ea_ := Option.some.inj (hx177_1.symm.trans hx179_1)
         injection ea_ with ea_ en_ ec_
         subst ea_
         subst ec_
         clear en_
         have p180 : 0 ≤ (x5_1 : Int) := of_decide_eq_true (by first | (with_reducible assumption) | assumption)
         have q180 : x5_1 < (l1_5.length : Int) := of_decide_eq_true (by first | (with_reducible assumption) | assumption)
         obtain ⟨ad180, A180_1, c180_1, e180, hx180_0, hx180_1, hl180_1, hi180_1⟩ := at_T35 HR1_5.out x5_1 p180 q180
         obtain rfl : ad178 = ad180 := (by injection e180)
         replace hx180_0 := (HB.out.cell (World.block_lt_of_cell? w _ hx180_0)).trans hx180_0
         replace hx180_1 := (HB.out.cell (World.block_lt_of_cell? w _ hx180_1)).trans hx180_1
         have HR180_1 := Aside0.mk hi180_1
         have HC180_1 := Aside0.mk hl180_1
         clear hi180_1 hl180_1
         replace p180 := eq_true p180
         replace q180 := eq_true q180
         have ea_ := Option.some.inj (hx178_1.symm.trans hx180_1)
         injection ea_ with ea_ en_ ec_
         subst ea_
         subst ec_
         clear en_
         go_wp2_with (first | (go_at_call 56; (with_reducible refine (boltingref02_Equal.calls k1 _ _ ((rd_T35 l0_5 x5_1).f1) _ _ ((rd_T35 l1_5 x5_1).f1) false _ ?side1 ?side2 ?side3 ?side4 A13.out).mono ?_); (case side1 => repeat (first | exact (Kd.C_below HR179_1.out HB.out) | (with_reducible refine Kd.C_alloc ?_ _) | (with_reducible refine Kd.C_drewN ?_ _) | (with_reducible refine Kd.C_drew ?_))); (case side2 => exact HC179_1.out); (case side3 => repeat (first | exact (Kd.C_below HR180_1.out HB.out) | (with_reducible refine Kd.C_alloc ?_ _) | (with_reducible refine Kd.C_drewN ?_ _) | (with_reducible refine Kd.C_drew ?_))); (case side4 => exact HC180_1.out); rintro e w' ⟨rfl, ⟨nd, rfl⟩⟩; (try first | exact ⟨rfl, _, World.drewN_drewN _ _ _⟩ | exact ⟨rfl, _, Eq.trans (World.drewN_drewN _ _ _) (congrArg (World.drewN _) (Nat.add_assoc _ _ _))⟩)))
         repeat (go_quiet (first | (go_at_call 56; (with_reducible refine (boltingref02_Equal.calls k1 _ _ ((rd_T35 l0_5 x5_1).f1) _ _ ((rd_T35 l1_5 x5_1).f1) false _ ?side1 ?side2 ?side3 ?side4 A13.out).mono ?_); (case side1 => repeat (first | exact (Kd.C_below HR179_1.out HB.out) | (with_reducible refine Kd.C_alloc ?_ _) | (with_reducible refine Kd.C_drewN ?_ _) | (with_reducible refine Kd.C_drew ?_))); (case side2 => exact HC179_1.out); (case side3 => repeat (first | exact (Kd.C_below HR180_1.out HB.out) | (with_reducible refine Kd.C_alloc ?_ _) | (with_reducible refine Kd.C_drewN ?_ _) | (with_reducible refine Kd.C_drew ?_))); (case side4 => exact HC180_1.out); rintro e w' ⟨rfl, ⟨nd, rfl⟩⟩; (try first | exact ⟨rfl, _, World.drewN_drewN _ _ _⟩ | exact ⟨rfl, _, Eq.trans (World.drewN_drewN _ _ _) (congrArg (World.drewN _) (Nat.add_assoc _ _ _))⟩))); try go_wp2_with (first | (go_at_call 56; (with_reducible refine (boltingref02_Equal.calls k1 _ _ ((rd_T35 l0_5 x5_1).f1) _ _ ((rd_T35 l1_5 x5_1).f1) false _ ?side1 ?side2 ?side3 ?side4 A13.out).mono ?_); (case side1 => repeat (first | exact (Kd.C_below HR179_1.out HB.out) | (with_reducible refine Kd.C_alloc ?_ _) | (with_reducible refine Kd.C_drewN ?_ _) | (with_reducible refine Kd.C_drew ?_))); (case side2 => exact HC179_1.out); (case side3 => repeat (first | exact (Kd.C_below HR180_1.out HB.out) | (with_reducible refine Kd.C_alloc ?_ _) | (with_reducible refine Kd.C_drewN ?_ _) | (with_reducible refine Kd.C_drew ?_))); (case side4 => exact HC180_1.out); rintro e w' ⟨rfl, ⟨nd, rfl⟩⟩; (try first | exact ⟨rfl, _, World.drewN_drewN _ _ _⟩ | exact ⟨rfl, _, Eq.trans (World.drewN_drewN _ _ _) (congrArg (World.drewN _) (Nat.add_assoc _ _ _))⟩))))
         go_ret
         exact ⟨by first | rfl | (simp [errW_none, errW_some] <;> rfl) | (simp [*, errW_none, errW_some] <;> rfl), by repeat (first | (with_reducible first | exact HB.out | apply below_alloc | apply pw_below_drewN | apply below_drew1 | refine below_set ?_ GE175.out | refine below_set ?_ GE176.out) | exact HB.out)⟩
       ·rw [if_neg c12] at H
        have c12b0 : (((rd_T35 l0_5 x5_1).f0).toList == ((rd_T35 l1_5 x5_1).f0).toList) = false := beq_eq_false_iff_ne.mpr c12
        have c12b1 : (((rd_T35 l0_5 x5_1).f0).toList != ((rd_T35 l1_5 x5_1).f0).toList) = true := bne_iff_ne.mpr c12
        obtain rfl := Option.some.inj H
        have hnb21 := NB175_176.out
        have hnc21 := NB176_175.out
        have hcz22_0 : wr.cell? ⟨gb175, 0, none⟩ = some (.bool a0_0) := (blk_cell BK175.out 0).trans rfl
        have hcz22_1 : wr.cell? ⟨gb175, 1, none⟩ = some (.bool a0_1) := (blk_cell BK175.out 1).trans rfl
        have hcz22_2 : wr.cell? ⟨gb175, 2, none⟩ = some (.slice A0_2 l0_2.length c0_2) := (blk_cell BK175.out 2).trans rfl
        have hcz22_3 : wr.cell? ⟨gb175, 3, none⟩ = some (.slice A0_3 l0_3.length c0_3) := (blk_cell BK175.out 3).trans rfl
        have hcz22_4 : wr.cell? ⟨gb175, 4, none⟩ = some (.slice A0_4 l0_4.length c0_4) := (blk_cell BK175.out 4).trans rfl
        have hcz22_5 : wr.cell? ⟨gb175, 5, none⟩ = some (.slice A0_5 l0_5.length c0_5) := (blk_cell BK175.out 5).trans rfl
        have hcz22_6 : wr.cell? ⟨gb175, 6, none⟩ = some (.bool a0_6) := (blk_cell BK175.out 6).trans rfl
        have hcz22_7 : wr.cell? ⟨gb175, 7, none⟩ = some (.bool a0_7) := (blk_cell BK175.out 7).trans rfl
        have hfz22_0 := blk_frozen BK175.out 0
        have hfz22_1 := blk_frozen BK175.out 1
        have hfz22_2 := blk_frozen BK175.out 2
        have hfz22_3 := blk_frozen BK175.out 3
        have hfz22_4 := blk_frozen BK175.out 4
        have hfz22_5 := blk_frozen BK175.out 5
        have hfz22_6 := blk_frozen BK175.out 6
        have hfz22_7 := blk_frozen BK175.out 7
        have p177 : 0 ≤ (x5_1 : Int) := of_decide_eq_true (by first | (with_reducible assumption) | assumption)
        have q177 : x5_1 < (l0_5.length : Int) := of_decide_eq_true (by first | (with_reducible assumption) | assumption)
        obtain ⟨ad177, A177_1, c177_1, e177, hx177_0, hx177_1, hl177_1, hi177_1⟩ := at_T35 HR0_5.out x5_1 p177 q177
        cases e177
        replace hx177_0 := (HB.out.cell (World.block_lt_of_cell? w _ hx177_0)).trans hx177_0
        replace hx177_1 := (HB.out.cell (World.block_lt_of_cell? w _ hx177_1)).trans hx177_1
        have HR177_1 := Aside0.mk hi177_1
        have HC177_1 := Aside0.mk hl177_1
        clear hi177_1 hl177_1
        replace p177 := eq_true p177
        replace q177 := eq_true q177
        have hcz23_0 : wr.cell? ⟨gb176, 0, none⟩ = some (.bool a1_0) := (blk_cell BK176.out 0).trans rfl
        have hcz23_1 : wr.cell? ⟨gb176, 1, none⟩ = some (.bool a1_1) := (blk_cell BK176.out 1).trans rfl
        have hcz23_2 : wr.cell? ⟨gb176, 2, none⟩ = some (.slice A1_2 l1_2.length c1_2) := (blk_cell BK176.out 2).trans rfl
        have hcz23_3 : wr.cell? ⟨gb176, 3, none⟩ = some (.slice A1_3 l1_3.length c1_3) := (blk_cell BK176.out 3).trans rfl
        have hcz23_4 : wr.cell? ⟨gb176, 4, none⟩ = some (.slice A1_4 l1_4.length c1_4) := (blk_cell BK176.out 4).trans rfl
        have hcz23_5 : wr.cell? ⟨gb176, 5, none⟩ = some (.slice A1_5 l1_5.length c1_5) := (blk_cell BK176.out 5).trans rfl
        have hcz23_6 : wr.cell? ⟨gb176, 6, none⟩ = some (.bool a1_6) := (blk_cell BK176.out 6).trans rfl
        have hcz23_7 : wr.cell? ⟨gb176, 7, none⟩ = some (.bool a1_7) := (blk_cell BK176.out 7).trans rfl
        have hfz23_0 := blk_frozen BK176.out 0
        have hfz23_1 := blk_frozen BK176.out 1
        have hfz23_2 := blk_frozen BK176.out 2
        have hfz23_3 := blk_frozen BK176.out 3
        have hfz23_4 := blk_frozen BK176.out 4
        have hfz23_5 := blk_frozen BK176.out 5
        have hfz23_6 := blk_frozen BK176.out 6
        have hfz23_7 := blk_frozen BK176.out 7
        have p178 : 0 ≤ (x5_1 : Int) := of_decide_eq_true (by first | (with_reducible assumption) | assumption)
        have q178 : x5_1 < (l1_5.length : Int) := of_decide_eq_true (by first | (with_reducible assumption) | assumption)
        obtain ⟨ad178, A178_1, c178_1, e178, hx178_0, hx178_1, hl178_1, hi178_1⟩ := at_T35 HR1_5.out x5_1 p178 q178
        cases e178
        replace hx178_0 := (HB.out.cell (World.block_lt_of_cell? w _ hx178_0)).trans hx178_0
        replace hx178_1 := (HB.out.cell (World.block_lt_of_cell? w _ hx178_1)).trans hx178_1
        have HR178_1 := Aside0.mk hi178_1
        have HC178_1 := Aside0.mk hl178_1
        clear hi178_1 hl178_1
        replace p178 := eq_true p178
        replace q178 := eq_true q178
        go_wp2
        repeat (go_quiet (fail); try go_wp2)
        go_ret
        exact ⟨by first | rfl | (simp [errW_none, errW_some] <;> rfl) | (simp [*, errW_none, errW_some] <;> rfl), by repeat (first | (with_reducible first | exact HB.out | apply below_alloc | apply pw_below_drewN | apply below_drew1 | refine below_set ?_ GE175.out | refine below_set ?_ GE176.out) | exact HB.out)⟩
      ·rw [if_neg c11] at H
       exact absurd H (by simp)
     ·rw [if_neg c10] at H
      exact absurd H (by simp)
    ·rw [if_neg c9] at H
     have c9b0 : decide (x5_1 < (l0_5.length : Int)) = false := decide_eq_false c9
     clear c9
     by_cases c24 : (a0_0 == a1_0) = true
     ·rw [if_pos c24] at H
      have c24b0 : (a0_0 == a1_0) = true := c24
      (try (have c24b1 : decide (a0_0 = a1_0) = true := by simpa using c24))
      (try (have c24b2 : (a0_0 == a1_0) = true := by simpa using c24))
      clear c24
      by_cases c25 : (a0_1 == a1_1) = true
      ·rw [if_pos c25] at H
       have c25b0 : (a0_1 == a1_1) = true := c25
       (try (have c25b1 : decide (a0_1 = a1_1) = true := by simpa using c25))
       (try (have c25b2 : (a0_1 == a1_1) = true := by simpa using c25))
       clear c25
       by_cases c26 : (a0_6 == a1_6) = true
       ·rw [if_pos c26] at H
        have c26b0 : (a0_6 == a1_6) = true := c26
        (try (have c26b1 : decide (a0_6 = a1_6) = true := by simpa using c26))
        (try (have c26b2 : (a0_6 == a1_6) = true := by simpa using c26))
        clear c26
        by_cases c27 : (a0_7 == a1_7) = true
        ·rw [if_pos c27] at H
         have c27b0 : (a0_7 == a1_7) = true := c27
         (try (have c27b1 : decide (a0_7 = a1_7) = true := by simpa using c27))
         (try (have c27b2 : (a0_7 == a1_7) = true := by simpa using c27))
         clear c27
         replace H := Option.bind_eq_some_iff.mp H
         obtain ⟨t182, A280, H⟩ := H
         have A28 := Aside0.mk A280
         clear A280
         by_cases c29 : t182 = true
         ·subst c29
          replace H : ((boltingref02_Equal.f k1 l0_3 l1_3).bind fun t183 => (if t183 = true then ((boltingref02_Equal.f k1 l0_4 l1_4).bind fun t184 => (some t184)) else (some false))) = some r := by rw [if_pos rfl] at H; exact H
          replace H := Option.bind_eq_some_iff.mp H
          obtain ⟨t183, A300, H⟩ := H
          have A30 := Aside0.mk A300
          clear A300
          by_cases c31 : t183 = true
          ·subst c31
           replace H : ((boltingref02_Equal.f k1 l0_4 l1_4).bind fun t184 => (some t184)) = some r := by rw [if_pos rfl] at H; exact H
           replace H := Option.bind_eq_some_iff.mp H
           obtain ⟨t184, A320, H⟩ := H
           replace H : (some t184) = some r := H
           have A32 := Aside0.mk A320
           clear A320
           obtain rfl := Option.some.inj H
           have hnb33 := NB175_176.out
           have hnc33 := NB176_175.out
           have hcz34_0 : wr.cell? ⟨gb175, 0, none⟩ = some (.bool a0_0) := (blk_cell BK175.out 0).trans rfl
           have hcz34_1 : wr.cell? ⟨gb175, 1, none⟩ = some (.bool a0_1) := (blk_cell BK175.out 1).trans rfl
           have hcz34_2 : wr.cell? ⟨gb175, 2, none⟩ = some (.slice A0_2 l0_2.length c0_2) := (blk_cell BK175.out 2).trans rfl
           have hcz34_3 : wr.cell? ⟨gb175, 3, none⟩ = some (.slice A0_3 l0_3.length c0_3) := (blk_cell BK175.out 3).trans rfl
           have hcz34_4 : wr.cell? ⟨gb175, 4, none⟩ = some (.slice A0_4 l0_4.length c0_4) := (blk_cell BK175.out 4).trans rfl
           have hcz34_5 : wr.cell? ⟨gb175, 5, none⟩ = some (.slice A0_5 l0_5.length c0_5) := (blk_cell BK175.out 5).trans rfl
           have hcz34_6 : wr.cell? ⟨gb175, 6, none⟩ = some (.bool a0_6) := (blk_cell BK175.out 6).trans rfl
           have hcz34_7 : wr.cell? ⟨gb175, 7, none⟩ = some (.bool a0_7) := (blk_cell BK175.out 7).trans rfl
           have hfz34_0 := blk_frozen BK175.out 0
           have hfz34_1 := blk_frozen BK175.out 1
           have hfz34_2 := blk_frozen BK175.out 2
           have hfz34_3 := blk_frozen BK175.out 3
           have hfz34_4 := blk_frozen BK175.out 4
           have hfz34_5 := blk_frozen BK175.out 5
           have hfz34_6 := blk_frozen BK175.out 6
           have hfz34_7 := blk_frozen BK175.out 7
           have hcz35_0 : wr.cell? ⟨gb176, 0, none⟩ = some (.bool a1_0) := (blk_cell BK176.out 0).trans rfl
           have hcz35_1 : wr.cell? ⟨gb176, 1, none⟩ = some (.bool a1_1) := (blk_cell BK176.out 1).trans rfl
           have hcz35_2 : wr.cell? ⟨gb176, 2, none⟩ = some (.slice A1_2 l1_2.length c1_2) := (blk_cell BK176.out 2).trans rfl
           have hcz35_3 : wr.cell? ⟨gb176, 3, none⟩ = some (.slice A1_3 l1_3.length c1_3) := (blk_cell BK176.out 3).trans rfl
           have hcz35_4 : wr.cell? ⟨gb176, 4, none⟩ = some (.slice A1_4 l1_4.length c1_4) := (blk_cell BK176.out 4).trans rfl
           have hcz35_5 : wr.cell? ⟨gb176, 5, none⟩ = some (.slice A1_5 l1_5.length c1_5) := (blk_cell BK176.out 5).trans rfl
           have hcz35_6 : wr.cell? ⟨gb176, 6, none⟩ = some (.bool a1_6) := (blk_cell BK176.out 6).trans rfl
           have hcz35_7 : wr.cell? ⟨gb176, 7, none⟩ = some (.bool a1_7) := (blk_cell BK176.out 7).trans rfl
           have hfz35_0 := blk_frozen BK176.out 0
           have hfz35_1 := blk_frozen BK176.out 1
           have hfz35_2 := blk_frozen BK176.out 2
           have hfz35_3 := blk_frozen BK176.out 3
           have hfz35_4 := blk_frozen BK176.out 4
           have hfz35_5 := blk_frozen BK176.out 5
           have hfz35_6 := blk_frozen BK176.out 6
           have hfz35_7 := blk_frozen BK176.out 7
           go_wp2_with (first | (go_at_call 56; (with_reducible refine (boltingref02_Equal.calls k1 _ _ l0_2 _ _ l1_2 true _ ?side1 ?side2 ?side3 ?side4 A28.out).mono ?_); (case side1 => repeat (first | exact (Kd.C_below HR0_2.out HB.out) | (with_reducible refine Kd.C_alloc ?_ _) | (with_reducible refine Kd.C_drewN ?_ _) | (with_reducible refine Kd.C_drew ?_))); (case side2 => exact HC0_2.out); (case side3 => repeat (first | exact (Kd.C_below HR1_2.out HB.out) | (with_reducible refine Kd.C_alloc ?_ _) | (with_reducible refine Kd.C_drewN ?_ _) | (with_reducible refine Kd.C_drew ?_))); (case side4 => exact HC1_2.out); rintro e w' ⟨rfl, ⟨nd, rfl⟩⟩; (try first | exact ⟨rfl, _, World.drewN_drewN _ _ _⟩ | exact ⟨rfl, _, Eq.trans (World.drewN_drewN _ _ _) (congrArg (World.drewN _) (Nat.add_assoc _ _ _))⟩)) | (go_at_call 56; (with_reducible refine (boltingref02_Equal.calls k1 _ _ l0_3 _ _ l1_3 true _ ?side1 ?side2 ?side3 ?side4 A30.out).mono ?_); (case side1 => repeat (first | exact (Kd.C_below HR0_3.out (by repeat (first | (with_reducible first | exact HB.out | apply below_alloc | apply pw_below_drewN | apply below_drew1 | refine below_set ?_ GE175.out | refine below_set ?_ GE176.out) | exact HB.out))) | (with_reducible refine Kd.C_alloc ?_ _) | (with_reducible refine Kd.C_drewN ?_ _) | (with_reducible refine Kd.C_drew ?_))); (case side2 => exact HC0_3.out); (case side3 => repeat (first | exact (Kd.C_below HR1_3.out (by repeat (first | (with_reducible first | exact HB.out | apply below_alloc | apply pw_below_drewN | apply below_drew1 | refine below_set ?_ GE175.out | refine below_set ?_ GE176.out) | exact HB.out))) | (with_reducible refine Kd.C_alloc ?_ _) | (with_reducible refine Kd.C_drewN ?_ _) | (with_reducible refine Kd.C_drew ?_))); (case side4 => exact HC1_3.out); rintro e w' ⟨rfl, ⟨nd, rfl⟩⟩; (try first | exact ⟨rfl, _, World.drewN_drewN _ _ _⟩ | exact ⟨rfl, _, Eq.trans (World.drewN_drewN _ _ _) (congrArg (World.drewN _) (Nat.add_assoc _ _ _))⟩)) | (go_at_call 56; (with_reducible refine (boltingref02_Equal.calls k1 _ _ l0_4 _ _ l1_4 t184 _ ?side1 ?side2 ?side3 ?side4 A32.out).mono ?_); (case side1 => repeat (first | exact (Kd.C_below HR0_4.out (by repeat (first | (with_reducible first | exact HB.out | apply below_alloc | apply pw_below_drewN | apply below_drew1 | refine below_set ?_ GE175.out | refine below_set ?_ GE176.out) | exact HB.out))) | (with_reducible refine Kd.C_alloc ?_ _) | (with_reducible refine Kd.C_drewN ?_ _) | (with_reducible refine Kd.C_drew ?_))); (case side2 => exact HC0_4.out); (case side3 => repeat (first | exact (Kd.C_below HR1_4.out (by repeat (first | (with_reducible first | exact HB.out | apply below_alloc | apply pw_below_drewN | apply below_drew1 | refine below_set ?_ GE175.out | refine below_set ?_ GE176.out) | exact HB.out))) | (with_reducible refine Kd.C_alloc ?_ _) | (with_reducible refine Kd.C_drewN ?_ _) | (with_reducible refine Kd.C_drew ?_))); (case side4 => exact HC1_4.out); rintro e w' ⟨rfl, ⟨nd, rfl⟩⟩; (try first | exact ⟨rfl, _, World.drewN_drewN _ _ _⟩ | exact ⟨rfl, _, Eq.trans (World.drewN_drewN _ _ _) (congrArg (World.drewN _) (Nat.add_assoc _ _ _))⟩)))
           repeat (go_quiet (first | (go_at_call 56; (with_reducible refine (boltingref02_Equal.calls k1 _ _ l0_2 _ _ l1_2 true _ ?side1 ?side2 ?side3 ?side4 A28.out).mono ?_); (case side1 => repeat (first | exact (Kd.C_below HR0_2.out HB.out) | (with_reducible refine Kd.C_alloc ?_ _) | (with_reducible refine Kd.C_drewN ?_ _) | (with_reducible refine Kd.C_drew ?_))); (case side2 => exact HC0_2.out); (case side3 => repeat (first | exact (Kd.C_below HR1_2.out HB.out) | (with_reducible refine Kd.C_alloc ?_ _) | (with_reducible refine Kd.C_drewN ?_ _) | (with_reducible refine Kd.C_drew ?_))); (case side4 => exact HC1_2.out); rintro e w' ⟨rfl, ⟨nd, rfl⟩⟩; (try first | exact ⟨rfl, _, World.drewN_drewN _ _ _⟩ | exact ⟨rfl, _, Eq.trans (World.drewN_drewN _ _ _) (congrArg (World.drewN _) (Nat.add_assoc _ _ _))⟩)) | (go_at_call 56; (with_reducible refine (boltingref02_Equal.calls k1 _ _ l0_3 _ _ l1_3 true _ ?side1 ?side2 ?side3 ?side4 A30.out).mono ?_); (case side1 => repeat (first | exact (Kd.C_below HR0_3.out (by repeat (first | (with_reducible first | exact HB.out | apply below_alloc | apply pw_below_drewN | apply below_drew1 | refine below_set ?_ GE175.out | refine below_set ?_ GE176.out) | exact HB.out))) | (with_reducible refine Kd.C_alloc ?_ _) | (with_reducible refine Kd.C_drewN ?_ _) | (with_reducible refine Kd.C_drew ?_))); (case side2 => exact HC0_3.out); (case side3 => repeat (first | exact (Kd.C_below HR1_3.out (by repeat (first | (with_reducible first | exact HB.out | apply below_alloc | apply pw_below_drewN | apply below_drew1 | refine below_set ?_ GE175.out | refine below_set ?_ GE176.out) | exact HB.out))) | (with_reducible refine Kd.C_alloc ?_ _) | (with_reducible refine Kd.C_drewN ?_ _) | (with_reducible refine Kd.C_drew ?_))); (case side4 => exact HC1_3.out); rintro e w' ⟨rfl, ⟨nd, rfl⟩⟩; (try first | exact ⟨rfl, _, World.drewN_drewN _ _ _⟩ | exact ⟨rfl, _, Eq.trans (World.drewN_drewN _ _ _) (congrArg (World.drewN _) (Nat.add_assoc _ _ _))⟩)) | (go_at_call 56; (with_reducible refine (boltingref02_Equal.calls k1 _ _ l0_4 _ _ l1_4 t184 _ ?side1 ?side2 ?side3 ?side4 A32.out).mono ?_); (case side1 => repeat (first | exact (Kd.C_below HR0_4.out (by repeat (first | (with_reducible first | exact HB.out | apply below_alloc | apply pw_below_drewN | apply below_drew1 | refine below_set ?_ GE175.out | refine below_set ?_ GE176.out) | exact HB.out))) | (with_reducible refine Kd.C_alloc ?_ _) | (with_reducible refine Kd.C_drewN ?_ _) | (with_reducible refine Kd.C_drew ?_))); (case side2 => exact HC0_4.out); (case side3 => repeat (first | exact (Kd.C_below HR1_4.out (by repeat (first | (with_reducible first | exact HB.out | apply below_alloc | apply pw_below_drewN | apply below_drew1 | refine below_set ?_ GE175.out | refine below_set ?_ GE176.out) | exact HB.out))) | (with_reducible refine Kd.C_alloc ?_ _) | (with_reducible refine Kd.C_drewN ?_ _) | (with_reducible refine Kd.C_drew ?_))); (case side4 => exact HC1_4.out); rintro e w' ⟨rfl, ⟨nd, rfl⟩⟩; (try first | exact ⟨rfl, _, World.drewN_drewN _ _ _⟩ | exact ⟨rfl, _, Eq.trans (World.drewN_drewN _ _ _) (congrArg (World.drewN _) (Nat.add_assoc _ _ _))⟩))); try go_wp2_with (first | (go_at_call 56; (with_reducible refine (boltingref02_Equal.calls k1 _ _ l0_2 _ _ l1_2 true _ ?side1 ?side2 ?side3 ?side4 A28.out).mono ?_); (case side1 => repeat (first | exact (Kd.C_below HR0_2.out HB.out) | (with_reducible refine Kd.C_alloc ?_ _) | (with_reducible refine Kd.C_drewN ?_ _) | (with_reducible refine Kd.C_drew ?_))); (case side2 => exact HC0_2.out); (case side3 => repeat (first | exact (Kd.C_below HR1_2.out HB.out) | (with_reducible refine Kd.C_alloc ?_ _) | (with_reducible refine Kd.C_drewN ?_ _) | (with_reducible refine Kd.C_drew ?_))); (case side4 => exact HC1_2.out); rintro e w' ⟨rfl, ⟨nd, rfl⟩⟩; (try first | exact ⟨rfl, _, World.drewN_drewN _ _ _⟩ | exact ⟨rfl, _, Eq.trans (World.drewN_drewN _ _ _) (congrArg (World.drewN _) (Nat.add_assoc _ _ _))⟩)) | (go_at_call 56; (with_reducible refine (boltingref02_Equal.calls k1 _ _ l0_3 _ _ l1_3 true _ ?side1 ?side2 ?side3 ?side4 A30.out).mono ?_); (case side1 => repeat (first | exact (Kd.C_below HR0_3.out (by repeat (first | (with_reducible first | exact HB.out | apply below_alloc | apply pw_below_drewN | apply below_drew1 | refine below_set ?_ GE175.out | refine below_set ?_ GE176.out) | exact HB.out))) | (with_reducible refine Kd.C_alloc ?_ _) | (with_reducible refine Kd.C_drewN ?_ _) | (with_reducible refine Kd.C_drew ?_))); (case side2 => exact HC0_3.out); (case side3 => repeat (first | exact (Kd.C_below HR1_3.out (by repeat (first | (with_reducible first | exact HB.out | apply below_alloc | apply pw_below_drewN | apply below_drew1 | refine below_set ?_ GE175.out | refine below_set ?_ GE176.out) | exact HB.out))) | (with_reducible refine Kd.C_alloc ?_ _) | (with_reducible refine Kd.C_drewN ?_ _) | (with_reducible refine Kd.C_drew ?_))); (case side4 => exact HC1_3.out); rintro e w' ⟨rfl, ⟨nd, rfl⟩⟩; (try first | exact ⟨rfl, _, World.drewN_drewN _ _ _⟩ | exact ⟨rfl, _, Eq.trans (World.drewN_drewN _ _ _) (congrArg (World.drewN _) (Nat.add_assoc _ _ _))⟩)) | (go_at_call 56; (with_reducible refine (boltingref02_Equal.calls k1 _ _ l0_4 _ _ l1_4 t184 _ ?side1 ?side2 ?side3 ?side4 A32.out).mono ?_); (case side1 => repeat (first | exact (Kd.C_below HR0_4.out (by repeat (first | (with_reducible first | exact HB.out | apply below_alloc | apply pw_below_drewN | apply below_drew1 | refine below_set ?_ GE175.out | refine below_set ?_ GE176.out) | exact HB.out))) | (with_reducible refine Kd.C_alloc ?_ _) | (with_reducible refine Kd.C_drewN ?_ _) | (with_reducible refine Kd.C_drew ?_))); (case side2 => exact HC0_4.out); (case side3 => repeat (first | exact (Kd.C_below HR1_4.out (by repeat (first | (with_reducible first | exact HB.out | apply below_alloc | apply pw_below_drewN | apply below_drew1 | refine below_set ?_ GE175.out | refine below_set ?_ GE176.out) | exact HB.out))) | (with_reducible refine Kd.C_alloc ?_ _) | (with_reducible refine Kd.C_drewN ?_ _) | (with_reducible refine Kd.C_drew ?_))); (case side4 => exact HC1_4.out); rintro e w' ⟨rfl, ⟨nd, rfl⟩⟩; (try first | exact ⟨rfl, _, World.drewN_drewN _ _ _⟩ | exact ⟨rfl, _, Eq.trans (World.drewN_drewN _ _ _) (congrArg (World.drewN _) (Nat.add_assoc _ _ _))⟩))))
           go_ret
           exact ⟨by first | rfl | (simp [errW_none, errW_some] <;> rfl) | (simp [*, errW_none, errW_some] <;> rfl), by repeat (first | (with_reducible first | exact HB.out | apply below_alloc | apply pw_below_drewN | apply below_drew1 | refine below_set ?_ GE175.out | refine below_set ?_ GE176.out) | exact HB.out)⟩
          ·replace c31 := Bool.eq_false_iff.mpr c31
           subst c31
           replace H : (some false) = some r := by rw [if_neg (show ¬ (false = true) by decide)] at H; exact H
           obtain rfl := Option.some.inj H
           have hnb36 := NB175_176.out
           have hnc36 := NB176_175.out
           have hcz37_0 : wr.cell? ⟨gb175, 0, none⟩ = some (.bool a0_0) := (blk_cell BK175.out 0).trans rfl
           have hcz37_1 : wr.cell? ⟨gb175, 1, none⟩ = some (.bool a0_1) := (blk_cell BK175.out 1).trans rfl
           have hcz37_2 : wr.cell? ⟨gb175, 2, none⟩ = some (.slice A0_2 l0_2.length c0_2) := (blk_cell BK175.out 2).trans rfl
           have hcz37_3 : wr.cell? ⟨gb175, 3, none⟩ = some (.slice A0_3 l0_3.length c0_3) := (blk_cell BK175.out 3).trans rfl
           have hcz37_4 : wr.cell? ⟨gb175, 4, none⟩ = some (.slice A0_4 l0_4.length c0_4) := (blk_cell BK175.out 4).trans rfl
           have hcz37_5 : wr.cell? ⟨gb175, 5, none⟩ = some (.slice A0_5 l0_5.length c0_5) := (blk_cell BK175.out 5).trans rfl
           have hcz37_6 : wr.cell? ⟨gb175, 6, none⟩ = some (.bool a0_6) := (blk_cell BK175.out 6).trans rfl
           have hcz37_7 : wr.cell? ⟨gb175, 7, none⟩ = some (.bool a0_7) := (blk_cell BK175.out 7).trans rfl
           have hfz37_0 := blk_frozen BK175.out 0
           have hfz37_1 := blk_frozen BK175.out 1
           have hfz37_2 := blk_frozen BK175.out 2
           have hfz37_3 := blk_frozen BK175.out 3
           have hfz37_4 := blk_frozen BK175.out 4
           have hfz37_5 := blk_frozen BK175.out 5
           have hfz37_6 := blk_frozen BK175.out 6
           have hfz37_7 := blk_frozen BK175.out 7
           have hcz38_0 : wr.cell? ⟨gb176, 0, none⟩ = some (.bool a1_0) := (blk_cell BK176.out 0).trans rfl
           have hcz38_1 : wr.cell? ⟨gb176, 1, none⟩ = some (.bool a1_1) := (blk_cell BK176.out 1).trans rfl
           have hcz38_2 : wr.cell? ⟨gb176, 2, none⟩ = some (.slice A1_2 l1_2.length c1_2) := (blk_cell BK176.out 2).trans rfl
           have hcz38_3 : wr.cell? ⟨gb176, 3, none⟩ = some (.slice A1_3 l1_3.length c1_3) := (blk_cell BK176.out 3).trans rfl
           have hcz38_4 : wr.cell? ⟨gb176, 4, none⟩ = some (.slice A1_4 l1_4.length c1_4) := (blk_cell BK176.out 4).trans rfl
           have hcz38_5 : wr.cell? ⟨gb176, 5, none⟩ = some (.slice A1_5 l1_5.length c1_5) := (blk_cell BK176.out 5).trans rfl
           have hcz38_6 : wr.cell? ⟨gb176, 6, none⟩ = some (.bool a1_6) := (blk_cell BK176.out 6).trans rfl
           have hcz38_7 : wr.cell? ⟨gb176, 7, none⟩ = some (.bool a1_7) := (blk_cell BK176.out 7).trans rfl
           have hfz38_0 := blk_frozen BK176.out 0
           have hfz38_1 := blk_frozen BK176.out 1
           have hfz38_2 := blk_frozen BK176.out 2
           have hfz38_3 := blk_frozen BK176.out 3
           have hfz38_4 := blk_frozen BK176.out 4
           have hfz38_5 := blk_frozen BK176.out 5
           have hfz38_6 := blk_frozen BK176.out 6
           have hfz38_7 := blk_frozen BK176.out 7
           go_wp2_with (first | (go_at_call 56; (with_reducible refine (boltingref02_Equal.calls k1 _ _ l0_2 _ _ l1_2 true _ ?side1 ?side2 ?side3 ?side4 A28.out).mono ?_); (case side1 => repeat (first | exact (Kd.C_below HR0_2.out HB.out) | (with_reducible refine Kd.C_alloc ?_ _) | (with_reducible refine Kd.C_drewN ?_ _) | (with_reducible refine Kd.C_drew ?_))); (case side2 => exact HC0_2.out); (case side3 => repeat (first | exact (Kd.C_below HR1_2.out HB.out) | (with_reducible refine Kd.C_alloc ?_ _) | (with_reducible refine Kd.C_drewN ?_ _) | (with_reducible refine Kd.C_drew ?_))); (case side4 => exact HC1_2.out); rintro e w' ⟨rfl, ⟨nd, rfl⟩⟩; (try first | exact ⟨rfl, _, World.drewN_drewN _ _ _⟩ | exact ⟨rfl, _, Eq.trans (World.drewN_drewN _ _ _) (congrArg (World.drewN _) (Nat.add_assoc _ _ _))⟩)) | (go_at_call 56; (with_reducible refine (boltingref02_Equal.calls k1 _ _ l0_3 _ _ l1_3 false _ ?side1 ?side2 ?side3 ?side4 A30.out).mono ?_); (case side1 => repeat (first | exact (Kd.C_below HR0_3.out (by repeat (first | (with_reducible first | exact HB.out | apply below_alloc | apply pw_below_drewN | apply below_drew1 | refine below_set ?_ GE175.out | refine below_set ?_ GE176.out) | exact HB.out))) | (with_reducible refine Kd.C_alloc ?_ _) | (with_reducible refine Kd.C_drewN ?_ _) | (with_reducible refine Kd.C_drew ?_))); (case side2 => exact HC0_3.out); (case side3 => repeat (first | exact (Kd.C_below HR1_3.out (by repeat (first | (with_reducible first | exact HB.out | apply below_alloc | apply pw_below_drewN | apply below_drew1 | refine below_set ?_ GE175.out | refine below_set ?_ GE176.out) | exact HB.out))) | (with_reducible refine Kd.C_alloc ?_ _) | (with_reducible refine Kd.C_drewN ?_ _) | (with_reducible refine Kd.C_drew ?_))); (case side4 => exact HC1_3.out); rintro e w' ⟨rfl, ⟨nd, rfl⟩⟩; (try first | exact ⟨rfl, _, World.drewN_drewN _ _ _⟩ | exact ⟨rfl, _, Eq.trans (World.drewN_drewN _ _ _) (congrArg (World.drewN _) (Nat.add_assoc _ _ _))⟩)))
           repeat (go_quiet (first | (go_at_call 56; (with_reducible refine (boltingref02_Equal.calls k1 _ _ l0_2 _ _ l1_2 true _ ?side1 ?side2 ?side3 ?side4 A28.out).mono ?_); (case side1 => repeat (first | exact (Kd.C_below HR0_2.out HB.out) | (with_reducible refine Kd.C_alloc ?_ _) | (with_reducible refine Kd.C_drewN ?_ _) | (with_reducible refine Kd.C_drew ?_))); (case side2 => exact HC0_2.out); (case side3 => repeat (first | exact (Kd.C_below HR1_2.out HB.out) | (with_reducible refine Kd.C_alloc ?_ _) | (with_reducible refine Kd.C_drewN ?_ _) | (with_reducible refine Kd.C_drew ?_))); (case side4 => exact HC1_2.out); rintro e w' ⟨rfl, ⟨nd, rfl⟩⟩; (try first | exact ⟨rfl, _, World.drewN_drewN _ _ _⟩ | exact ⟨rfl, _, Eq.trans (World.drewN_drewN _ _ _) (congrArg (World.drewN _) (Nat.add_assoc _ _ _))⟩)) | (go_at_call 56; (with_reducible refine (boltingref02_Equal.calls k1 _ _ l0_3 _ _ l1_3 false _ ?side1 ?side2 ?side3 ?side4 A30.out).mono ?_); (case side1 => repeat (first | exact (Kd.C_below HR0_3.out (by repeat (first | (with_reducible first | exact HB.out | apply below_alloc | apply pw_below_drewN | apply below_drew1 | refine below_set ?_ GE175.out | refine below_set ?_ GE176.out) | exact HB.out))) | (with_reducible refine Kd.C_alloc ?_ _) | (with_reducible refine Kd.C_drewN ?_ _) | (with_reducible refine Kd.C_drew ?_))); (case side2 => exact HC0_3.out); (case side3 => repeat (first | exact (Kd.C_below HR1_3.out (by repeat (first | (with_reducible first | exact HB.out | apply below_alloc | apply pw_below_drewN | apply below_drew1 | refine below_set ?_ GE175.out | refine below_set ?_ GE176.out) | exact HB.out))) | (with_reducible refine Kd.C_alloc ?_ _) | (with_reducible refine Kd.C_drewN ?_ _) | (with_reducible refine Kd.C_drew ?_))); (case side4 => exact HC1_3.out); rintro e w' ⟨rfl, ⟨nd, rfl⟩⟩; (try first | exact ⟨rfl, _, World.drewN_drewN _ _ _⟩ | exact ⟨rfl, _, Eq.trans (World.drewN_drewN _ _ _) (congrArg (World.drewN _) (Nat.add_assoc _ _ _))⟩))); try go_wp2_with (first | (go_at_call 56; (with_reducible refine (boltingref02_Equal.calls k1 _ _ l0_2 _ _ l1_2 true _ ?side1 ?side2 ?side3 ?side4 A28.out).mono ?_); (case side1 => repeat (first | exact (Kd.C_below HR0_2.out HB.out) | (with_reducible refine Kd.C_alloc ?_ _) | (with_reducible refine Kd.C_drewN ?_ _) | (with_reducible refine Kd.C_drew ?_))); (case side2 => exact HC0_2.out); (case side3 => repeat (first | exact (Kd.C_below HR1_2.out HB.out) | (with_reducible refine Kd.C_alloc ?_ _) | (with_reducible refine Kd.C_drewN ?_ _) | (with_reducible refine Kd.C_drew ?_))); (case side4 => exact HC1_2.out); rintro e w' ⟨rfl, ⟨nd, rfl⟩⟩; (try first | exact ⟨rfl, _, World.drewN_drewN _ _ _⟩ | exact ⟨rfl, _, Eq.trans (World.drewN_drewN _ _ _) (congrArg (World.drewN _) (Nat.add_assoc _ _ _))⟩)) | (go_at_call 56; (with_reducible refine (boltingref02_Equal.calls k1 _ _ l0_3 _ _ l1_3 false _ ?side1 ?side2 ?side3 ?side4 A30.out).mono ?_); (case side1 => repeat (first | exact (Kd.C_below HR0_3.out (by repeat (first | (with_reducible first | exact HB.out | apply below_alloc | apply pw_below_drewN | apply below_drew1 | refine below_set ?_ GE175.out | refine below_set ?_ GE176.out) | exact HB.out))) | (with_reducible refine Kd.C_alloc ?_ _) | (with_reducible refine Kd.C_drewN ?_ _) | (with_reducible refine Kd.C_drew ?_))); (case side2 => exact HC0_3.out); (case side3 => repeat (first | exact (Kd.C_below HR1_3.out (by repeat (first | (with_reducible first | exact HB.out | apply below_alloc | apply pw_below_drewN | apply below_drew1 | refine below_set ?_ GE175.out | refine below_set ?_ GE176.out) | exact HB.out))) | (with_reducible refine Kd.C_alloc ?_ _) | (with_reducible refine Kd.C_drewN ?_ _) | (with_reducible refine Kd.C_drew ?_))); (case side4 => exact HC1_3.out); rintro e w' ⟨rfl, ⟨nd, rfl⟩⟩; (try first | exact ⟨rfl, _, World.drewN_drewN _ _ _⟩ | exact ⟨rfl, _, Eq.trans (World.drewN_drewN _ _ _) (congrArg (World.drewN _) (Nat.add_assoc _ _ _))⟩))))
           go_ret
           exact ⟨by first | rfl | (simp [errW_none, errW_some] <;> rfl) | (simp [*, errW_none, errW_some] <;> rfl), by repeat (first | (with_reducible first | exact HB.out | apply below_alloc | apply pw_below_drewN | apply below_drew1 | refine below_set ?_ GE175.out | refine below_set ?_ GE176.out) | exact HB.out)⟩
         ·replace c29 := Bool.eq_false_iff.mpr c29
          subst c29
          replace H : (some false) = some r := by rw [if_neg (show ¬ (false = true) by decide)] at H; exact H
          obtain rfl := Option.some.inj H
          have hnb39 := NB175_176.out
          have hnc39 := NB176_175.out
          have hcz40_0 : wr.cell? ⟨gb175, 0, none⟩ = some (.bool a0_0) := (blk_cell BK175.out 0).trans rfl
          have hcz40_1 : wr.cell? ⟨gb175, 1, none⟩ = some (.bool a0_1) := (blk_cell BK175.out 1).trans rfl
          have hcz40_2 : wr.cell? ⟨gb175, 2, none⟩ = some (.slice A0_2 l0_2.length c0_2) := (blk_cell BK175.out 2).trans rfl
          have hcz40_3 : wr.cell? ⟨gb175, 3, none⟩ = some (.slice A0_3 l0_3.length c0_3) := (blk_cell BK175.out 3).trans rfl
          have hcz40_4 : wr.cell? ⟨gb175, 4, none⟩ = some (.slice A0_4 l0_4.length c0_4) := (blk_cell BK175.out 4).trans rfl
          have hcz40_5 : wr.cell? ⟨gb175, 5, none⟩ = some (.slice A0_5 l0_5.length c0_5) := (blk_cell BK175.out 5).trans rfl
          have hcz40_6 : wr.cell? ⟨gb175, 6, none⟩ = some (.bool a0_6) := (blk_cell BK175.out 6).trans rfl
          have hcz40_7 : wr.cell? ⟨gb175, 7, none⟩ = some (.bool a0_7) := (blk_cell BK175.out 7).trans rfl
          have hfz40_0 := blk_frozen BK175.out 0
          have hfz40_1 := blk_frozen BK175.out 1
          have hfz40_2 := blk_frozen BK175.out 2
          have hfz40_3 := blk_frozen BK175.out 3
          have hfz40_4 := blk_frozen BK175.out 4
          have hfz40_5 := blk_frozen BK175.out 5
          have hfz40_6 := blk_frozen BK175.out 6
          have hfz40_7 := blk_frozen BK175.out 7
          have hcz41_0 : wr.cell? ⟨gb176, 0, none⟩ = some (.bool a1_0) := (blk_cell BK176.out 0).trans rfl
          have hcz41_1 : wr.cell? ⟨gb176, 1, none⟩ = some (.bool a1_1) := (blk_cell BK176.out 1).trans rfl
          have hcz41_2 : wr.cell? ⟨gb176, 2, none⟩ = some (.slice A1_2 l1_2.length c1_2) := (blk_cell BK176.out 2).trans rfl
          have hcz41_3 : wr.cell? ⟨gb176, 3, none⟩ = some (.slice A1_3 l1_3.length c1_3) := (blk_cell BK176.out 3).trans rfl
          have hcz41_4 : wr.cell? ⟨gb176, 4, none⟩ = some (.slice A1_4 l1_4.length c1_4) := (blk_cell BK176.out 4).trans rfl
          have hcz41_5 : wr.cell? ⟨gb176, 5, none⟩ = some (.slice A1_5 l1_5.length c1_5) := (blk_cell BK176.out 5).trans rfl
          have hcz41_6 : wr.cell? ⟨gb176, 6, none⟩ = some (.bool a1_6) := (blk_cell BK176.out 6).trans rfl
          have hcz41_7 : wr.cell? ⟨gb176, 7, none⟩ = some (.bool a1_7) := (blk_cell BK176.out 7).trans rfl
          have hfz41_0 := blk_frozen BK176.out 0
          have hfz41_1 := blk_frozen BK176.out 1
          have hfz41_2 := blk_frozen BK176.out 2
          have hfz41_3 := blk_frozen BK176.out 3
          have hfz41_4 := blk_frozen BK176.out 4
          have hfz41_5 := blk_frozen BK176.out 5
          have hfz41_6 := blk_frozen BK176.out 6
          have hfz41_7 := blk_frozen BK176.out 7
          go_wp2_with (first | (go_at_call 56; (with_reducible refine (boltingref02_Equal.calls k1 _ _ l0_2 _ _ l1_2 false _ ?side1 ?side2 ?side3 ?side4 A28.out).mono ?_); (case side1 => repeat (first | exact (Kd.C_below HR0_2.out HB.out) | (with_reducible refine Kd.C_alloc ?_ _) | (with_reducible refine Kd.C_drewN ?_ _) | (with_reducible refine Kd.C_drew ?_))); (case side2 => exact HC0_2.out); (case side3 => repeat (first | exact (Kd.C_below HR1_2.out HB.out) | (with_reducible refine Kd.C_alloc ?_ _) | (with_reducible refine Kd.C_drewN ?_ _) | (with_reducible refine Kd.C_drew ?_))); (case side4 => exact HC1_2.out); rintro e w' ⟨rfl, ⟨nd, rfl⟩⟩; (try first | exact ⟨rfl, _, World.drewN_drewN _ _ _⟩ | exact ⟨rfl, _, Eq.trans (World.drewN_drewN _ _ _) (congrArg (World.drewN _) (Nat.add_assoc _ _ _))⟩)))
          repeat (go_quiet (first | (go_at_call 56; (with_reducible refine (boltingref02_Equal.calls k1 _ _ l0_2 _ _ l1_2 false _ ?side1 ?side2 ?side3 ?side4 A28.out).mono ?_); (case side1 => repeat (first | exact (Kd.C_below HR0_2.out HB.out) | (with_reducible refine Kd.C_alloc ?_ _) | (with_reducible refine Kd.C_drewN ?_ _) | (with_reducible refine Kd.C_drew ?_))); (case side2 => exact HC0_2.out); (case side3 => repeat (first | exact (Kd.C_below HR1_2.out HB.out) | (with_reducible refine Kd.C_alloc ?_ _) | (with_reducible refine Kd.C_drewN ?_ _) | (with_reducible refine Kd.C_drew ?_))); (case side4 => exact HC1_2.out); rintro e w' ⟨rfl, ⟨nd, rfl⟩⟩; (try first | exact ⟨rfl, _, World.drewN_drewN _ _ _⟩ | exact ⟨rfl, _, Eq.trans (World.drewN_drewN _ _ _) (congrArg (World.drewN _) (Nat.add_assoc _ _ _))⟩))); try go_wp2_with (first | (go_at_call 56; (with_reducible refine (boltingref02_Equal.calls k1 _ _ l0_2 _ _ l1_2 false _ ?side1 ?side2 ?side3 ?side4 A28.out).mono ?_); (case side1 => repeat (first | exact (Kd.C_below HR0_2.out HB.out) | (with_reducible refine Kd.C_alloc ?_ _) | (with_reducible refine Kd.C_drewN ?_ _) | (with_reducible refine Kd.C_drew ?_))); (case side2 => exact HC0_2.out); (case side3 => repeat (first | exact (Kd.C_below HR1_2.out HB.out) | (with_reducible refine Kd.C_alloc ?_ _) | (with_reducible refine Kd.C_drewN ?_ _) | (with_reducible refine Kd.C_drew ?_))); (case side4 => exact HC1_2.out); rintro e w' ⟨rfl, ⟨nd, rfl⟩⟩; (try first | exact ⟨rfl, _, World.drewN_drewN _ _ _⟩ | exact ⟨rfl, _, Eq.trans (World.drewN_drewN _ _ _) (congrArg (World.drewN _) (Nat.add_assoc _ _ _))⟩))))
          go_ret
          exact ⟨by first | rfl | (simp [errW_none, errW_some] <;> rfl) | (simp [*, errW_none, errW_some] <;> rfl), by repeat (first | (with_reducible first | exact HB.out | apply below_alloc | apply pw_below_drewN | apply below_drew1 | refine below_set ?_ GE175.out | refine below_set ?_ GE176.out) | exact HB.out)⟩
        ·rw [if_neg c27] at H
         have c27b0 : (a0_7 == a1_7) = false := by simpa using c27
         (try (have c27b1 : decide (a0_7 = a1_7) = false := by simpa using c27))
         (try (have c27b2 : (a0_7 == a1_7) = false := by simpa using c27))
         (try (have c27b3 : ¬ (a0_7 = a1_7) := by simpa using c27))
         clear c27
         obtain rfl := Option.some.inj H
         have hnb42 := NB175_176.out
         have hnc42 := NB176_175.out
         have hcz43_0 : wr.cell? ⟨gb175, 0, none⟩ = some (.bool a0_0) := (blk_cell BK175.out 0).trans rfl
         have hcz43_1 : wr.cell? ⟨gb175, 1, none⟩ = some (.bool a0_1) := (blk_cell BK175.out 1).trans rfl
         have hcz43_2 : wr.cell? ⟨gb175, 2, none⟩ = some (.slice A0_2 l0_2.length c0_2) := (blk_cell BK175.out 2).trans rfl
         have hcz43_3 : wr.cell? ⟨gb175, 3, none⟩ = some (.slice A0_3 l0_3.length c0_3) := (blk_cell BK175.out 3).trans rfl
         have hcz43_4 : wr.cell? ⟨gb175, 4, none⟩ = some (.slice A0_4 l0_4.length c0_4) := (blk_cell BK175.out 4).trans rfl
         have hcz43_5 : wr.cell? ⟨gb175, 5, none⟩ = some (.slice A0_5 l0_5.length c0_5) := (blk_cell BK175.out 5).trans rfl
         have hcz43_6 : wr.cell? ⟨gb175, 6, none⟩ = some (.bool a0_6) := (blk_cell BK175.out 6).trans rfl
         have hcz43_7 : wr.cell? ⟨gb175, 7, none⟩ = some (.bool a0_7) := (blk_cell BK175.out 7).trans rfl
         have hfz43_0 := blk_frozen BK175.out 0
         have hfz43_1 := blk_frozen BK175.out 1
         have hfz43_2 := blk_frozen BK175.out 2
         have hfz43_3 := blk_frozen BK175.out 3
         have hfz43_4 := blk_frozen BK175.out 4
         have hfz43_5 := blk_frozen BK175.out 5
         have hfz43_6 := blk_frozen BK175.out 6
         have hfz43_7 := blk_frozen BK175.out 7
         have hcz44_0 : wr.cell? ⟨gb176, 0, none⟩ = some (.bool a1_0) := (blk_cell BK176.out 0).trans rfl
         have hcz44_1 : wr.cell? ⟨gb176, 1, none⟩ = some (.bool a1_1) := (blk_cell BK176.out 1).trans rfl
         have hcz44_2 : wr.cell? ⟨gb176, 2, none⟩ = some (.slice A1_2 l1_2.length c1_2) := (blk_cell BK176.out 2).trans rfl
         have hcz44_3 : wr.cell? ⟨gb176, 3, none⟩ = some (.slice A1_3 l1_3.length c1_3) := (blk_cell BK176.out 3).trans rfl
         have hcz44_4 : wr.cell? ⟨gb176, 4, none⟩ = some (.slice A1_4 l1_4.length c1_4) := (blk_cell BK176.out 4).trans rfl
         have hcz44_5 : wr.cell? ⟨gb176, 5, none⟩ = some (.slice A1_5 l1_5.length c1_5) := (blk_cell BK176.out 5).trans rfl
         have hcz44_6 : wr.cell? ⟨gb176, 6, none⟩ = some (.bool a1_6) := (blk_cell BK176.out 6).trans rfl
         have hcz44_7 : wr.cell? ⟨gb176, 7, none⟩ = some (.bool a1_7) := (blk_cell BK176.out 7).trans rfl
         have hfz44_0 := blk_frozen BK176.out 0
         have hfz44_1 := blk_frozen BK176.out 1
         have hfz44_2 := blk_frozen BK176.out 2
         have hfz44_3 := blk_frozen BK176.out 3
         have hfz44_4 := blk_frozen BK176.out 4
         have hfz44_5 := blk_frozen BK176.out 5
         have hfz44_6 := blk_frozen BK176.out 6
         have hfz44_7 := blk_frozen BK176.out 7
         go_wp2
         repeat (go_quiet (fail); try go_wp2)
         go_ret
         exact ⟨by first | rfl | (simp [errW_none, errW_some] <;> rfl) | (simp [*, errW_none, errW_some] <;> rfl), by repeat (first | (with_reducible first | exact HB.out | apply below_alloc | apply pw_below_drewN | apply below_drew1 | refine below_set ?_ GE175.out | refine below_set ?_ GE176.out) | exact HB.out)⟩
       ·rw [if_neg c26] at H
        have c26b0 : (a0_6 == a1_6) = false := by simpa using c26
        (try (have c26b1 : decide (a0_6 = a1_6) = false := by simpa using c26))
        (try (have c26b2 : (a0_6 == a1_6) = false := by simpa using c26))
        (try (have c26b3 : ¬ (a0_6 = a1_6) := by simpa using c26))
        clear c26
        obtain rfl := Option.some.inj H
        have hnb45 := NB175_176.out
        have hnc45 := NB176_175.out
        have hcz46_0 : wr.cell? ⟨gb175, 0, none⟩ = some (.bool a0_0) := (blk_cell BK175.out 0).trans rfl
        have hcz46_1 : wr.cell? ⟨gb175, 1, none⟩ = some (.bool a0_1) := (blk_cell BK175.out 1).trans rfl
        have hcz46_2 : wr.cell? ⟨gb175, 2, none⟩ = some (.slice A0_2 l0_2.length c0_2) := (blk_cell BK175.out 2).trans rfl
        have hcz46_3 : wr.cell? ⟨gb175, 3, none⟩ = some (.slice A0_3 l0_3.length c0_3) := (blk_cell BK175.out 3).trans rfl
        have hcz46_4 : wr.cell? ⟨gb175, 4, none⟩ = some (.slice A0_4 l0_4.length c0_4) := (blk_cell BK175.out 4).trans rfl
        have hcz46_5 : wr.cell? ⟨gb175, 5, none⟩ = some (.slice A0_5 l0_5.length c0_5) := (blk_cell BK175.out 5).trans rfl
        have hcz46_6 : wr.cell? ⟨gb175, 6, none⟩ = some (.bool a0_6) := (blk_cell BK175.out 6).trans rfl
        have hcz46_7 : wr.cell? ⟨gb175, 7, none⟩ = some (.bool a0_7) := (blk_cell BK175.out 7).trans rfl
        have hfz46_0 := blk_frozen BK175.out 0
        have hfz46_1 := blk_frozen BK175.out 1
        have hfz46_2 := blk_frozen BK175.out 2
        have hfz46_3 := blk_frozen BK175.out 3
        have hfz46_4 := blk_frozen BK175.out 4
        have hfz46_5 := blk_frozen BK175.out 5
        have hfz46_6 := blk_frozen BK175.out 6
        have hfz46_7 := blk_frozen BK175.out 7
        have hcz47_0 : wr.cell? ⟨gb176, 0, none⟩ = some (.bool a1_0) := (blk_cell BK176.out 0).trans rfl
        have hcz47_1 : wr.cell? ⟨gb176, 1, none⟩ = some (.bool a1_1) := (blk_cell BK176.out 1).trans rfl
        have hcz47_2 : wr.cell? ⟨gb176, 2, none⟩ = some (.slice A1_2 l1_2.length c1_2) := (blk_cell BK176.out 2).trans rfl
        have hcz47_3 : wr.cell? ⟨gb176, 3, none⟩ = some (.slice A1_3 l1_3.length c1_3) := (blk_cell BK176.out 3).trans rfl
        have hcz47_4 : wr.cell? ⟨gb176, 4, none⟩ = some (.slice A1_4 l1_4.length c1_4) := (blk_cell BK176.out 4).trans rfl
        have hcz47_5 : wr.cell? ⟨gb176, 5, none⟩ = some (.slice A1_5 l1_5.length c1_5) := (blk_cell BK176.out 5).trans rfl
        have hcz47_6 : wr.cell? ⟨gb176, 6, none⟩ = some (.bool a1_6) := (blk_cell BK176.out 6).trans rfl
        have hcz47_7 : wr.cell? ⟨gb176, 7, none⟩ = some (.bool a1_7) := (blk_cell BK176.out 7).trans rfl
        have hfz47_0 := blk_frozen BK176.out 0
        have hfz47_1 := blk_frozen BK176.out 1
        have hfz47_2 := blk_frozen BK176.out 2
        have hfz47_3 := blk_frozen BK176.out 3
        have hfz47_4 := blk_frozen BK176.out 4
        have hfz47_5 := blk_frozen BK176.out 5
        have hfz47_6 := blk_frozen BK176.out 6
        have hfz47_7 := blk_frozen BK176.out 7
        go_wp2
        repeat (go_quiet (fail); try go_wp2)
        go_ret
        exact ⟨by first | rfl | (simp [errW_none, errW_some] <;> rfl) | (simp [*, errW_none, errW_some] <;> rfl), by repeat (first | (with_reducible first | exact HB.out | apply below_alloc | apply pw_below_drewN | apply below_drew1 | refine below_set ?_ GE175.out | refine below_set ?_ GE176.out) | exact HB.out)⟩
      ·rw [if_neg c25] at H
       have c25b0 : (a0_1 == a1_1) = false := by simpa using c25
       (try (have c25b1 : decide (a0_1 = a1_1) = false := by simpa using c25))
       (try (have c25b2 : (a0_1 == a1_1) = false := by simpa using c25))
       (try (have c25b3 : ¬ (a0_1 = a1_1) := by simpa using c25))
       clear c25
       obtain rfl := Option.some.inj H
       have hnb48 := NB175_176.out
       have hnc48 := NB176_175.out
       have hcz49_0 : wr.cell? ⟨gb175, 0, none⟩ = some (.bool a0_0) := (blk_cell BK175.out 0).trans rfl
       have hcz49_1 : wr.cell? ⟨gb175, 1, none⟩ = some (.bool a0_1) := (blk_cell BK175.out 1).trans rfl
       have hcz49_2 : wr.cell? ⟨gb175, 2, none⟩ = some (.slice A0_2 l0_2.length c0_2) := (blk_cell BK175.out 2).trans rfl
       have hcz49_3 : wr.cell? ⟨gb175, 3, none⟩ = some (.slice A0_3 l0_3.length c0_3) := (blk_cell BK175.out 3).trans rfl
       have hcz49_4 : wr.cell? ⟨gb175, 4, none⟩ = some (.slice A0_4 l0_4.length c0_4) := (blk_cell BK175.out 4).trans rfl
       have hcz49_5 : wr.cell? ⟨gb175, 5, none⟩ = some (.slice A0_5 l0_5.length c0_5) := (blk_cell BK175.out 5).trans rfl
       have hcz49_6 : wr.cell? ⟨gb175, 6, none⟩ = some (.bool a0_6) := (blk_cell BK175.out 6).trans rfl
       have hcz49_7 : wr.cell? ⟨gb175, 7, none⟩ = some (.bool a0_7) := (blk_cell BK175.out 7).trans rfl
       have hfz49_0 := blk_frozen BK175.out 0
       have hfz49_1 := blk_frozen BK175.out 1
       have hfz49_2 := blk_frozen BK175.out 2
       have hfz49_3 := blk_frozen BK175.out 3
       have hfz49_4 := blk_frozen BK175.out 4
       have hfz49_5 := blk_frozen BK175.out 5
       have hfz49_6 := blk_frozen BK175.out 6
       have hfz49_7 := blk_frozen BK175.out 7
       have hcz50_0 : wr.cell? ⟨gb176, 0, none⟩ = some (.bool a1_0) := (blk_cell BK176.out 0).trans rfl
       have hcz50_1 : wr.cell? ⟨gb176, 1, none⟩ = some (.bool a1_1) := (blk_cell BK176.out 1).trans rfl
       have hcz50_2 : wr.cell? ⟨gb176, 2, none⟩ = some (.slice A1_2 l1_2.length c1_2) := (blk_cell BK176.out 2).trans rfl
       have hcz50_3 : wr.cell? ⟨gb176, 3, none⟩ = some (.slice A1_3 l1_3.length c1_3) := (blk_cell BK176.out 3).trans rfl
       have hcz50_4 : wr.cell? ⟨gb176, 4, none⟩ = some (.slice A1_4 l1_4.length c1_4) := (blk_cell BK176.out 4).trans rfl
       have hcz50_5 : wr.cell? ⟨gb176, 5, none⟩ = some (.slice A1_5 l1_5.length c1_5) := (blk_cell BK176.out 5).trans rfl
       have hcz50_6 : wr.cell? ⟨gb176, 6, none⟩ = some (.bool a1_6) := (blk_cell BK176.out 6).trans rfl
       have hcz50_7 : wr.cell? ⟨gb176, 7, none⟩ = some (.bool a1_7) := (blk_cell BK176.out 7).trans rfl
       have hfz50_0 := blk_frozen BK176.out 0
       have hfz50_1 := blk_frozen BK176.out 1
       have hfz50_2 := blk_frozen BK176.out 2
       have hfz50_3 := blk_frozen BK176.out 3
       have hfz50_4 := blk_frozen BK176.out 4
       have hfz50_5 := blk_frozen BK176.out 5
       have hfz50_6 := blk_frozen BK176.out 6
       have hfz50_7 := blk_frozen BK176.out 7
       go_wp2
       repeat (go_quiet (fail); try go_wp2)
       go_ret
       exact ⟨by first | rfl | (simp [errW_none, errW_some] <;> rfl) | (simp [*, errW_none, errW_some] <;> rfl), by repeat (first | (with_reducible first | exact HB.out | apply below_alloc | apply pw_below_drewN | apply below_drew1 | refine below_set ?_ GE175.out | refine below_set ?_ GE176.out) | exact HB.out)⟩
     ·rw [if_neg c24] at H
      have c24b0 : (a0_0 == a1_0) = false := by simpa using c24
      (try (have c24b1 : decide (a0_0 = a1_0) = false := by simpa using c24))
      (try (have c24b2 : (a0_0 == a1_0) = false := by simpa using c24))
      (try (have c24b3 : ¬ (a0_0 = a1_0) := by simpa using c24))
      clear c24
      obtain rfl := Option.some.inj H
      have hnb51 := NB175_176.out
      have hnc51 := NB176_175.out
      have hcz52_0 : wr.cell? ⟨gb175, 0, none⟩ = some (.bool a0_0) := (blk_cell BK175.out 0).trans rfl
      have hcz52_1 : wr.cell? ⟨gb175, 1, none⟩ = some (.bool a0_1) := (blk_cell BK175.out 1).trans rfl
      have hcz52_2 : wr.cell? ⟨gb175, 2, none⟩ = some (.slice A0_2 l0_2.length c0_2) := (blk_cell BK175.out 2).trans rfl
      have hcz52_3 : wr.cell? ⟨gb175, 3, none⟩ = some (.slice A0_3 l0_3.length c0_3) := (blk_cell BK175.out 3).trans rfl
      have hcz52_4 : wr.cell? ⟨gb175, 4, none⟩ = some (.slice A0_4 l0_4.length c0_4) := (blk_cell BK175.out 4).trans rfl
      have hcz52_5 : wr.cell? ⟨gb175, 5, none⟩ = some (.slice A0_5 l0_5.length c0_5) := (blk_cell BK175.out 5).trans rfl
      have hcz52_6 : wr.cell? ⟨gb175, 6, none⟩ = some (.bool a0_6) := (blk_cell BK175.out 6).trans rfl
      have hcz52_7 : wr.cell? ⟨gb175, 7, none⟩ = some (.bool a0_7) := (blk_cell BK175.out 7).trans rfl
      have hfz52_0 := blk_frozen BK175.out 0
      have hfz52_1 := blk_frozen BK175.out 1
      have hfz52_2 := blk_frozen BK175.out 2
      have hfz52_3 := blk_frozen BK175.out 3
      have hfz52_4 := blk_frozen BK175.out 4
      have hfz52_5 := blk_frozen BK175.out 5
      have hfz52_6 := blk_frozen BK175.out 6
      have hfz52_7 := blk_frozen BK175.out 7
      have hcz53_0 : wr.cell? ⟨gb176, 0, none⟩ = some (.bool a1_0) := (blk_cell BK176.out 0).trans rfl
      have hcz53_1 : wr.cell? ⟨gb176, 1, none⟩ = some (.bool a1_1) := (blk_cell BK176.out 1).trans rfl
      have hcz53_2 : wr.cell? ⟨gb176, 2, none⟩ = some (.slice A1_2 l1_2.length c1_2) := (blk_cell BK176.out 2).trans rfl
      have hcz53_3 : wr.cell? ⟨gb176, 3, none⟩ = some (.slice A1_3 l1_3.length c1_3) := (blk_cell BK176.out 3).trans rfl
      have hcz53_4 : wr.cell? ⟨gb176, 4, none⟩ = some (.slice A1_4 l1_4.length c1_4) := (blk_cell BK176.out 4).trans rfl
      have hcz53_5 : wr.cell? ⟨gb176, 5, none⟩ = some (.slice A1_5 l1_5.length c1_5) := (blk_cell BK176.out 5).trans rfl
      have hcz53_6 : wr.cell? ⟨gb176, 6, none⟩ = some (.bool a1_6) := (blk_cell BK176.out 6).trans rfl
      have hcz53_7 : wr.cell? ⟨gb176, 7, none⟩ = some (.bool a1_7) := (blk_cell BK176.out 7).trans rfl
      have hfz53_0 := blk_frozen BK176.out 0
      have hfz53_1 := blk_frozen BK176.out 1
      have hfz53_2 := blk_frozen BK176.out 2
      have hfz53_3 := blk_frozen BK176.out 3
      have hfz53_4 := blk_frozen BK176.out 4
      have hfz53_5 := blk_frozen BK176.out 5
      have hfz53_6 := blk_frozen BK176.out 6
      have hfz53_7 := blk_frozen BK176.out 7
      go_wp2
      repeat (go_quiet (fail); try go_wp2)
      go_ret
      exact ⟨by first | rfl | (simp [errW_none, errW_some] <;> rfl) | (simp [*, errW_none, errW_some] <;> rfl), by repeat (first | (with_reducible first | exact HB.out | apply below_alloc | apply pw_below_drewN | apply below_drew1 | refine below_set ?_ GE175.out | refine below_set ?_ GE176.out) | exact HB.out)⟩
 ·rw [if_neg c3] at H
  have c3b0 : ((l0_5.length : Int) == (l1_5.length : Int)) = false := beq_eq_false_iff_ne.mpr c3
  have c3b1 : ((l0_5.length : Int) != (l1_5.length : Int)) = true := bne_iff_ne.mpr c3
  have c3b2 : (l0_5.length == l1_5.length) = false := by first | simpa using c3 | (simp at c3 ⊢; omega)
  obtain rfl := Option.some.inj H
  go_enter Try.func24, Try.ntmps24
  go_wp2_with (first | ((with_reducible refine gate_dst (N := 2) rfl ?_); refine box_event ?hg (N := 2) ?hd (cs := #[.bool a0_0, .bool a0_1, .slice A0_2 l0_2.length c0_2, .slice A0_3 l0_3.length c0_3, .slice A0_4 l0_4.length c0_4, .slice A0_5 l0_5.length c0_5, .bool a0_6, .bool a0_7]) (t := 25) ?hr ?_; (case hd => rfl); (case hg => rfl); (case hr => first | (go_simp; done) | (go_simp; rfl)); intro gb175 hg w54 hbox hb; have n0_ := Aside0.mk (below_step (by repeat (first | (with_reducible first | exact HB.out | apply below_alloc | apply pw_below_drewN | apply below_drew1) | exact HB.out)) hb); have n1_ := Aside0.mk (hbox); have n2_ := Aside0.mk ((by rw [hg]; exact (below_size (by repeat (first | (with_reducible first | exact HB.out | apply below_alloc | apply pw_below_drewN | apply below_drew1) | exact HB.out))) : w.heap.size ≤ gb175)); have n3_ := Aside0.mk ((by rw [hg]; exact (below_size (by repeat (first | (with_reducible first | exact HB.out | apply below_alloc | apply pw_below_drewN | apply below_drew1) | exact HB.out))) : w.heap.size ≤ gb175)); clear HB; have HB := n0_; have BK175 := n1_; have GW175 := n2_; have GE175 := n3_; clear n0_ n1_ n2_ n3_; clear hb hbox hg) | ((with_reducible refine gate_dst (N := 3) rfl ?_); refine box_event ?hg (N := 3) ?hd (cs := #[.bool a1_0, .bool a1_1, .slice A1_2 l1_2.length c1_2, .slice A1_3 l1_3.length c1_3, .slice A1_4 l1_4.length c1_4, .slice A1_5 l1_5.length c1_5, .bool a1_6, .bool a1_7]) (t := 25) ?hr ?_; (case hd => rfl); (case hg => rfl); (case hr => first | (go_simp; done) | (go_simp; rfl)); intro gb176 hg w55 hbox hb; have n0_ := Aside0.mk (blk_below (g := gb175) (o := .cells #[.bool a0_0, .bool a0_1, .slice A0_2 l0_2.length c0_2, .slice A0_3 l0_3.length c0_3, .slice A0_4 l0_4.length c0_4, .slice A0_5 l0_5.length c0_5, .bool a0_6, .bool a0_7] 25 (0, 0)) (by exact BK175.out) hb); have n1_ := Aside0.mk (below_step (by repeat (first | (with_reducible first | exact HB.out | apply below_alloc | apply pw_below_drewN | apply below_drew1 | refine below_set ?_ GE175.out) | exact HB.out)) hb); have n2_ := Aside0.mk (hbox); have n3_ := Aside0.mk ((by rw [hg]; exact (below_size (by repeat (first | (with_reducible first | exact HB.out | apply below_alloc | apply pw_below_drewN | apply below_drew1 | refine below_set ?_ GE175.out) | exact HB.out))) : w.heap.size ≤ gb176)); have n4_ := Aside0.mk ((by rw [hg]; exact (below_size (by repeat (first | (with_reducible first | exact HB.out | apply below_alloc | apply pw_below_drewN | apply below_drew1 | refine below_set ?_ GE175.out) | exact HB.out))) : w.heap.size ≤ gb176)); have n5_ := Aside0.mk ((by rw [hg]; exact Nat.ne_of_lt (blk_lt (g := gb175) (o := .cells #[.bool a0_0, .bool a0_1, .slice A0_2 l0_2.length c0_2, .slice A0_3 l0_3.length c0_3, .slice A0_4 l0_4.length c0_4, .slice A0_5 l0_5.length c0_5, .bool a0_6, .bool a0_7] 25 (0, 0)) (by exact BK175.out)) : gb175 ≠ gb176)); have n6_ := Aside0.mk ((by rw [hg]; exact Nat.ne_of_gt (blk_lt (g := gb175) (o := .cells #[.bool a0_0, .bool a0_1, .slice A0_2 l0_2.length c0_2, .slice A0_3 l0_3.length c0_3, .slice A0_4 l0_4.length c0_4, .slice A0_5 l0_5.length c0_5, .bool a0_6, .bool a0_7] 25 (0, 0)) (by exact BK175.out)) : gb176 ≠ gb175)); clear BK175; clear HB; have BK175 := n0_; have HB := n1_; have BK176 := n2_; have GW176 := n3_; have GE176 := n4_; have NB175_176 := n5_; have NB176_175 := n6_; clear n0_ n1_ n2_ n3_ n4_ n5_ n6_; clear hb hbox hg; have hnb56 := NB175_176.out; have hnc56 := NB176_175.out; have hcz57_0 : w55.cell? ⟨gb175, 0, none⟩ = some (.bool a0_0) := (blk_cell BK175.out 0).trans rfl; have hcz57_1 : w55.cell? ⟨gb175, 1, none⟩ = some (.bool a0_1) := (blk_cell BK175.out 1).trans rfl; have hcz57_2 : w55.cell? ⟨gb175, 2, none⟩ = some (.slice A0_2 l0_2.length c0_2) := (blk_cell BK175.out 2).trans rfl; have hcz57_3 : w55.cell? ⟨gb175, 3, none⟩ = some (.slice A0_3 l0_3.length c0_3) := (blk_cell BK175.out 3).trans rfl; have hcz57_4 : w55.cell? ⟨gb175, 4, none⟩ = some (.slice A0_4 l0_4.length c0_4) := (blk_cell BK175.out 4).trans rfl; have hcz57_5 : w55.cell? ⟨gb175, 5, none⟩ = some (.slice A0_5 l0_5.length c0_5) := (blk_cell BK175.out 5).trans rfl; have hcz57_6 : w55.cell? ⟨gb175, 6, none⟩ = some (.bool a0_6) := (blk_cell BK175.out 6).trans rfl; have hcz57_7 : w55.cell? ⟨gb175, 7, none⟩ = some (.bool a0_7) := (blk_cell BK175.out 7).trans rfl; have hfz57_0 := blk_frozen BK175.out 0; have hfz57_1 := blk_frozen BK175.out 1; have hfz57_2 := blk_frozen BK175.out 2; have hfz57_3 := blk_frozen BK175.out 3; have hfz57_4 := blk_frozen BK175.out 4; have hfz57_5 := blk_frozen BK175.out 5; have hfz57_6 := blk_frozen BK175.out 6; have hfz57_7 := blk_frozen BK175.out 7; have hcz58_0 : w55.cell? ⟨gb176, 0, none⟩ = some (.bool a1_0) := (blk_cell BK176.out 0).trans rfl; have hcz58_1 : w55.cell? ⟨gb176, 1, none⟩ = some (.bool a1_1) := (blk_cell BK176.out 1).trans rfl; have hcz58_2 : w55.cell? ⟨gb176, 2, none⟩ = some (.slice A1_2 l1_2.length c1_2) := (blk_cell BK176.out 2).trans rfl; have hcz58_3 : w55.cell? ⟨gb176, 3, none⟩ = some (.slice A1_3 l1_3.length c1_3) := (blk_cell BK176.out 3).trans rfl; have hcz58_4 : w55.cell? ⟨gb176, 4, none⟩ = some (.slice A1_4 l1_4.length c1_4) := (blk_cell BK176.out 4).trans rfl; have hcz58_5 : w55.cell? ⟨gb176, 5, none⟩ = some (.slice A1_5 l1_5.length c1_5) := (blk_cell BK176.out 5).trans rfl; have hcz58_6 : w55.cell? ⟨gb176, 6, none⟩ = some (.bool a1_6) := (blk_cell BK176.out 6).trans rfl; have hcz58_7 : w55.cell? ⟨gb176, 7, none⟩ = some (.bool a1_7) := (blk_cell BK176.out 7).trans rfl; have hfz58_0 := blk_frozen BK176.out 0; have hfz58_1 := blk_frozen BK176.out 1; have hfz58_2 := blk_frozen BK176.out 2; have hfz58_3 := blk_frozen BK176.out 3; have hfz58_4 := blk_frozen BK176.out 4; have hfz58_5 := blk_frozen BK176.out 5; have hfz58_6 := blk_frozen BK176.out 6; have hfz58_7 := blk_frozen BK176.out 7))
  repeat (go_quiet (first | ((with_reducible refine gate_dst (N := 2) rfl ?_); refine box_event ?hg (N := 2) ?hd (cs := #[.bool a0_0, .bool a0_1, .slice A0_2 l0_2.length c0_2, .slice A0_3 l0_3.length c0_3, .slice A0_4 l0_4.length c0_4, .slice A0_5 l0_5.length c0_5, .bool a0_6, .bool a0_7]) (t := 25) ?hr ?_; (case hd => rfl); (case hg => rfl); (case hr => first | (go_simp; done) | (go_simp; rfl)); intro gb175 hg w54 hbox hb; have n0_ := Aside0.mk (below_step (by repeat (first | (with_reducible first | exact HB.out | apply below_alloc | apply pw_below_drewN | apply below_drew1) | exact HB.out)) hb); have n1_ := Aside0.mk (hbox); have n2_ := Aside0.mk ((by rw [hg]; exact (below_size (by repeat (first | (with_reducible first | exact HB.out | apply below_alloc | apply pw_below_drewN | apply below_drew1) | exact HB.out))) : w.heap.size ≤ gb175)); have n3_ := Aside0.mk ((by rw [hg]; exact (below_size (by repeat (first | (with_reducible first | exact HB.out | apply below_alloc | apply pw_below_drewN | apply below_drew1) | exact HB.out))) : w.heap.size ≤ gb175)); clear HB; have HB := n0_; have BK175 := n1_; have GW175 := n2_; have GE175 := n3_; clear n0_ n1_ n2_ n3_; clear hb hbox hg) | ((with_reducible refine gate_dst (N := 3) rfl ?_); refine box_event ?hg (N := 3) ?hd (cs := #[.bool a1_0, .bool a1_1, .slice A1_2 l1_2.length c1_2, .slice A1_3 l1_3.length c1_3, .slice A1_4 l1_4.length c1_4, .slice A1_5 l1_5.length c1_5, .bool a1_6, .bool a1_7]) (t := 25) ?hr ?_; (case hd => rfl); (case hg => rfl); (case hr => first | (go_simp; done) | (go_simp; rfl)); intro gb176 hg w55 hbox hb; have n0_ := Aside0.mk (blk_below (g := gb175) (o := .cells #[.bool a0_0, .bool a0_1, .slice A0_2 l0_2.length c0_2, .slice A0_3 l0_3.length c0_3, .slice A0_4 l0_4.length c0_4, .slice A0_5 l0_5.length c0_5, .bool a0_6, .bool a0_7] 25 (0, 0)) (by exact BK175.out) hb); have n1_ := Aside0.mk (below_step (by repeat (first | (with_reducible first | exact HB.out | apply below_alloc | apply pw_below_drewN | apply below_drew1 | refine below_set ?_ GE175.out) | exact HB.out)) hb); have n2_ := Aside0.mk (hbox); have n3_ := Aside0.mk ((by rw [hg]; exact (below_size (by repeat (first | (with_reducible first | exact HB.out | apply below_alloc | apply pw_below_drewN | apply below_drew1 | refine below_set ?_ GE175.out) | exact HB.out))) : w.heap.size ≤ gb176)); have n4_ := Aside0.mk ((by rw [hg]; exact (below_size (by repeat (first | (with_reducible first | exact HB.out | apply below_alloc | apply pw_below_drewN | apply below_drew1 | refine below_set ?_ GE175.out) | exact HB.out))) : w.heap.size ≤ gb176)); have n5_ := Aside0.mk ((by rw [hg]; exact Nat.ne_of_lt (blk_lt (g := gb175) (o := .cells #[.bool a0_0, .bool a0_1, .slice A0_2 l0_2.length c0_2, .slice A0_3 l0_3.length c0_3, .slice A0_4 l0_4.length c0_4, .slice A0_5 l0_5.length c0_5, .bool a0_6, .bool a0_7] 25 (0, 0)) (by exact BK175.out)) : gb175 ≠ gb176)); have n6_ := Aside0.mk ((by rw [hg]; exact Nat.ne_of_gt (blk_lt (g := gb175) (o := .cells #[.bool a0_0, .bool a0_1, .slice A0_2 l0_2.length c0_2, .slice A0_3 l0_3.length c0_3, .slice A0_4 l0_4.length c0_4, .slice A0_5 l0_5.length c0_5, .bool a0_6, .bool a0_7] 25 (0, 0)) (by exact BK175.out)) : gb176 ≠ gb175)); clear BK175; clear HB; have BK175 := n0_; have HB := n1_; have BK176 := n2_; have GW176 := n3_; have GE176 := n4_; have NB175_176 := n5_; have NB176_175 := n6_; clear n0_ n1_ n2_ n3_ n4_ n5_ n6_; clear hb hbox hg; have hnb56 := NB175_176.out; have hnc56 := NB176_175.out; have hcz57_0 : w55.cell? ⟨gb175, 0, none⟩ = some (.bool a0_0) := (blk_cell BK175.out 0).trans rfl; have hcz57_1 : w55.cell? ⟨gb175, 1, none⟩ = some (.bool a0_1) := (blk_cell BK175.out 1).trans rfl; have hcz57_2 : w55.cell? ⟨gb175, 2, none⟩ = some (.slice A0_2 l0_2.length c0_2) := (blk_cell BK175.out 2).trans rfl; have hcz57_3 : w55.cell? ⟨gb175, 3, none⟩ = some (.slice A0_3 l0_3.length c0_3) := (blk_cell BK175.out 3).trans rfl; have hcz57_4 : w55.cell? ⟨gb175, 4, none⟩ = some (.slice A0_4 l0_4.length c0_4) := (blk_cell BK175.out 4).trans rfl; have hcz57_5 : w55.cell? ⟨gb175, 5, none⟩ = some (.slice A0_5 l0_5.length c0_5) := (blk_cell BK175.out 5).trans rfl; have hcz57_6 : w55.cell? ⟨gb175, 6, none⟩ = some (.bool a0_6) := (blk_cell BK175.out 6).trans rfl; have hcz57_7 : w55.cell? ⟨gb175, 7, none⟩ = some (.bool a0_7) := (blk_cell BK175.out 7).trans rfl; have hfz57_0 := blk_frozen BK175.out 0; have hfz57_1 := blk_frozen BK175.out 1; have hfz57_2 := blk_frozen BK175.out 2; have hfz57_3 := blk_frozen BK175.out 3; have hfz57_4 := blk_frozen BK175.out 4; have hfz57_5 := blk_frozen BK175.out 5; have hfz57_6 := blk_frozen BK175.out 6; have hfz57_7 := blk_frozen BK175.out 7; have hcz58_0 : w55.cell? ⟨gb176, 0, none⟩ = some (.bool a1_0) := (blk_cell BK176.out 0).trans rfl; have hcz58_1 : w55.cell? ⟨gb176, 1, none⟩ = some (.bool a1_1) := (blk_cell BK176.out 1).trans rfl; have hcz58_2 : w55.cell? ⟨gb176, 2, none⟩ = some (.slice A1_2 l1_2.length c1_2) := (blk_cell BK176.out 2).trans rfl; have hcz58_3 : w55.cell? ⟨gb176, 3, none⟩ = some (.slice A1_3 l1_3.length c1_3) := (blk_cell BK176.out 3).trans rfl; have hcz58_4 : w55.cell? ⟨gb176, 4, none⟩ = some (.slice A1_4 l1_4.length c1_4) := (blk_cell BK176.out 4).trans rfl; have hcz58_5 : w55.cell? ⟨gb176, 5, none⟩ = some (.slice A1_5 l1_5.length c1_5) := (blk_cell BK176.out 5).trans rfl; have hcz58_6 : w55.cell? ⟨gb176, 6, none⟩ = some (.bool a1_6) := (blk_cell BK176.out 6).trans rfl; have hcz58_7 : w55.cell? ⟨gb176, 7, none⟩ = some (.bool a1_7) := (blk_cell BK176.out 7).trans rfl; have hfz58_0 := blk_frozen BK176.out 0; have hfz58_1 := blk_frozen BK176.out 1; have hfz58_2 := blk_frozen BK176.out 2; have hfz58_3 := blk_frozen BK176.out 3; have hfz58_4 := blk_frozen BK176.out 4; have hfz58_5 := blk_frozen BK176.out 5; have hfz58_6 := blk_frozen BK176.out 6; have hfz58_7 := blk_frozen BK176.out 7)); try go_wp2_with (first | ((with_reducible refine gate_dst (N := 2) rfl ?_); refine box_event ?hg (N := 2) ?hd (cs := #[.bool a0_0, .bool a0_1, .slice A0_2 l0_2.length c0_2, .slice A0_3 l0_3.length c0_3, .slice A0_4 l0_4.length c0_4, .slice A0_5 l0_5.length c0_5, .bool a0_6, .bool a0_7]) (t := 25) ?hr ?_; (case hd => rfl); (case hg => rfl); (case hr => first | (go_simp; done) | (go_simp; rfl)); intro gb175 hg w54 hbox hb; have n0_ := Aside0.mk (below_step (by repeat (first | (with_reducible first | exact HB.out | apply below_alloc | apply pw_below_drewN | apply below_drew1) | exact HB.out)) hb); have n1_ := Aside0.mk (hbox); have n2_ := Aside0.mk ((by rw [hg]; exact (below_size (by repeat (first | (with_reducible first | exact HB.out | apply below_alloc | apply pw_below_drewN | apply below_drew1) | exact HB.out))) : w.heap.size ≤ gb175)); have n3_ := Aside0.mk ((by rw [hg]; exact (below_size (by repeat (first | (with_reducible first | exact HB.out | apply below_alloc | apply pw_below_drewN | apply below_drew1) | exact HB.out))) : w.heap.size ≤ gb175)); clear HB; have HB := n0_; have BK175 := n1_; have GW175 := n2_; have GE175 := n3_; clear n0_ n1_ n2_ n3_; clear hb hbox hg) | ((with_reducible refine gate_dst (N := 3) rfl ?_); refine box_event ?hg (N := 3) ?hd (cs := #[.bool a1_0, .bool a1_1, .slice A1_2 l1_2.length c1_2, .slice A1_3 l1_3.length c1_3, .slice A1_4 l1_4.length c1_4, .slice A1_5 l1_5.length c1_5, .bool a1_6, .bool a1_7]) (t := 25) ?hr ?_; (case hd => rfl); (case hg => rfl); (case hr => first | (go_simp; done) | (go_simp; rfl)); intro gb176 hg w55 hbox hb; have n0_ := Aside0.mk (blk_below (g := gb175) (o := .cells #[.bool a0_0, .bool a0_1, .slice A0_2 l0_2.length c0_2, .slice A0_3 l0_3.length c0_3, .slice A0_4 l0_4.length c0_4, .slice A0_5 l0_5.length c0_5, .bool a0_6, .bool a0_7] 25 (0, 0)) (by exact BK175.out) hb); have n1_ := Aside0.mk (below_step (by repeat (first | (with_reducible first | exact HB.out | apply below_alloc | apply pw_below_drewN | apply below_drew1 | refine below_set ?_ GE175.out) | exact HB.out)) hb); have n2_ := Aside0.mk (hbox); have n3_ := Aside0.mk ((by rw [hg]; exact (below_size (by repeat (first | (with_reducible first | exact HB.out | apply below_alloc | apply pw_below_drewN | apply below_drew1 | refine below_set ?_ GE175.out) | exact HB.out))) : w.heap.size ≤ gb176)); have n4_ := Aside0.mk ((by rw [hg]; exact (below_size (by repeat (first | (with_reducible first | exact HB.out | apply below_alloc | apply pw_below_drewN | apply below_drew1 | refine below_set ?_ GE175.out) | exact HB.out))) : w.heap.size ≤ gb176)); have n5_ := Aside0.mk ((by rw [hg]; exact Nat.ne_of_lt (blk_lt (g := gb175) (o := .cells #[.bool a0_0, .bool a0_1, .slice A0_2 l0_2.length c0_2, .slice A0_3 l0_3.length c0_3, .slice A0_4 l0_4.length c0_4, .slice A0_5 l0_5.length c0_5, .bool a0_6, .bool a0_7] 25 (0, 0)) (by exact BK175.out)) : gb175 ≠ gb176)); have n6_ := Aside0.mk ((by rw [hg]; exact Nat.ne_of_gt (blk_lt (g := gb175) (o := .cells #[.bool a0_0, .bool a0_1, .slice A0_2 l0_2.length c0_2, .slice A0_3 l0_3.length c0_3, .slice A0_4 l0_4.length c0_4, .slice A0_5 l0_5.length c0_5, .bool a0_6, .bool a0_7] 25 (0, 0)) (by exact BK175.out)) : gb176 ≠ gb175)); clear BK175; clear HB; have BK175 := n0_; have HB := n1_; have BK176 := n2_; have GW176 := n3_; have GE176 := n4_; have NB175_176 := n5_; have NB176_175 := n6_; clear n0_ n1_ n2_ n3_ n4_ n5_ n6_; clear hb hbox hg; have hnb56 := NB175_176.out; have hnc56 := NB176_175.out; have hcz57_0 : w55.cell? ⟨gb175, 0, none⟩ = some (.bool a0_0) := (blk_cell BK175.out 0).trans rfl; have hcz57_1 : w55.cell? ⟨gb175, 1, none⟩ = some (.bool a0_1) := (blk_cell BK175.out 1).trans rfl; have hcz57_2 : w55.cell? ⟨gb175, 2, none⟩ = some (.slice A0_2 l0_2.length c0_2) := (blk_cell BK175.out 2).trans rfl; have hcz57_3 : w55.cell? ⟨gb175, 3, none⟩ = some (.slice A0_3 l0_3.length c0_3) := (blk_cell BK175.out 3).trans rfl; have hcz57_4 : w55.cell? ⟨gb175, 4, none⟩ = some (.slice A0_4 l0_4.length c0_4) := (blk_cell BK175.out 4).trans rfl; have hcz57_5 : w55.cell? ⟨gb175, 5, none⟩ = some (.slice A0_5 l0_5.length c0_5) := (blk_cell BK175.out 5).trans rfl; have hcz57_6 : w55.cell? ⟨gb175, 6, none⟩ = some (.bool a0_6) := (blk_cell BK175.out 6).trans rfl; have hcz57_7 : w55.cell? ⟨gb175, 7, none⟩ = some (.bool a0_7) := (blk_cell BK175.out 7).trans rfl; have hfz57_0 := blk_frozen BK175.out 0; have hfz57_1 := blk_frozen BK175.out 1; have hfz57_2 := blk_frozen BK175.out 2; have hfz57_3 := blk_frozen BK175.out 3; have hfz57_4 := blk_frozen BK175.out 4; have hfz57_5 := blk_frozen BK175.out 5; have hfz57_6 := blk_frozen BK175.out 6; have hfz57_7 := blk_frozen BK175.out 7; have hcz58_0 : w55.cell? ⟨gb176, 0, none⟩ = some (.bool a1_0) := (blk_cell BK176.out 0).trans rfl; have hcz58_1 : w55.cell? ⟨gb176, 1, none⟩ = some (.bool a1_1) := (blk_cell BK176.out 1).trans rfl; have hcz58_2 : w55.cell? ⟨gb176, 2, none⟩ = some (.slice A1_2 l1_2.length c1_2) := (blk_cell BK176.out 2).trans rfl; have hcz58_3 : w55.cell? ⟨gb176, 3, none⟩ = some (.slice A1_3 l1_3.length c1_3) := (blk_cell BK176.out 3).trans rfl; have hcz58_4 : w55.cell? ⟨gb176, 4, none⟩ = some (.slice A1_4 l1_4.length c1_4) := (blk_cell BK176.out 4).trans rfl; have hcz58_5 : w55.cell? ⟨gb176, 5, none⟩ = some (.slice A1_5 l1_5.length c1_5) := (blk_cell BK176.out 5).trans rfl; have hcz58_6 : w55.cell? ⟨gb176, 6, none⟩ = some (.bool a1_6) := (blk_cell BK176.out 6).trans rfl; have hcz58_7 : w55.cell? ⟨gb176, 7, none⟩ = some (.bool a1_7) := (blk_cell BK176.out 7).trans rfl; have hfz58_0 := blk_frozen BK176.out 0; have hfz58_1 := blk_frozen BK176.out 1; have hfz58_2 := blk_frozen BK176.out 2; have hfz58_3 := blk_frozen BK176.out 3; have hfz58_4 := blk_frozen BK176.out 4; have hfz58_5 := blk_frozen BK176.out 5; have hfz58_6 := blk_frozen BK176.out 6; have hfz58_7 := blk_frozen BK176.out 7)))
  go_ret
  exact ⟨by first | rfl | (simp [errW_none, errW_some] <;> rfl) | (simp [*, errW_none, errW_some] <;> rfl), by repeat (first | (with_reducible first | exact HB.out | apply below_alloc | apply pw_below_drewN | apply below_drew1 | refine below_set ?_ GE175.out | refine below_set ?_ GE176.out) | exact HB.out)⟩

def config_Element.f (k : Nat) (a0_0 : Bool) (a0_1 : Bool) (l0_2 : List ByteArray) (l0_3 : List ByteArray) (l0_4 : List ByteArray) (l0_5 : List (S35)) (a0_6 : Bool) (a0_7 : Bool) (a1 : ByteArray) : Option (Int) := (slices_Contains_string_string.f k l0_3 a1).bind fun t186 => (if t186 = true then (some 2) else ((slices_Contains_string_string.f k l0_2 a1).bind fun t187 => (if (t187 != a0_0) = true then (some 1) else (some 0))))
set_option maxHeartbeats 8000000 in
set_option maxRecDepth 100000 in
theorem config_Element.calls (k : Nat) (a0_0 : Bool) (a0_1 : Bool) (A0_2 : Option Addr) (c0_2 : Nat) (l0_2 : List ByteArray) (A0_3 : Option Addr) (c0_3 : Nat) (l0_3 : List ByteArray) (A0_4 : Option Addr) (c0_4 : Nat) (l0_4 : List ByteArray) (A0_5 : Option Addr) (c0_5 : Nat) (l0_5 : List (S35)) (a0_6 : Bool) (a0_7 : Bool) (a1 : ByteArray) (r : Int) (w : World) (hr0_2 : Kd.C Kd.string w A0_2 l0_2.length l0_2) (hc0_2 : l0_2.length ≤ c0_2) (hr0_3 : Kd.C Kd.string w A0_3 l0_3.length l0_3) (hc0_3 : l0_3.length ≤ c0_3) (hr0_4 : Kd.C Kd.string w A0_4 l0_4.length l0_4) (hc0_4 : l0_4.length ≤ c0_4) (hr0_5 : Kd.C k35 w A0_5 l0_5.length l0_5) (hc0_5 : l0_5.length ≤ c0_5) (h : config_Element.f k a0_0 a0_1 l0_2 l0_3 l0_4 l0_5 a0_6 a0_7 a1 = some r) :
  Calls Try.prog 13 #[.agg #[.bool a0_0, .bool a0_1, .slice A0_2 l0_2.length c0_2, .slice A0_3 l0_3.length c0_3, .slice A0_4 l0_4.length c0_4, .slice A0_5 l0_5.length c0_5, .bool a0_6, .bool a0_7], .string a1] w fun e w' => e = .returned (.int .i64 r) ∧ Below w.heap.size w w' := by
 have hu25 := Try.underlying25
 have HR0_2 := Aside0.mk hr0_2
 have HC0_2 := Aside0.mk hc0_2
 clear hr0_2 hc0_2
 have HR0_3 := Aside0.mk hr0_3
 have HC0_3 := Aside0.mk hc0_3
 clear hr0_3 hc0_3
 have HR0_4 := Aside0.mk hr0_4
 have HC0_4 := Aside0.mk hc0_4
 clear hr0_4 hc0_4
 have HR0_5 := Aside0.mk hr0_5
 have HC0_5 := Aside0.mk hc0_5
 clear hr0_5 hc0_5
 have HB := Aside0.mk (Below.refl w.heap.size w)
 have H : ((slices_Contains_string_string.f k l0_3 a1).bind fun t186 => (if t186 = true then (some 2) else ((slices_Contains_string_string.f k l0_2 a1).bind fun t187 => (if (t187 != a0_0) = true then (some 1) else (some 0))))) = some r := h
 clear h
 replace H := Option.bind_eq_some_iff.mp H
 obtain ⟨t186, A30, H⟩ := H
 have A3 := Aside0.mk A30
 clear A30
 by_cases c4 : t186 = true
 ·subst c4
  replace H : (some 2) = some r := by rw [if_pos rfl] at H; exact H
  obtain rfl := Option.some.inj H
  go_enter Try.func13, Try.ntmps13
  go_wp2_with (first | ((with_reducible refine gate_dst (N := 2) rfl ?_); refine box_event ?hg (N := 2) ?hd (cs := #[.bool a0_0, .bool a0_1, .slice A0_2 l0_2.length c0_2, .slice A0_3 l0_3.length c0_3, .slice A0_4 l0_4.length c0_4, .slice A0_5 l0_5.length c0_5, .bool a0_6, .bool a0_7]) (t := 25) ?hr ?_; (case hd => rfl); (case hg => rfl); (case hr => first | (go_simp; done) | (go_simp; rfl)); intro gb185 hg w5 hbox hb; have n0_ := Aside0.mk (below_step (by repeat (first | (with_reducible first | exact HB.out | apply below_alloc | apply pw_below_drewN | apply below_drew1) | exact HB.out)) hb); have n1_ := Aside0.mk (hbox); have n2_ := Aside0.mk ((by rw [hg]; exact (below_size (by repeat (first | (with_reducible first | exact HB.out | apply below_alloc | apply pw_below_drewN | apply below_drew1) | exact HB.out))) : w.heap.size ≤ gb185)); have n3_ := Aside0.mk ((by rw [hg]; exact (below_size (by repeat (first | (with_reducible first | exact HB.out | apply below_alloc | apply pw_below_drewN | apply below_drew1) | exact HB.out))) : w.heap.size ≤ gb185)); clear HB; have HB := n0_; have BK185 := n1_; have GW185 := n2_; have GE185 := n3_; clear n0_ n1_ n2_ n3_; clear hb hbox hg; have hcz6_0 : w5.cell? ⟨gb185, 0, none⟩ = some (.bool a0_0) := (blk_cell BK185.out 0).trans rfl; have hcz6_1 : w5.cell? ⟨gb185, 1, none⟩ = some (.bool a0_1) := (blk_cell BK185.out 1).trans rfl; have hcz6_2 : w5.cell? ⟨gb185, 2, none⟩ = some (.slice A0_2 l0_2.length c0_2) := (blk_cell BK185.out 2).trans rfl; have hcz6_3 : w5.cell? ⟨gb185, 3, none⟩ = some (.slice A0_3 l0_3.length c0_3) := (blk_cell BK185.out 3).trans rfl; have hcz6_4 : w5.cell? ⟨gb185, 4, none⟩ = some (.slice A0_4 l0_4.length c0_4) := (blk_cell BK185.out 4).trans rfl; have hcz6_5 : w5.cell? ⟨gb185, 5, none⟩ = some (.slice A0_5 l0_5.length c0_5) := (blk_cell BK185.out 5).trans rfl; have hcz6_6 : w5.cell? ⟨gb185, 6, none⟩ = some (.bool a0_6) := (blk_cell BK185.out 6).trans rfl; have hcz6_7 : w5.cell? ⟨gb185, 7, none⟩ = some (.bool a0_7) := (blk_cell BK185.out 7).trans rfl; have hfz6_0 := blk_frozen BK185.out 0; have hfz6_1 := blk_frozen BK185.out 1; have hfz6_2 := blk_frozen BK185.out 2; have hfz6_3 := blk_frozen BK185.out 3; have hfz6_4 := blk_frozen BK185.out 4; have hfz6_5 := blk_frozen BK185.out 5; have hfz6_6 := blk_frozen BK185.out 6; have hfz6_7 := blk_frozen BK185.out 7) | (go_at_call 31; (with_reducible refine (slices_Contains_string_string.calls k _ _ l0_3 a1 true _ ?side1 ?side2 A3.out).mono ?_); (case side1 => repeat (first | exact (Kd.C_below HR0_3.out HB.out) | (with_reducible refine Kd.C_alloc ?_ _) | (with_reducible refine Kd.C_drewN ?_ _) | (with_reducible refine Kd.C_drew ?_))); (case side2 => exact HC0_3.out); rintro e w' ⟨rfl, ⟨nd, rfl⟩⟩; (try first | exact ⟨rfl, _, World.drewN_drewN _ _ _⟩ | exact ⟨rfl, _, Eq.trans (World.drewN_drewN _ _ _) (congrArg (World.drewN _) (Nat.add_assoc _ _ _))⟩)))
  repeat (go_quiet (first | ((with_reducible refine gate_dst (N := 2) rfl ?_); refine box_event ?hg (N := 2) ?hd (cs := #[.bool a0_0, .bool a0_1, .slice A0_2 l0_2.length c0_2, .slice A0_3 l0_3.length c0_3, .slice A0_4 l0_4.length c0_4, .slice A0_5 l0_5.length c0_5, .bool a0_6, .bool a0_7]) (t := 25) ?hr ?_; (case hd => rfl); (case hg => rfl); (case hr => first | (go_simp; done) | (go_simp; rfl)); intro gb185 hg w5 hbox hb; have n0_ := Aside0.mk (below_step (by repeat (first | (with_reducible first | exact HB.out | apply below_alloc | apply pw_below_drewN | apply below_drew1) | exact HB.out)) hb); have n1_ := Aside0.mk (hbox); have n2_ := Aside0.mk ((by rw [hg]; exact (below_size (by repeat (first | (with_reducible first | exact HB.out | apply below_alloc | apply pw_below_drewN | apply below_drew1) | exact HB.out))) : w.heap.size ≤ gb185)); have n3_ := Aside0.mk ((by rw [hg]; exact (below_size (by repeat (first | (with_reducible first | exact HB.out | apply below_alloc | apply pw_below_drewN | apply below_drew1) | exact HB.out))) : w.heap.size ≤ gb185)); clear HB; have HB := n0_; have BK185 := n1_; have GW185 := n2_; have GE185 := n3_; clear n0_ n1_ n2_ n3_; clear hb hbox hg; have hcz6_0 : w5.cell? ⟨gb185, 0, none⟩ = some (.bool a0_0) := (blk_cell BK185.out 0).trans rfl; have hcz6_1 : w5.cell? ⟨gb185, 1, none⟩ = some (.bool a0_1) := (blk_cell BK185.out 1).trans rfl; have hcz6_2 : w5.cell? ⟨gb185, 2, none⟩ = some (.slice A0_2 l0_2.length c0_2) := (blk_cell BK185.out 2).trans rfl; have hcz6_3 : w5.cell? ⟨gb185, 3, none⟩ = some (.slice A0_3 l0_3.length c0_3) := (blk_cell BK185.out 3).trans rfl; have hcz6_4 : w5.cell? ⟨gb185, 4, none⟩ = some (.slice A0_4 l0_4.length c0_4) := (blk_cell BK185.out 4).trans rfl; have hcz6_5 : w5.cell? ⟨gb185, 5, none⟩ = some (.slice A0_5 l0_5.length c0_5) := (blk_cell BK185.out 5).trans rfl; have hcz6_6 : w5.cell? ⟨gb185, 6, none⟩ = some (.bool a0_6) := (blk_cell BK185.out 6).trans rfl; have hcz6_7 : w5.cell? ⟨gb185, 7, none⟩ = some (.bool a0_7) := (blk_cell BK185.out 7).trans rfl; have hfz6_0 := blk_frozen BK185.out 0; have hfz6_1 := blk_frozen BK185.out 1; have hfz6_2 := blk_frozen BK185.out 2; have hfz6_3 := blk_frozen BK185.out 3; have hfz6_4 := blk_frozen BK185.out 4; have hfz6_5 := blk_frozen BK185.out 5; have hfz6_6 := blk_frozen BK185.out 6; have hfz6_7 := blk_frozen BK185.out 7) | (go_at_call 31; (with_reducible refine (slices_Contains_string_string.calls k _ _ l0_3 a1 true _ ?side1 ?side2 A3.out).mono ?_); (case side1 => repeat (first | exact (Kd.C_below HR0_3.out HB.out) | (with_reducible refine Kd.C_alloc ?_ _) | (with_reducible refine Kd.C_drewN ?_ _) | (with_reducible refine Kd.C_drew ?_))); (case side2 => exact HC0_3.out); rintro e w' ⟨rfl, ⟨nd, rfl⟩⟩; (try first | exact ⟨rfl, _, World.drewN_drewN _ _ _⟩ | exact ⟨rfl, _, Eq.trans (World.drewN_drewN _ _ _) (congrArg (World.drewN _) (Nat.add_assoc _ _ _))⟩))); try go_wp2_with (first | ((with_reducible refine gate_dst (N := 2) rfl ?_); refine box_event ?hg (N := 2) ?hd (cs := #[.bool a0_0, .bool a0_1, .slice A0_2 l0_2.length c0_2, .slice A0_3 l0_3.length c0_3, .slice A0_4 l0_4.length c0_4, .slice A0_5 l0_5.length c0_5, .bool a0_6, .bool a0_7]) (t := 25) ?hr ?_; (case hd => rfl); (case hg => rfl); (case hr => first | (go_simp; done) | (go_simp; rfl)); intro gb185 hg w5 hbox hb; have n0_ := Aside0.mk (below_step (by repeat (first | (with_reducible first | exact HB.out | apply below_alloc | apply pw_below_drewN | apply below_drew1) | exact HB.out)) hb); have n1_ := Aside0.mk (hbox); have n2_ := Aside0.mk ((by rw [hg]; exact (below_size (by repeat (first | (with_reducible first | exact HB.out | apply below_alloc | apply pw_below_drewN | apply below_drew1) | exact HB.out))) : w.heap.size ≤ gb185)); have n3_ := Aside0.mk ((by rw [hg]; exact (below_size (by repeat (first | (with_reducible first | exact HB.out | apply below_alloc | apply pw_below_drewN | apply below_drew1) | exact HB.out))) : w.heap.size ≤ gb185)); clear HB; have HB := n0_; have BK185 := n1_; have GW185 := n2_; have GE185 := n3_; clear n0_ n1_ n2_ n3_; clear hb hbox hg; have hcz6_0 : w5.cell? ⟨gb185, 0, none⟩ = some (.bool a0_0) := (blk_cell BK185.out 0).trans rfl; have hcz6_1 : w5.cell? ⟨gb185, 1, none⟩ = some (.bool a0_1) := (blk_cell BK185.out 1).trans rfl; have hcz6_2 : w5.cell? ⟨gb185, 2, none⟩ = some (.slice A0_2 l0_2.length c0_2) := (blk_cell BK185.out 2).trans rfl; have hcz6_3 : w5.cell? ⟨gb185, 3, none⟩ = some (.slice A0_3 l0_3.length c0_3) := (blk_cell BK185.out 3).trans rfl; have hcz6_4 : w5.cell? ⟨gb185, 4, none⟩ = some (.slice A0_4 l0_4.length c0_4) := (blk_cell BK185.out 4).trans rfl; have hcz6_5 : w5.cell? ⟨gb185, 5, none⟩ = some (.slice A0_5 l0_5.length c0_5) := (blk_cell BK185.out 5).trans rfl; have hcz6_6 : w5.cell? ⟨gb185, 6, none⟩ = some (.bool a0_6) := (blk_cell BK185.out 6).trans rfl; have hcz6_7 : w5.cell? ⟨gb185, 7, none⟩ = some (.bool a0_7) := (blk_cell BK185.out 7).trans rfl; have hfz6_0 := blk_frozen BK185.out 0; have hfz6_1 := blk_frozen BK185.out 1; have hfz6_2 := blk_frozen BK185.out 2; have hfz6_3 := blk_frozen BK185.out 3; have hfz6_4 := blk_frozen BK185.out 4; have hfz6_5 := blk_frozen BK185.out 5; have hfz6_6 := blk_frozen BK185.out 6; have hfz6_7 := blk_frozen BK185.out 7) | (go_at_call 31; (with_reducible refine (slices_Contains_string_string.calls k _ _ l0_3 a1 true _ ?side1 ?side2 A3.out).mono ?_); (case side1 => repeat (first | exact (Kd.C_below HR0_3.out HB.out) | (with_reducible refine Kd.C_alloc ?_ _) | (with_reducible refine Kd.C_drewN ?_ _) | (with_reducible refine Kd.C_drew ?_))); (case side2 => exact HC0_3.out); rintro e w' ⟨rfl, ⟨nd, rfl⟩⟩; (try first | exact ⟨rfl, _, World.drewN_drewN _ _ _⟩ | exact ⟨rfl, _, Eq.trans (World.drewN_drewN _ _ _) (congrArg (World.drewN _) (Nat.add_assoc _ _ _))⟩))))
  go_ret
  exact ⟨by first | rfl | (simp [errW_none, errW_some] <;> rfl) | (simp [*, errW_none, errW_some] <;> rfl), by repeat (first | (with_reducible first | exact HB.out | apply below_alloc | apply pw_below_drewN | apply below_drew1 | refine below_set ?_ GE185.out) | exact HB.out)⟩
 ·replace c4 := Bool.eq_false_iff.mpr c4
  subst c4
  replace H : ((slices_Contains_string_string.f k l0_2 a1).bind fun t187 => (if (t187 != a0_0) = true then (some 1) else (some 0))) = some r := by rw [if_neg (show ¬ (false = true) by decide)] at H; exact H
  replace H := Option.bind_eq_some_iff.mp H
  obtain ⟨t187, A70, H⟩ := H
  have A7 := Aside0.mk A70
  clear A70
  by_cases c8 : (t187 != a0_0) = true
  ·rw [if_pos c8] at H
   have c8b0 : (t187 != a0_0) = true := c8
   (try (have c8b1 : decide (t187 = a0_0) = false := by simpa using c8))
   (try (have c8b2 : (t187 == a0_0) = false := by simpa using c8))
   (try (have c8b3 : ¬ (t187 = a0_0) := by simpa using c8))
   clear c8
   obtain rfl := Option.some.inj H
   go_enter Try.func13, Try.ntmps13
   go_wp2_with (first | ((with_reducible refine gate_dst (N := 2) rfl ?_); refine box_event ?hg (N := 2) ?hd (cs := #[.bool a0_0, .bool a0_1, .slice A0_2 l0_2.length c0_2, .slice A0_3 l0_3.length c0_3, .slice A0_4 l0_4.length c0_4, .slice A0_5 l0_5.length c0_5, .bool a0_6, .bool a0_7]) (t := 25) ?hr ?_; (case hd => rfl); (case hg => rfl); (case hr => first | (go_simp; done) | (go_simp; rfl)); intro gb185 hg w9 hbox hb; have n0_ := Aside0.mk (below_step (by repeat (first | (with_reducible first | exact HB.out | apply below_alloc | apply pw_below_drewN | apply below_drew1) | exact HB.out)) hb); have n1_ := Aside0.mk (hbox); have n2_ := Aside0.mk ((by rw [hg]; exact (below_size (by repeat (first | (with_reducible first | exact HB.out | apply below_alloc | apply pw_below_drewN | apply below_drew1) | exact HB.out))) : w.heap.size ≤ gb185)); have n3_ := Aside0.mk ((by rw [hg]; exact (below_size (by repeat (first | (with_reducible first | exact HB.out | apply below_alloc | apply pw_below_drewN | apply below_drew1) | exact HB.out))) : w.heap.size ≤ gb185)); clear HB; have HB := n0_; have BK185 := n1_; have GW185 := n2_; have GE185 := n3_; clear n0_ n1_ n2_ n3_; clear hb hbox hg; have hcz10_0 : w9.cell? ⟨gb185, 0, none⟩ = some (.bool a0_0) := (blk_cell BK185.out 0).trans rfl; have hcz10_1 : w9.cell? ⟨gb185, 1, none⟩ = some (.bool a0_1) := (blk_cell BK185.out 1).trans rfl; have hcz10_2 : w9.cell? ⟨gb185, 2, none⟩ = some (.slice A0_2 l0_2.length c0_2) := (blk_cell BK185.out 2).trans rfl; have hcz10_3 : w9.cell? ⟨gb185, 3, none⟩ = some (.slice A0_3 l0_3.length c0_3) := (blk_cell BK185.out 3).trans rfl; have hcz10_4 : w9.cell? ⟨gb185, 4, none⟩ = some (.slice A0_4 l0_4.length c0_4) := (blk_cell BK185.out 4).trans rfl; have hcz10_5 : w9.cell? ⟨gb185, 5, none⟩ = some (.slice A0_5 l0_5.length c0_5) := (blk_cell BK185.out 5).trans rfl; have hcz10_6 : w9.cell? ⟨gb185, 6, none⟩ = some (.bool a0_6) := (blk_cell BK185.out 6).trans rfl; have hcz10_7 : w9.cell? ⟨gb185, 7, none⟩ = some (.bool a0_7) := (blk_cell BK185.out 7).trans rfl; have hfz10_0 := blk_frozen BK185.out 0; have hfz10_1 := blk_frozen BK185.out 1; have hfz10_2 := blk_frozen BK185.out 2; have hfz10_3 := blk_frozen BK185.out 3; have hfz10_4 := blk_frozen BK185.out 4; have hfz10_5 := blk_frozen BK185.out 5; have hfz10_6 := blk_frozen BK185.out 6; have hfz10_7 := blk_frozen BK185.out 7) | (go_at_call 31; (with_reducible refine (slices_Contains_string_string.calls k _ _ l0_3 a1 false _ ?side1 ?side2 A3.out).mono ?_); (case side1 => repeat (first | exact (Kd.C_below HR0_3.out HB.out) | (with_reducible refine Kd.C_alloc ?_ _) | (with_reducible refine Kd.C_drewN ?_ _) | (with_reducible refine Kd.C_drew ?_))); (case side2 => exact HC0_3.out); rintro e w' ⟨rfl, ⟨nd, rfl⟩⟩; (try first | exact ⟨rfl, _, World.drewN_drewN _ _ _⟩ | exact ⟨rfl, _, Eq.trans (World.drewN_drewN _ _ _) (congrArg (World.drewN _) (Nat.add_assoc _ _ _))⟩)) | (go_at_call 31; (with_reducible refine (slices_Contains_string_string.calls k _ _ l0_2 a1 t187 _ ?side1 ?side2 A7.out).mono ?_); (case side1 => repeat (first | exact (Kd.C_below HR0_2.out (by repeat (first | (with_reducible first | exact HB.out | apply below_alloc | apply pw_below_drewN | apply below_drew1 | refine below_set ?_ GE185.out) | exact HB.out))) | (with_reducible refine Kd.C_alloc ?_ _) | (with_reducible refine Kd.C_drewN ?_ _) | (with_reducible refine Kd.C_drew ?_))); (case side2 => exact HC0_2.out); rintro e w' ⟨rfl, ⟨nd, rfl⟩⟩; (try first | exact ⟨rfl, _, World.drewN_drewN _ _ _⟩ | exact ⟨rfl, _, Eq.trans (World.drewN_drewN _ _ _) (congrArg (World.drewN _) (Nat.add_assoc _ _ _))⟩)))
   repeat (go_quiet (first | ((with_reducible refine gate_dst (N := 2) rfl ?_); refine box_event ?hg (N := 2) ?hd (cs := #[.bool a0_0, .bool a0_1, .slice A0_2 l0_2.length c0_2, .slice A0_3 l0_3.length c0_3, .slice A0_4 l0_4.length c0_4, .slice A0_5 l0_5.length c0_5, .bool a0_6, .bool a0_7]) (t := 25) ?hr ?_; (case hd => rfl); (case hg => rfl); (case hr => first | (go_simp; done) | (go_simp; rfl)); intro gb185 hg w9 hbox hb; have n0_ := Aside0.mk (below_step (by repeat (first | (with_reducible first | exact HB.out | apply below_alloc | apply pw_below_drewN | apply below_drew1) | exact HB.out)) hb); have n1_ := Aside0.mk (hbox); have n2_ := Aside0.mk ((by rw [hg]; exact (below_size (by repeat (first | (with_reducible first | exact HB.out | apply below_alloc | apply pw_below_drewN | apply below_drew1) | exact HB.out))) : w.heap.size ≤ gb185)); have n3_ := Aside0.mk ((by rw [hg]; exact (below_size (by repeat (first | (with_reducible first | exact HB.out | apply below_alloc | apply pw_below_drewN | apply below_drew1) | exact HB.out))) : w.heap.size ≤ gb185)); clear HB; have HB := n0_; have BK185 := n1_; have GW185 := n2_; have GE185 := n3_; clear n0_ n1_ n2_ n3_; clear hb hbox hg; have hcz10_0 : w9.cell? ⟨gb185, 0, none⟩ = some (.bool a0_0) := (blk_cell BK185.out 0).trans rfl; have hcz10_1 : w9.cell? ⟨gb185, 1, none⟩ = some (.bool a0_1) := (blk_cell BK185.out 1).trans rfl; have hcz10_2 : w9.cell? ⟨gb185, 2, none⟩ = some (.slice A0_2 l0_2.length c0_2) := (blk_cell BK185.out 2).trans rfl; have hcz10_3 : w9.cell? ⟨gb185, 3, none⟩ = some (.slice A0_3 l0_3.length c0_3) := (blk_cell BK185.out 3).trans rfl; have hcz10_4 : w9.cell? ⟨gb185, 4, none⟩ = some (.slice A0_4 l0_4.length c0_4) := (blk_cell BK185.out 4).trans rfl; have hcz10_5 : w9.cell? ⟨gb185, 5, none⟩ = some (.slice A0_5 l0_5.length c0_5) := (blk_cell BK185.out 5).trans rfl; have hcz10_6 : w9.cell? ⟨gb185, 6, none⟩ = some (.bool a0_6) := (blk_cell BK185.out 6).trans rfl; have hcz10_7 : w9.cell? ⟨gb185, 7, none⟩ = some (.bool a0_7) := (blk_cell BK185.out 7).trans rfl; have hfz10_0 := blk_frozen BK185.out 0; have hfz10_1 := blk_frozen BK185.out 1; have hfz10_2 := blk_frozen BK185.out 2; have hfz10_3 := blk_frozen BK185.out 3; have hfz10_4 := blk_frozen BK185.out 4; have hfz10_5 := blk_frozen BK185.out 5; have hfz10_6 := blk_frozen BK185.out 6; have hfz10_7 := blk_frozen BK185.out 7) | (go_at_call 31; (with_reducible refine (slices_Contains_string_string.calls k _ _ l0_3 a1 false _ ?side1 ?side2 A3.out).mono ?_); (case side1 => repeat (first | exact (Kd.C_below HR0_3.out HB.out) | (with_reducible refine Kd.C_alloc ?_ _) | (with_reducible refine Kd.C_drewN ?_ _) | (with_reducible refine Kd.C_drew ?_))); (case side2 => exact HC0_3.out); rintro e w' ⟨rfl, ⟨nd, rfl⟩⟩; (try first | exact ⟨rfl, _, World.drewN_drewN _ _ _⟩ | exact ⟨rfl, _, Eq.trans (World.drewN_drewN _ _ _) (congrArg (World.drewN _) (Nat.add_assoc _ _ _))⟩)) | (go_at_call 31; (with_reducible refine (slices_Contains_string_string.calls k _ _ l0_2 a1 t187 _ ?side1 ?side2 A7.out).mono ?_); (case side1 => repeat (first | exact (Kd.C_below HR0_2.out (by repeat (first | (with_reducible first | exact HB.out | apply below_alloc | apply pw_below_drewN | apply below_drew1 | refine below_set ?_ GE185.out) | exact HB.out))) | (with_reducible refine Kd.C_alloc ?_ _) | (with_reducible refine Kd.C_drewN ?_ _) | (with_reducible refine Kd.C_drew ?_))); (case side2 => exact HC0_2.out); rintro e w' ⟨rfl, ⟨nd, rfl⟩⟩; (try first | exact ⟨rfl, _, World.drewN_drewN _ _ _⟩ | exact ⟨rfl, _, Eq.trans (World.drewN_drewN _ _ _) (congrArg (World.drewN _) (Nat.add_assoc _ _ _))⟩))); try go_wp2_with (first | ((with_reducible refine gate_dst (N := 2) rfl ?_); refine box_event ?hg (N := 2) ?hd (cs := #[.bool a0_0, .bool a0_1, .slice A0_2 l0_2.length c0_2, .slice A0_3 l0_3.length c0_3, .slice A0_4 l0_4.length c0_4, .slice A0_5 l0_5.length c0_5, .bool a0_6, .bool a0_7]) (t := 25) ?hr ?_; (case hd => rfl); (case hg => rfl); (case hr => first | (go_simp; done) | (go_simp; rfl)); intro gb185 hg w9 hbox hb; have n0_ := Aside0.mk (below_step (by repeat (first | (with_reducible first | exact HB.out | apply below_alloc | apply pw_below_drewN | apply below_drew1) | exact HB.out)) hb); have n1_ := Aside0.mk (hbox); have n2_ := Aside0.mk ((by rw [hg]; exact (below_size (by repeat (first | (with_reducible first | exact HB.out | apply below_alloc | apply pw_below_drewN | apply below_drew1) | exact HB.out))) : w.heap.size ≤ gb185)); have n3_ := Aside0.mk ((by rw [hg]; exact (below_size (by repeat (first | (with_reducible first | exact HB.out | apply below_alloc | apply pw_below_drewN | apply below_drew1) | exact HB.out))) : w.heap.size ≤ gb185)); clear HB; have HB := n0_; have BK185 := n1_; have GW185 := n2_; have GE185 := n3_; clear n0_ n1_ n2_ n3_; clear hb hbox hg; have hcz10_0 : w9.cell? ⟨gb185, 0, none⟩ = some (.bool a0_0) := (blk_cell BK185.out 0).trans rfl; have hcz10_1 : w9.cell? ⟨gb185, 1, none⟩ = some (.bool a0_1) := (blk_cell BK185.out 1).trans rfl; have hcz10_2 : w9.cell? ⟨gb185, 2, none⟩ = some (.slice A0_2 l0_2.length c0_2) := (blk_cell BK185.out 2).trans rfl; have hcz10_3 : w9.cell? ⟨gb185, 3, none⟩ = some (.slice A0_3 l0_3.length c0_3) := (blk_cell BK185.out 3).trans rfl; have hcz10_4 : w9.cell? ⟨gb185, 4, none⟩ = some (.slice A0_4 l0_4.length c0_4) := (blk_cell BK185.out 4).trans rfl; have hcz10_5 : w9.cell? ⟨gb185, 5, none⟩ = some (.slice A0_5 l0_5.length c0_5) := (blk_cell BK185.out 5).trans rfl; have hcz10_6 : w9.cell? ⟨gb185, 6, none⟩ = some (.bool a0_6) := (blk_cell BK185.out 6).trans rfl; have hcz10_7 : w9.cell? ⟨gb185, 7, none⟩ = some (.bool a0_7) := (blk_cell BK185.out 7).trans rfl; have hfz10_0 := blk_frozen BK185.out 0; have hfz10_1 := blk_frozen BK185.out 1; have hfz10_2 := blk_frozen BK185.out 2; have hfz10_3 := blk_frozen BK185.out 3; have hfz10_4 := blk_frozen BK185.out 4; have hfz10_5 := blk_frozen BK185.out 5; have hfz10_6 := blk_frozen BK185.out 6; have hfz10_7 := blk_frozen BK185.out 7) | (go_at_call 31; (with_reducible refine (slices_Contains_string_string.calls k _ _ l0_3 a1 false _ ?side1 ?side2 A3.out).mono ?_); (case side1 => repeat (first | exact (Kd.C_below HR0_3.out HB.out) | (with_reducible refine Kd.C_alloc ?_ _) | (with_reducible refine Kd.C_drewN ?_ _) | (with_reducible refine Kd.C_drew ?_))); (case side2 => exact HC0_3.out); rintro e w' ⟨rfl, ⟨nd, rfl⟩⟩; (try first | exact ⟨rfl, _, World.drewN_drewN _ _ _⟩ | exact ⟨rfl, _, Eq.trans (World.drewN_drewN _ _ _) (congrArg (World.drewN _) (Nat.add_assoc _ _ _))⟩)) | (go_at_call 31; (with_reducible refine (slices_Contains_string_string.calls k _ _ l0_2 a1 t187 _ ?side1 ?side2 A7.out).mono ?_); (case side1 => repeat (first | exact (Kd.C_below HR0_2.out (by repeat (first | (with_reducible first | exact HB.out | apply below_alloc | apply pw_below_drewN | apply below_drew1 | refine below_set ?_ GE185.out) | exact HB.out))) | (with_reducible refine Kd.C_alloc ?_ _) | (with_reducible refine Kd.C_drewN ?_ _) | (with_reducible refine Kd.C_drew ?_))); (case side2 => exact HC0_2.out); rintro e w' ⟨rfl, ⟨nd, rfl⟩⟩; (try first | exact ⟨rfl, _, World.drewN_drewN _ _ _⟩ | exact ⟨rfl, _, Eq.trans (World.drewN_drewN _ _ _) (congrArg (World.drewN _) (Nat.add_assoc _ _ _))⟩))))
   go_ret
   exact ⟨by first | rfl | (simp [errW_none, errW_some] <;> rfl) | (simp [*, errW_none, errW_some] <;> rfl), by repeat (first | (with_reducible first | exact HB.out | apply below_alloc | apply pw_below_drewN | apply below_drew1 | refine below_set ?_ GE185.out) | exact HB.out)⟩
  ·rw [if_neg c8] at H
   have c8b0 : (t187 != a0_0) = false := by simpa using c8
   (try (have c8b1 : decide (t187 = a0_0) = true := by simpa using c8))
   (try (have c8b2 : (t187 == a0_0) = true := by simpa using c8))
   clear c8
   obtain rfl := Option.some.inj H
   go_enter Try.func13, Try.ntmps13
   go_wp2_with (first | ((with_reducible refine gate_dst (N := 2) rfl ?_); refine box_event ?hg (N := 2) ?hd (cs := #[.bool a0_0, .bool a0_1, .slice A0_2 l0_2.length c0_2, .slice A0_3 l0_3.length c0_3, .slice A0_4 l0_4.length c0_4, .slice A0_5 l0_5.length c0_5, .bool a0_6, .bool a0_7]) (t := 25) ?hr ?_; (case hd => rfl); (case hg => rfl); (case hr => first | (go_simp; done) | (go_simp; rfl)); intro gb185 hg w11 hbox hb; have n0_ := Aside0.mk (below_step (by repeat (first | (with_reducible first | exact HB.out | apply below_alloc | apply pw_below_drewN | apply below_drew1) | exact HB.out)) hb); have n1_ := Aside0.mk (hbox); have n2_ := Aside0.mk ((by rw [hg]; exact (below_size (by repeat (first | (with_reducible first | exact HB.out | apply below_alloc | apply pw_below_drewN | apply below_drew1) | exact HB.out))) : w.heap.size ≤ gb185)); have n3_ := Aside0.mk ((by rw [hg]; exact (below_size (by repeat (first | (with_reducible first | exact HB.out | apply below_alloc | apply pw_below_drewN | apply below_drew1) | exact HB.out))) : w.heap.size ≤ gb185)); clear HB; have HB := n0_; have BK185 := n1_; have GW185 := n2_; have GE185 := n3_; clear n0_ n1_ n2_ n3_; clear hb hbox hg; have hcz12_0 : w11.cell? ⟨gb185, 0, none⟩ = some (.bool a0_0) := (blk_cell BK185.out 0).trans rfl; have hcz12_1 : w11.cell? ⟨gb185, 1, none⟩ = some (.bool a0_1) := (blk_cell BK185.out 1).trans rfl; have hcz12_2 : w11.cell? ⟨gb185, 2, none⟩ = some (.slice A0_2 l0_2.length c0_2) := (blk_cell BK185.out 2).trans rfl; have hcz12_3 : w11.cell? ⟨gb185, 3, none⟩ = some (.slice A0_3 l0_3.length c0_3) := (blk_cell BK185.out 3).trans rfl; have hcz12_4 : w11.cell? ⟨gb185, 4, none⟩ = some (.slice A0_4 l0_4.length c0_4) := (blk_cell BK185.out 4).trans rfl; have hcz12_5 : w11.cell? ⟨gb185, 5, none⟩ = some (.slice A0_5 l0_5.length c0_5) := (blk_cell BK185.out 5).trans rfl; have hcz12_6 : w11.cell? ⟨gb185, 6, none⟩ = some (.bool a0_6) := (blk_cell BK185.out 6).trans rfl; have hcz12_7 : w11.cell? ⟨gb185, 7, none⟩ = some (.bool a0_7) := (blk_cell BK185.out 7).trans rfl; have hfz12_0 := blk_frozen BK185.out 0; have hfz12_1 := blk_frozen BK185.out 1; have hfz12_2 := blk_frozen BK185.out 2; have hfz12_3 := blk_frozen BK185.out 3; have hfz12_4 := blk_frozen BK185.out 4; have hfz12_5 := blk_frozen BK185.out 5; have hfz12_6 := blk_frozen BK185.out 6; have hfz12_7 := blk_frozen BK185.out 7) | (go_at_call 31; (with_reducible refine (slices_Contains_string_string.calls k _ _ l0_3 a1 false _ ?side1 ?side2 A3.out).mono ?_); (case side1 => repeat (first | exact (Kd.C_below HR0_3.out HB.out) | (with_reducible refine Kd.C_alloc ?_ _) | (with_reducible refine Kd.C_drewN ?_ _) | (with_reducible refine Kd.C_drew ?_))); (case side2 => exact HC0_3.out); rintro e w' ⟨rfl, ⟨nd, rfl⟩⟩; (try first | exact ⟨rfl, _, World.drewN_drewN _ _ _⟩ | exact ⟨rfl, _, Eq.trans (World.drewN_drewN _ _ _) (congrArg (World.drewN _) (Nat.add_assoc _ _ _))⟩)) | (go_at_call 31; (with_reducible refine (slices_Contains_string_string.calls k _ _ l0_2 a1 t187 _ ?side1 ?side2 A7.out).mono ?_); (case side1 => repeat (first | exact (Kd.C_below HR0_2.out (by repeat (first | (with_reducible first | exact HB.out | apply below_alloc | apply pw_below_drewN | apply below_drew1 | refine below_set ?_ GE185.out) | exact HB.out))) | (with_reducible refine Kd.C_alloc ?_ _) | (with_reducible refine Kd.C_drewN ?_ _) | (with_reducible refine Kd.C_drew ?_))); (case side2 => exact HC0_2.out); rintro e w' ⟨rfl, ⟨nd, rfl⟩⟩; (try first | exact ⟨rfl, _, World.drewN_drewN _ _ _⟩ | exact ⟨rfl, _, Eq.trans (World.drewN_drewN _ _ _) (congrArg (World.drewN _) (Nat.add_assoc _ _ _))⟩)))
   repeat (go_quiet (first | ((with_reducible refine gate_dst (N := 2) rfl ?_); refine box_event ?hg (N := 2) ?hd (cs := #[.bool a0_0, .bool a0_1, .slice A0_2 l0_2.length c0_2, .slice A0_3 l0_3.length c0_3, .slice A0_4 l0_4.length c0_4, .slice A0_5 l0_5.length c0_5, .bool a0_6, .bool a0_7]) (t := 25) ?hr ?_; (case hd => rfl); (case hg => rfl); (case hr => first | (go_simp; done) | (go_simp; rfl)); intro gb185 hg w11 hbox hb; have n0_ := Aside0.mk (below_step (by repeat (first | (with_reducible first | exact HB.out | apply below_alloc | apply pw_below_drewN | apply below_drew1) | exact HB.out)) hb); have n1_ := Aside0.mk (hbox); have n2_ := Aside0.mk ((by rw [hg]; exact (below_size (by repeat (first | (with_reducible first | exact HB.out | apply below_alloc | apply pw_below_drewN | apply below_drew1) | exact HB.out))) : w.heap.size ≤ gb185)); have n3_ := Aside0.mk ((by rw [hg]; exact (below_size (by repeat (first | (with_reducible first | exact HB.out | apply below_alloc | apply pw_below_drewN | apply below_drew1) | exact HB.out))) : w.heap.size ≤ gb185)); clear HB; have HB := n0_; have BK185 := n1_; have GW185 := n2_; have GE185 := n3_; clear n0_ n1_ n2_ n3_; clear hb hbox hg; have hcz12_0 : w11.cell? ⟨gb185, 0, none⟩ = some (.bool a0_0) := (blk_cell BK185.out 0).trans rfl; have hcz12_1 : w11.cell? ⟨gb185, 1, none⟩ = some (.bool a0_1) := (blk_cell BK185.out 1).trans rfl; have hcz12_2 : w11.cell? ⟨gb185, 2, none⟩ = some (.slice A0_2 l0_2.length c0_2) := (blk_cell BK185.out 2).trans rfl; have hcz12_3 : w11.cell? ⟨gb185, 3, none⟩ = some (.slice A0_3 l0_3.length c0_3) := (blk_cell BK185.out 3).trans rfl; have hcz12_4 : w11.cell? ⟨gb185, 4, none⟩ = some (.slice A0_4 l0_4.length c0_4) := (blk_cell BK185.out 4).trans rfl; have hcz12_5 : w11.cell? ⟨gb185, 5, none⟩ = some (.slice A0_5 l0_5.length c0_5) := (blk_cell BK185.out 5).trans rfl; have hcz12_6 : w11.cell? ⟨gb185, 6, none⟩ = some (.bool a0_6) := (blk_cell BK185.out 6).trans rfl; have hcz12_7 : w11.cell? ⟨gb185, 7, none⟩ = some (.bool a0_7) := (blk_cell BK185.out 7).trans rfl; have hfz12_0 := blk_frozen BK185.out 0; have hfz12_1 := blk_frozen BK185.out 1; have hfz12_2 := blk_frozen BK185.out 2; have hfz12_3 := blk_frozen BK185.out 3; have hfz12_4 := blk_frozen BK185.out 4; have hfz12_5 := blk_frozen BK185.out 5; have hfz12_6 := blk_frozen BK185.out 6; have hfz12_7 := blk_frozen BK185.out 7) | (go_at_call 31; (with_reducible refine (slices_Contains_string_string.calls k _ _ l0_3 a1 false _ ?side1 ?side2 A3.out).mono ?_); (case side1 => repeat (first | exact (Kd.C_below HR0_3.out HB.out) | (with_reducible refine Kd.C_alloc ?_ _) | (with_reducible refine Kd.C_drewN ?_ _) | (with_reducible refine Kd.C_drew ?_))); (case side2 => exact HC0_3.out); rintro e w' ⟨rfl, ⟨nd, rfl⟩⟩; (try first | exact ⟨rfl, _, World.drewN_drewN _ _ _⟩ | exact ⟨rfl, _, Eq.trans (World.drewN_drewN _ _ _) (congrArg (World.drewN _) (Nat.add_assoc _ _ _))⟩)) | (go_at_call 31; (with_reducible refine (slices_Contains_string_string.calls k _ _ l0_2 a1 t187 _ ?side1 ?side2 A7.out).mono ?_); (case side1 => repeat (first | exact (Kd.C_below HR0_2.out (by repeat (first | (with_reducible first | exact HB.out | apply below_alloc | apply pw_below_drewN | apply below_drew1 | refine below_set ?_ GE185.out) | exact HB.out))) | (with_reducible refine Kd.C_alloc ?_ _) | (with_reducible refine Kd.C_drewN ?_ _) | (with_reducible refine Kd.C_drew ?_))); (case side2 => exact HC0_2.out); rintro e w' ⟨rfl, ⟨nd, rfl⟩⟩; (try first | exact ⟨rfl, _, World.drewN_drewN _ _ _⟩ | exact ⟨rfl, _, Eq.trans (World.drewN_drewN _ _ _) (congrArg (World.drewN _) (Nat.add_assoc _ _ _))⟩))); try go_wp2_with (first | ((with_reducible refine gate_dst (N := 2) rfl ?_); refine box_event ?hg (N := 2) ?hd (cs := #[.bool a0_0, .bool a0_1, .slice A0_2 l0_2.length c0_2, .slice A0_3 l0_3.length c0_3, .slice A0_4 l0_4.length c0_4, .slice A0_5 l0_5.length c0_5, .bool a0_6, .bool a0_7]) (t := 25) ?hr ?_; (case hd => rfl); (case hg => rfl); (case hr => first | (go_simp; done) | (go_simp; rfl)); intro gb185 hg w11 hbox hb; have n0_ := Aside0.mk (below_step (by repeat (first | (with_reducible first | exact HB.out | apply below_alloc | apply pw_below_drewN | apply below_drew1) | exact HB.out)) hb); have n1_ := Aside0.mk (hbox); have n2_ := Aside0.mk ((by rw [hg]; exact (below_size (by repeat (first | (with_reducible first | exact HB.out | apply below_alloc | apply pw_below_drewN | apply below_drew1) | exact HB.out))) : w.heap.size ≤ gb185)); have n3_ := Aside0.mk ((by rw [hg]; exact (below_size (by repeat (first | (with_reducible first | exact HB.out | apply below_alloc | apply pw_below_drewN | apply below_drew1) | exact HB.out))) : w.heap.size ≤ gb185)); clear HB; have HB := n0_; have BK185 := n1_; have GW185 := n2_; have GE185 := n3_; clear n0_ n1_ n2_ n3_; clear hb hbox hg; have hcz12_0 : w11.cell? ⟨gb185, 0, none⟩ = some (.bool a0_0) := (blk_cell BK185.out 0).trans rfl; have hcz12_1 : w11.cell? ⟨gb185, 1, none⟩ = some (.bool a0_1) := (blk_cell BK185.out 1).trans rfl; have hcz12_2 : w11.cell? ⟨gb185, 2, none⟩ = some (.slice A0_2 l0_2.length c0_2) := (blk_cell BK185.out 2).trans rfl; have hcz12_3 : w11.cell? ⟨gb185, 3, none⟩ = some (.slice A0_3 l0_3.length c0_3) := (blk_cell BK185.out 3).trans rfl; have hcz12_4 : w11.cell? ⟨gb185, 4, none⟩ = some (.slice A0_4 l0_4.length c0_4) := (blk_cell BK185.out 4).trans rfl; have hcz12_5 : w11.cell? ⟨gb185, 5, none⟩ = some (.slice A0_5 l0_5.length c0_5) := (blk_cell BK185.out 5).trans rfl; have hcz12_6 : w11.cell? ⟨gb185, 6, none⟩ = some (.bool a0_6) := (blk_cell BK185.out 6).trans rfl; have hcz12_7 : w11.cell? ⟨gb185, 7, none⟩ = some (.bool a0_7) := (blk_cell BK185.out 7).trans rfl; have hfz12_0 := blk_frozen BK185.out 0; have hfz12_1 := blk_frozen BK185.out 1; have hfz12_2 := blk_frozen BK185.out 2; have hfz12_3 := blk_frozen BK185.out 3; have hfz12_4 := blk_frozen BK185.out 4; have hfz12_5 := blk_frozen BK185.out 5; have hfz12_6 := blk_frozen BK185.out 6; have hfz12_7 := blk_frozen BK185.out 7) | (go_at_call 31; (with_reducible refine (slices_Contains_string_string.calls k _ _ l0_3 a1 false _ ?side1 ?side2 A3.out).mono ?_); (case side1 => repeat (first | exact (Kd.C_below HR0_3.out HB.out) | (with_reducible refine Kd.C_alloc ?_ _) | (with_reducible refine Kd.C_drewN ?_ _) | (with_reducible refine Kd.C_drew ?_))); (case side2 => exact HC0_3.out); rintro e w' ⟨rfl, ⟨nd, rfl⟩⟩; (try first | exact ⟨rfl, _, World.drewN_drewN _ _ _⟩ | exact ⟨rfl, _, Eq.trans (World.drewN_drewN _ _ _) (congrArg (World.drewN _) (Nat.add_assoc _ _ _))⟩)) | (go_at_call 31; (with_reducible refine (slices_Contains_string_string.calls k _ _ l0_2 a1 t187 _ ?side1 ?side2 A7.out).mono ?_); (case side1 => repeat (first | exact (Kd.C_below HR0_2.out (by repeat (first | (with_reducible first | exact HB.out | apply below_alloc | apply pw_below_drewN | apply below_drew1 | refine below_set ?_ GE185.out) | exact HB.out))) | (with_reducible refine Kd.C_alloc ?_ _) | (with_reducible refine Kd.C_drewN ?_ _) | (with_reducible refine Kd.C_drew ?_))); (case side2 => exact HC0_2.out); rintro e w' ⟨rfl, ⟨nd, rfl⟩⟩; (try first | exact ⟨rfl, _, World.drewN_drewN _ _ _⟩ | exact ⟨rfl, _, Eq.trans (World.drewN_drewN _ _ _) (congrArg (World.drewN _) (Nat.add_assoc _ _ _))⟩))))
   go_ret
   exact ⟨by first | rfl | (simp [errW_none, errW_some] <;> rfl) | (simp [*, errW_none, errW_some] <;> rfl), by repeat (first | (with_reducible first | exact HB.out | apply below_alloc | apply pw_below_drewN | apply below_drew1 | refine below_set ?_ GE185.out) | exact HB.out)⟩

end Go.Proofs.Ytjofofpplpmgjaa.Pr
namespace Go.Proofs.Ytjofofpplpmgjaa.Pr
open Go.RowKit Go.Proofs.YtjofofpplpmgjaaW.PrintWords Go.Proofs.YtjofofpplpmgjaaW.PrintLast Go.Proofs.YtjofofpplpmgjaaW.PrintMore
attribute [local go_sem] max2_int min2_int max_two min_two max_three min_three max_four min_four   -- for this text's walks alone
set_option linter.unusedVariables false
set_option linter.unusedSimpArgs false

def boltingref12_Element.f (k : Nat) (a0_0 : Bool) (a0_1 : Bool) (l0_2 : List ByteArray) (l0_3 : List ByteArray) (l0_4 : List ByteArray) (l0_5 : List (S35)) (a0_6 : Bool) (a0_7 : Bool) (a1 : ByteArray) : Option (Int) := (boltingref02_Has.f k l0_3 a1).bind fun t459 => (if t459 = true then (some 2) else ((boltingref02_Has.f k l0_2 a1).bind fun t460 => (if (t460 == a0_0) = true then (some 0) else (some 1))))
def boltingref12_Attr.l0 : Nat → ByteArray → ByteArray → Bool → Int → Bool → Bool → List ByteArray → List ByteArray → List ByteArray → List (S35) → Bool → Bool → Option (Bool)
 | 0, _, _, _, _, _, _, _, _, _, _, _, _ => none
 | k + 1, x1, x2, x7, x8, x462000, x462001, x462002, x462003, x462004, x462005, x462006, x462007 => if x8 < (x462005.length : Int) then (if x7 = true then (boltingref12_Attr.l0 k x1 x2 true (wrap64 (x8 + 1)) x462000 x462001 x462002 x462003 x462004 x462005 x462006 x462007) else (if 0 ≤ x8 then (if ((rd_T35 x462005 x8).f0).toList = x1.toList then ((boltingref02_Has.f k ((rd_T35 x462005 x8).f1) x2).bind fun t465 => (boltingref12_Attr.l0 k x1 x2 t465 (wrap64 (x8 + 1)) x462000 x462001 x462002 x462003 x462004 x462005 x462006 x462007)) else (boltingref12_Attr.l0 k x1 x2 false (wrap64 (x8 + 1)) x462000 x462001 x462002 x462003 x462004 x462005 x462006 x462007)) else (none))) else (if x462001 = true then (if x7 = true then (some true) else (if x462007 = true then (if (x2.size : Int) > 5 then (if 0 ≤ 5 then (if 5 ≤ (x2.size : Int) then (some ((x2.extract 0 5).toList == ([100, 97, 116, 97, 45] : List UInt8))) else (none)) else (none)) else (some false)) else (some false))) else (some (!x7)))
def boltingref12_Attr.f (k : Nat) (a0_0 : Bool) (a0_1 : Bool) (l0_2 : List ByteArray) (l0_3 : List ByteArray) (l0_4 : List ByteArray) (l0_5 : List (S35)) (a0_6 : Bool) (a0_7 : Bool) (a1 : ByteArray) (a2 : ByteArray) : Option (Bool) := (boltingref02_Has.f k l0_4 a2).bind fun t462 => (boltingref12_Attr.l0 k a1 a2 t462 0 a0_0 a0_1 l0_2 l0_3 l0_4 l0_5 a0_6 a0_7)
end Go.Proofs.Ytjofofpplpmgjaa.Pr
namespace Go.Proofs.Ytjofofpplpmgjaa.Pr
open Go.RowKit Go.Proofs.YtjofofpplpmgjaaW.PrintWords Go.Proofs.YtjofofpplpmgjaaW.PrintLast Go.Proofs.YtjofofpplpmgjaaW.PrintMore
attribute [local go_sem] max2_int min2_int max_two min_two max_three min_three max_four min_four   -- for this text's walks alone
set_option linter.unusedVariables false
set_option linter.unusedSimpArgs false

def boltingref02_Is.l0 : Nat → List ByteArray → Int → Option (Bool)
  | 0, _, _ => none
  | k + 1, x0, x3 => if x3 < (x0.length : Int) then (if 0 ≤ (wrap64 (x3 - 1)) then (if (wrap64 (x3 - 1)) < (x0.length : Int) then (if 0 ≤ x3 then (if ((Op.bytesLess ((rdOf ByteArray.empty x0 (wrap64 (x3 - 1))).toList) ((rdOf ByteArray.empty x0 x3).toList)) = true) then (boltingref02_Is.l0 k x0 (wrap64 (x3 + 1))) else (some false)) else (none)) else (none)) else (none)) else (some true)
def boltingref02_Is.f (k : Nat) (l0 : List ByteArray) : Option (Bool) := boltingref02_Is.l0 k l0 1
set_option maxHeartbeats 8000000 in
set_option maxRecDepth 100000 in
theorem boltingref02_Is.calls (k : Nat) (A0 : Option Addr) (c0 : Nat) (l0 : List ByteArray) (r : Bool) (w : World) (hr0 : Kd.C Kd.string w A0 l0.length l0) (hc0 : l0.length ≤ c0) (h : boltingref02_Is.f k l0 = some r) :
    Calls Try.prog 27 #[.slice A0 l0.length c0] w fun e w' => e = .returned (.bool r) ∧ Drawn0 w w' := by
  have HR0 := Aside0.mk hr0
  have HC0 := Aside0.mk hc0
  clear hr0 hc0
  have H : (boltingref02_Is.l0 k l0 1) = some r := h
  clear h
  have H' := Aside0.mk H
  clear H
  go_enter Try.func27, Try.ntmps27
  go_wp2
  repeat (go_quiet (fail); try go_wp2)
  go_loopg [3] k (fun kq v3 w' => ∃ (x3_1 : Int), v3 = .int .i64 x3_1 ∧ Aside0 (boltingref02_Is.l0 kq l0 x3_1 = some r) ∧ Aside0 (kq ≤ k) ∧ Drawn0 w w')
  case atStart => exact ⟨(1), (by first | rfl | (simp; done) | (simp [*]; done)), H', ⟨Nat.le_refl _⟩, by repeat (first | exact Drawn0.refl _ | apply Drawn0.step)⟩
  case round =>
    clear H'
    obtain ⟨x3_1, rfl, HA, HK1, ⟨m1, rfl⟩⟩ := hrel
    cases gk with
    | zero => exact absurd HA.out (by simp [boltingref02_Is.l0])
    | succ k1 =>
      have H := HA.out
      clear HA
      simp only [boltingref02_Is.l0] at H
      by_cases c2 : x3_1 < (l0.length : Int)
      · rw [if_pos c2] at H
        have c2b0 : decide (x3_1 < (l0.length : Int)) = true := decide_eq_true c2
        clear c2
        obtain ⟨ji3, hji3⟩ : ∃ j_ : Int, (wrap64 (x3_1 - 1)) = j_ := ⟨_, rfl⟩
        replace H : (if 0 ≤ (ji3) then (if (ji3) < (l0.length : Int) then (if 0 ≤ x3_1 then (if ((Op.bytesLess ((rdOf ByteArray.empty l0 (ji3)).toList) ((rdOf ByteArray.empty l0 x3_1).toList)) = true) then (boltingref02_Is.l0 k1 l0 (wrap64 (x3_1 + 1))) else (some false)) else (none)) else (none)) else (none)) = some r := by first | (rw [hji3] at H; exact H) | (simp only [hji3] at H ⊢; exact H)
        have hji3w : (IntKind.i64.wrap (x3_1 - 1)) = ji3 := (i64_w _).trans hji3
        by_cases c4 : 0 ≤ (ji3)
        · rw [if_pos c4] at H
          have c4b0 : decide (0 ≤ (ji3)) = true := decide_eq_true c4
          clear c4
          by_cases c5 : (ji3) < (l0.length : Int)
          · rw [if_pos c5] at H
            have c5b0 : decide ((ji3) < (l0.length : Int)) = true := decide_eq_true c5
            clear c5
            by_cases c6 : 0 ≤ x3_1
            · rw [if_pos c6] at H
              have c6b0 : decide (0 ≤ x3_1) = true := decide_eq_true c6
              clear c6
              by_cases c7 : ((Op.bytesLess ((rdOf ByteArray.empty l0 (ji3)).toList) ((rdOf ByteArray.empty l0 x3_1).toList)) = true)
              · rw [if_pos c7] at H
                have c7b0 : (Op.bytesLess ((rdOf ByteArray.empty l0 (ji3)).toList) ((rdOf ByteArray.empty l0 x3_1).toList)) = true := c7
                clear c7
                have H' := Aside0.mk H
                clear H
                have p488 : 0 ≤ ((ji3) : Int) := of_decide_eq_true (by first | (with_reducible assumption) | assumption)
                have q488 : (ji3) < (l0.length : Int) := of_decide_eq_true (by first | (with_reducible assumption) | assumption)
                obtain ⟨ad488, e488, hx488_0⟩ := Kd.at_string HR0.out (ji3) p488 q488
                cases e488
                replace p488 := eq_true p488
                replace q488 := eq_true q488
                have p489 : 0 ≤ (x3_1 : Int) := of_decide_eq_true (by first | (with_reducible assumption) | assumption)
                have q489 : x3_1 < (l0.length : Int) := of_decide_eq_true (by first | (with_reducible assumption) | assumption)
                obtain ⟨ad489, e489, hx489_0⟩ := Kd.at_string HR0.out x3_1 p489 q489
                obtain rfl : ad488 = ad489 := (by injection e489)
                replace p489 := eq_true p489
                replace q489 := eq_true q489
                go_wp2
                repeat (go_quiet (fail); try go_wp2)
                go_roundg k1
                case measure => have := HK1.out; omega
                case rel => exact ⟨(wrap64 (x3_1 + 1)), (by first | rfl | (simp; done) | (simp [*]; done)), H', ⟨by have := HK1.out; omega⟩, by repeat (first | exact Drawn0.refl _ | apply Drawn0.step)⟩
              · rw [if_neg c7] at H
                have c7b0 : (Op.bytesLess ((rdOf ByteArray.empty l0 (ji3)).toList) ((rdOf ByteArray.empty l0 x3_1).toList)) = false := by simpa using c7
                clear c7
                obtain rfl := Option.some.inj H
                have p488 : 0 ≤ ((ji3) : Int) := of_decide_eq_true (by first | (with_reducible assumption) | assumption)
                have q488 : (ji3) < (l0.length : Int) := of_decide_eq_true (by first | (with_reducible assumption) | assumption)
                obtain ⟨ad488, e488, hx488_0⟩ := Kd.at_string HR0.out (ji3) p488 q488
                cases e488
                replace p488 := eq_true p488
                replace q488 := eq_true q488
                have p489 : 0 ≤ (x3_1 : Int) := of_decide_eq_true (by first | (with_reducible assumption) | assumption)
                have q489 : x3_1 < (l0.length : Int) := of_decide_eq_true (by first | (with_reducible assumption) | assumption)
                obtain ⟨ad489, e489, hx489_0⟩ := Kd.at_string HR0.out x3_1 p489 q489
                obtain rfl : ad488 = ad489 := (by injection e489)
                replace p489 := eq_true p489
                replace q489 := eq_true q489
                go_wp2
                repeat (go_quiet (fail); try go_wp2)
                go_ret
                exact ⟨by first | rfl | (simp; done) | (simp only [← hji3] <;> (first | rfl | simp)) | (simp [*]; done) | (simp; generalize ByteArray.toList _ = l_; cases l_ <;> rfl), by repeat (first | exact Drawn0.refl _ | apply Drawn0.step)⟩
            · rw [if_neg c6] at H
              exact absurd H (by simp)
          · rw [if_neg c5] at H
            exact absurd H (by simp)
        · rw [if_neg c4] at H
          exact absurd H (by simp)
      · rw [if_neg c2] at H
        have c2b0 : decide (x3_1 < (l0.length : Int)) = false := decide_eq_false c2
        clear c2
        obtain rfl := Option.some.inj H
        go_wp2
        repeat (go_quiet (fail); try go_wp2)
        go_ret
        exact ⟨by first | rfl | (simp; done) | (simp [*]; done) | (simp; generalize ByteArray.toList _ = l_; cases l_ <;> rfl), by repeat (first | exact Drawn0.refl _ | apply Drawn0.step)⟩

end Go.Proofs.Ytjofofpplpmgjaa.Pr
namespace Go.Proofs.Ytjofofpplpmgjaa.Pure
set_option linter.unusedVariables false
set_option linter.unusedSimpArgs false
open Go.RowKit Go.Lib Go.Shelf Go.Proofs.YtjofofpplpmgjaaW.PrintWords Go.Proofs.YtjofofpplpmgjaaW.PrintLast Go.Proofs.YtjofofpplpmgjaaW.PrintMore Go.Proofs.Ytjofofpplpmgjaa.Pr

structure Cf where
  al : Bool
  aal : Bool
  els : List ByteArray
  rep : List ByteArray
  ats : List ByteArray
  per : List S35
  com : Bool
  dt : Bool
def Sl {α : Type} (d : Kd α) (w : World) (v : Value) (xs : List α) : Prop := ∃ A c, v = .slice A xs.length c ∧ xs.length ≤ c ∧ d.C w A xs.length xs
theorem Sl.below {α : Type} {d : Kd α} {w w' : World} {v : Value} {xs : List α} (h : Sl d w v xs) (hb : Below w.heap.size w w') : Sl d w' v xs := by
  obtain ⟨A, c, rfl, hl, hC⟩ := h
  exact ⟨A, c, rfl, hl, Kd.C_below hC hb⟩
theorem Sl.of_R {α : Type} {d : Kd α} {e : Nat} {w : World} {b : Nat} {ok : Nat → Prop} {v : Value} {xs : List α} (h : d.R e w b ok v xs) : Sl d w v xs := Kd.R_reads h
theorem Sl.nil {α : Type} (d : Kd α) (w : World) : Sl d w (.slice none 0 0) [] := ⟨none, 0, rfl, Nat.le_refl _, Kd.C_nil d w⟩
def CfV (w : World) (v : Value) (c : Cf) : Prop := ∃ v2 v3 v4 v5, v = .agg #[.bool c.al, .bool c.aal, v2, v3, v4, v5, .bool c.com, .bool c.dt] ∧ Sl Kd.string w v2 c.els ∧ Sl Kd.string w v3 c.rep ∧ Sl Kd.string w v4 c.ats ∧ Sl k35 w v5 c.per
theorem CfV.below {w w' : World} {v : Value} {c : Cf} (h : CfV w v c) (hb : Below w.heap.size w w') : CfV w' v c := by
  obtain ⟨v2, v3, v4, v5, hv, h2, h3, h4, h5⟩ := h
  exact ⟨v2, v3, v4, v5, hv, h2.below hb, h3.below hb, h4.below hb, h5.below hb⟩
structure Fit (c : Cf) : Prop where
  els : c.els.length ≤ 1000
  rep : c.rep.length ≤ 1000
  ats : c.ats.length ≤ 1000
  per : c.per.length ≤ 1000
  sub : ∀ p ∈ c.per, p.f1.length ≤ 1000
theorem drawn_below {w w' : World} (h : Drawn0 w w') : Below w.heap.size w w' := by
  obtain ⟨n, rfl⟩ := h
  exact pw_below_drewN (Below.refl _ _) n

def elemI (c : Cf) (n : ByteArray) : Int := if mem c.rep n = true then 2 else if (mem c.els n != c.al) = true then 1 else 0
theorem elem_f {c : Cf} (hf : Fit c) (n : ByteArray) : config_Element.f 2000 c.al c.aal c.els c.rep c.ats c.per c.com c.dt n = some (elemI c n) := by
  unfold config_Element.f elemI
  rw [contains_f _ _ (by have := hf.rep; omega) (by have := hf.rep; omega), Option.bind_some, contains_f _ _ (by have := hf.els; omega) (by have := hf.els; omega), Option.bind_some]
  split <;> (try split) <;> rfl
theorem elem_calls {v : Value} {c : Cf} (hf : Fit c) (n : ByteArray) {w : World} (h : CfV w v c) :
    Calls Try.prog 13 #[v, .string n] w fun e w' => e = .returned (.int .i64 (elemI c n)) ∧ Below w.heap.size w w' := by
  obtain ⟨_, _, _, _, rfl, ⟨A2, c2, rfl, l2, h2⟩, ⟨A3, c3, rfl, l3, h3⟩, ⟨A4, c4, rfl, l4, h4⟩, ⟨A5, c5, rfl, l5, h5⟩⟩ := h
  exact config_Element.calls 2000 c.al c.aal A2 c2 c.els A3 c3 c.rep A4 c4 c.ats A5 c5 c.per c.com c.dt n _ w h2 l2 h3 l3 h4 l4 h5 l5 (elem_f hf n)
theorem same_l0 {c : Cf} (hf : Fit c) : ∀ (d i : Nat), i + d = c.per.length → ∀ k, d + 1100 < k → boltingref12_Same.l0 k (i : Int) c.al c.aal c.els c.rep c.ats c.per c.com c.dt c.al c.aal c.els c.rep c.ats c.per c.com c.dt = some true
  | 0, i, h, k, hk => by
    obtain ⟨k, rfl⟩ : ∃ m, k = m + 1 := ⟨k - 1, by omega⟩
    simp only [boltingref12_Same.l0]
    rw [if_neg (by omega), if_pos (by simp), if_pos (by simp), if_pos (by simp), if_pos (by simp), equal_f _ (by have := hf.els; omega) (by have := hf.els; omega), Option.bind_some, if_pos rfl, equal_f _ (by have := hf.rep; omega) (by have := hf.rep; omega), Option.bind_some, if_pos rfl, equal_f _ (by have := hf.ats; omega) (by have := hf.ats; omega), Option.bind_some]
  | d + 1, i, h, k, hk => by
    obtain ⟨k, rfl⟩ : ∃ m, k = m + 1 := ⟨k - 1, by omega⟩
    have hp := hf.per
    have hsub : (rd_T35 c.per (i : Int)).f1.length ≤ 1000 := by
      have : rd_T35 c.per (i : Int) = c.per[i]'(by omega) := by
        unfold rd_T35
        rw [Int.toNat_natCast, List.getD_eq_getElem?_getD, List.getElem?_eq_getElem (by omega)]
        rfl
      rw [this]
      exact hf.sub _ (List.getElem_mem _)
    simp only [boltingref12_Same.l0]
    rw [if_pos (by omega), if_pos (by omega), if_pos (by omega), if_pos trivial, equal_f _ (by omega) (by omega), Option.bind_some, if_pos rfl, wrap_succ (by omega) (by omega)]
    exact same_l0 hf d (i + 1) (by omega) k (by omega)
theorem same_calls {v v' : Value} {c : Cf} (hf : Fit c) {w : World} (h : CfV w v c) (h' : CfV w v' c) :
    Calls Try.prog 24 #[v, v'] w fun e w' => e = .returned (.bool true) ∧ Below w.heap.size w w' := by
  obtain ⟨_, _, _, _, rfl, ⟨A2, c2, rfl, l2, h2⟩, ⟨A3, c3, rfl, l3, h3⟩, ⟨A4, c4, rfl, l4, h4⟩, ⟨A5, c5, rfl, l5, h5⟩⟩ := h
  obtain ⟨_, _, _, _, rfl, ⟨B2, d2, rfl, m2, g2⟩, ⟨B3, d3, rfl, m3, g3⟩, ⟨B4, d4, rfl, m4, g4⟩, ⟨B5, d5, rfl, m5, g5⟩⟩ := h'
  refine boltingref12_Same.calls 3000 c.al c.aal A2 c2 c.els A3 c3 c.rep A4 c4 c.ats A5 c5 c.per c.com c.dt c.al c.aal B2 d2 c.els B3 d3 c.rep B4 d4 c.ats B5 d5 c.per c.com c.dt true w h2 l2 h3 l3 h4 l4 h5 l5 g2 m2 g3 m3 g4 m4 g5 m5 ?_
  unfold boltingref12_Same.f
  rw [if_pos rfl]
  exact same_l0 hf c.per.length 0 (by omega) 3000 (by have := hf.per; omega)

def dataB (a : ByteArray) : Bool := hasPrefix (dat a) [100, 97, 116, 97, 45] && decide (5 < a.size)
def perB (e a : ByteArray) (p : S35) : Bool := decide (p.f0 = e) && mem p.f1 a
def namedB (c : Cf) (e a : ByteArray) : Bool := mem c.ats a || c.per.any (perB e a)
def attrB (c : Cf) (e a : ByteArray) : Bool := if c.aal = true then (namedB c e a || (c.dt && dataB a)) else !namedB c e a
def finB (c : Cf) (a : ByteArray) (nm : Bool) : Bool := if c.aal = true then (nm || (c.dt && dataB a)) else !nm
theorem rd35_at {l : List S35} {i : Nat} {x : S35} (h : l[i]? = some x) : rd_T35 l (i : Int) = x := by
  unfold rd_T35
  rw [Int.toNat_natCast, List.getD_eq_getElem?_getD, h]
  rfl
def cfOf (x : Bool × Bool × List ByteArray × List ByteArray × List ByteArray × List S35 × Bool × Bool) : Cf := ⟨x.1, x.2.1, x.2.2.1, x.2.2.2.1, x.2.2.2.2.1, x.2.2.2.2.2.1, x.2.2.2.2.2.2.1, x.2.2.2.2.2.2.2⟩
def plainC : Cf := cfOf (config_Plain.f.getD (true, true, [], [], [], [], true, true))
def allC : Cf := ⟨false, false, [], [], [], [], true, false⟩
theorem plain_calls (w : World) : Calls Try.prog 28 #[] w fun e w' => ∃ v, e = .returned v ∧ CfV w' v plainC ∧ Below w.heap.size w w' := by
  refine (config_Plain.calls plainC.al plainC.aal plainC.els plainC.rep plainC.ats plainC.per plainC.com plainC.dt w rfl).mono ?_
  rintro e w' ⟨v2, v3, v4, v5, rfl, h2, h3, h4, h5, hb⟩
  exact ⟨_, rfl, ⟨v2, v3, v4, v5, rfl, .of_R h2, .of_R h3, .of_R h4, Kd.N_reads h5⟩, hb⟩
theorem rplain_calls (w : World) : Calls Try.prog 30 #[] w fun e w' => ∃ v, e = .returned v ∧ CfV w' v plainC ∧ Below w.heap.size w w' := by
  refine (boltingref12_Plain.calls plainC.al plainC.aal plainC.els plainC.rep plainC.ats plainC.per plainC.com plainC.dt w rfl).mono ?_
  rintro e w' ⟨v2, v3, v4, v5, rfl, h2, h3, h4, h5, hb⟩
  exact ⟨_, rfl, ⟨v2, v3, v4, v5, rfl, .of_R h2, .of_R h3, .of_R h4, Kd.N_reads h5⟩, hb⟩
theorem all_calls (w : World) : Calls Try.prog 29 #[] w fun e w' => ∃ v, e = .returned v ∧ CfV w' v allC ∧ Below w.heap.size w w' := by
  refine (config_All.calls allC.al allC.aal allC.els allC.rep allC.ats allC.per allC.com allC.dt w rfl).mono ?_
  rintro e w' ⟨v2, v3, v4, v5, rfl, h2, h3, h4, h5, hb⟩
  exact ⟨_, rfl, ⟨v2, v3, v4, v5, rfl, .of_R h2, .of_R h3, .of_R h4, Kd.N_reads (Kd.S_N h5)⟩, hb⟩
end Go.Proofs.Ytjofofpplpmgjaa.Pure
namespace Go.Proofs.Ytjofofpplpmgjaa.Pure
set_option linter.unusedVariables false
set_option linter.unusedSimpArgs false
open Go.RowKit Go.Lib Go.Shelf Go.Proofs.YtjofofpplpmgjaaW.PrintWords Go.Proofs.YtjofofpplpmgjaaW.PrintLast Go.Proofs.YtjofofpplpmgjaaW.PrintMore Go.Proofs.Ytjofofpplpmgjaa.Pr

theorem contains_calls {v : Value} {l : List ByteArray} (hl : l.length ≤ 1000) (s : ByteArray) {w : World} (h : Sl Kd.string w v l) :
    Calls Try.prog 31 #[v, .string s] w fun e w' => e = .returned (.bool (mem l s)) ∧ Below w.heap.size w w' := by
  obtain ⟨A, c, rfl, hc, hC⟩ := h
  refine (slices_Contains_string_string.calls 2000 A c l s _ w hC hc (contains_f l s (by omega) (by omega))).mono ?_
  rintro e w' ⟨rfl, hd⟩
  exact ⟨rfl, drawn_below hd⟩
set_option maxHeartbeats 2000000 in
theorem attr1_calls (e a : ByteArray) (p : S35) (hp : p.f1.length ≤ 1000) {cs : List Value} {W : World} (hK : k35.K W p cs) (b1 b2 : Nat) (h1 : W.cell? ⟨b1, 0, none⟩ = some (.string e)) (h2 : W.cell? ⟨b2, 0, none⟩ = some (.string a)) :
    Calls Try.prog 33 (#[.agg cs.toArray] ++ #[.pointer (some ⟨b1, 0, none⟩), .pointer (some ⟨b2, 0, none⟩)]) W fun r w' => r = .returned (.bool (perB e a p)) ∧ Below W.heap.size W w' := by
  obtain ⟨A1, c1, rfl, hl, hC⟩ := k35_open hK
  show Calls Try.prog _ #[.agg #[.string p.f0, .slice A1 p.f1.length c1], .pointer (some ⟨b1, 0, none⟩), .pointer (some ⟨b2, 0, none⟩)] W _
  have hb : ∀ o, Below W.heap.size W (W.alloc o) := fun o => below_alloc (Below.refl _ _) o
  have g1 : ∀ o, (W.alloc o).cell? ⟨b1, 0, none⟩ = some (.string e) := fun o => ((hb o).cell (p := ⟨b1, 0, none⟩) (World.block_lt_of_cell? W _ h1)).trans h1
  have g2 : ∀ o, (W.alloc o).cell? ⟨b2, 0, none⟩ = some (.string a) := fun o => ((hb o).cell (p := ⟨b2, 0, none⟩) (World.block_lt_of_cell? W _ h2)).trans h2
  have HC : Hid (∀ o, Sl Kd.string (W.alloc o) (.slice A1 p.f1.length c1) p.f1) := fun o => Sl.below ⟨A1, c1, rfl, hl, hC⟩ (hb o)
  have HB := hid hb
  have HP := hid hp
  obtain ⟨m, hm⟩ : ∃ m, mem p.f1 a = m := ⟨_, rfl⟩
  have HM := hid hm
  unfold perB
  rw [hm]
  obtain ⟨f0, hf0⟩ : ∃ f0, p.f0 = f0 := ⟨_, rfl⟩
  rw [hf0]
  clear hb hC hl hK hp hm hf0
  by_cases he : f0 = e
  · subst he
    go_enter Try.func33, Try.ntmps33
    go_wp2_with (go_at_call 31; refine (contains_calls HP.out a (HC.out _)).mono ?_; rintro r w' ⟨rfl, hb'⟩)
    go_ret
    exact ⟨by simp only [decide_true, Bool.true_and]; rw [← HM.out]; rfl, below_step (HB.out _) hb'⟩
  · have he1 : ¬ f0.toList = e.toList := fun g => he (toList_inj g)
    go_enter Try.func33, Try.ntmps33
    go_wp2
    go_ret
    exact ⟨by rw [decide_eq_false he, Bool.false_and]; rfl, HB.out _⟩
theorem at_old {w w' : World} {p : Addr} {v : Value} (h : w.cell? p = some v) (hb : Below w.heap.size w w') : w'.cell? p = some v :=
  (hb.cell (p := p) (World.block_lt_of_cell? w p h)).trans h
theorem at_new (w : World) (cs : Array Value) (t : TypeId) (i : Nat) {v : Value} (h : cs[i]? = some v) : (w.alloc (.cells cs t (0, 0))).cell? ⟨w.heap.size, i, none⟩ = some v :=
  (blk_cell (blk_new w _) i).trans h
theorem bl_alloc (w : World) (o : Obj) : Below w.heap.size w (w.alloc o) := below_alloc (Below.refl _ _) o
theorem bl_two (w : World) (o o' : Obj) : Below w.heap.size w ((w.alloc o).alloc o') := below_step (bl_alloc w o) (bl_alloc _ o')
theorem bl_three (w : World) (o o' o'' : Obj) : Below w.heap.size w (((w.alloc o).alloc o').alloc o'') := below_step (bl_two w o o') (bl_alloc _ o'')
theorem pre_calls (a : ByteArray) (w : World) : Calls Try.prog 34 #[.string a, .string ⟨#[100, 97, 116, 97, 45]⟩] w fun r w' => r = .returned (.bool (hasPrefix (dat a) [100, 97, 116, 97, 45])) ∧ w' = w := Try.strings_HasPrefix a ⟨#[100, 97, 116, 97, 45]⟩ w
set_option maxHeartbeats 4000000 in
theorem attr_calls {v : Value} {c : Cf} (hf : Fit c) (e a : ByteArray) {w : World} (h : CfV w v c) :
    Calls Try.prog 15 #[v, .string e, .string a] w fun r w' => r = .returned (.bool (attrB c e a)) ∧ Below w.heap.size w w' := by
  obtain ⟨v2, v3, v4, v5, rfl, h2, h3, h4, h5⟩ := h
  obtain ⟨A4, c4, rfl, l4, h4⟩ := h4
  obtain ⟨A5, c5, rfl, l5, h5⟩ := h5
  obtain ⟨al, aal, els, rep, ats, per, com, dt⟩ := c
  simp only at h4 h5 l4 l5
  unfold attrB namedB
  simp only
  obtain ⟨m, hm⟩ : ∃ m, mem ats a = m := ⟨_, rfl⟩
  obtain ⟨q, hq⟩ : ∃ q, per.any (perB e a) = q := ⟨_, rfl⟩
  have HS : Hid (∀ o o' o'', Sl Kd.string (((w.alloc o).alloc o').alloc o'') (.slice A4 ats.length c4) ats) := fun o o' o'' => Sl.below ⟨A4, c4, rfl, l4, h4⟩ (bl_three w o o' o'')
  have HC : Hid (∀ W, Below w.heap.size w W → k35.C W A5 per.length per) := fun W hb => Kd.C_below h5 hb
  have HF1 := hid hf.ats
  have HF2 := hid hf.sub
  have HA : Hid (∀ (w1 : World), Below w.heap.size w w1 → w1.cell? ⟨w.heap.size + 1, 0, none⟩ = some (.string e) → w1.cell? ⟨w.heap.size + 1 + 1, 0, none⟩ = some (.string a) →
      Calls Try.prog 32 #[.slice A5 per.length c5, .func (.func 33) #[] #[.pointer (some ⟨w.heap.size + 1, 0, none⟩), .pointer (some ⟨w.heap.size + 1 + 1, 0, none⟩)]] w1 fun r w' => r = .returned (.bool q) ∧ Below w1.heap.size w1 w') := fun w1 hb g1 g2 => by
    rw [← hq]
    refine hasPer_calls (c := c5) (perB e a) 33 _ (fun args w => enters_ Try.func33 (by kernel_rfl) rfl args w) w1 (HC.out w1 hb) ?_
    intro W x cs hx hBW hK
    refine (attr1_calls e a x (hf.sub x hx) (k35.K_below hBW hK) _ _ (at_old g1 hBW) (at_old g2 hBW)).mono ?_
    rintro r w' ⟨rfl, hb'⟩
    exact ⟨rfl, below_step hBW hb'⟩
  have HB := hid (bl_three w)
  have HM := hid hm
  rw [hm, hq]
  have HO : Hid (∀ o1 o2 w1, Below (((w.alloc (.cells #[.bool al, .bool aal, v2, v3, .slice A4 ats.length c4, .slice A5 per.length c5, .bool com, .bool dt] 25)).alloc o1).alloc o2).heap.size (((w.alloc (.cells #[.bool al, .bool aal, v2, v3, .slice A4 ats.length c4, .slice A5 per.length c5, .bool com, .bool dt] 25)).alloc o1).alloc o2) w1 →
      w1.cell? ⟨w.heap.size, 1, none⟩ = some (.bool aal) ∧ w1.cell? ⟨w.heap.size, 5, none⟩ = some (.slice A5 per.length c5) ∧ w1.cell? ⟨w.heap.size, 7, none⟩ = some (.bool dt)) := fun o1 o2 w1 hb =>
    ⟨at_old (at_old (at_new w _ 25 1 rfl) (bl_two _ o1 o2)) hb, at_old (at_old (at_new w _ 25 5 rfl) (bl_two _ o1 o2)) hb, at_old (at_old (at_new w _ 25 7 rfl) (bl_two _ o1 o2)) hb⟩
  have HE : Hid (∀ o w1, Below (((w.alloc o).alloc (.cells #[.string e] 9)).alloc (.cells #[.string a] 9)).heap.size (((w.alloc o).alloc (.cells #[.string e] 9)).alloc (.cells #[.string a] 9)) w1 →
      w1.cell? ⟨w.heap.size + 1, 0, none⟩ = some (.string e) ∧ w1.cell? ⟨w.heap.size + 1 + 1, 0, none⟩ = some (.string a)) := fun o w1 hb => by
    have s1 : (w.alloc o).heap.size = w.heap.size + 1 := World.size_alloc ..
    have s2 : ((w.alloc o).alloc (.cells #[.string e] 9)).heap.size = w.heap.size + 1 + 1 := by rw [World.size_alloc, s1]
    have g1 := at_new (w.alloc o) #[.string e] 9 0 (v := .string e) rfl
    have g2 := at_new ((w.alloc o).alloc (.cells #[.string e] 9)) #[.string a] 9 0 (v := .string a) rfl
    rw [s1] at g1
    rw [s2] at g2
    exact ⟨at_old (at_old g1 (bl_alloc _ _)) hb, at_old g2 hb⟩
  have HP := hid (pre_calls a)
  obtain ⟨pr, hpr⟩ : ∃ pr, hasPrefix (dat a) [100, 97, 116, 97, 45] = pr := ⟨_, rfl⟩
  unfold dataB
  rw [hpr] at HP ⊢
  clear h2 h3 h4 h5 hf hq hm hpr l4 l5
  cases m <;> cases aal <;> cases dt <;> cases pr <;> cases q
  all_goals
    go_enter Try.func15, Try.ntmps15
    go_wp2_with first
      | (go_at_call 31; refine (contains_calls HF1.out a (HS.out _ _ _)).mono ?_; rw [HM.out]; rintro r w1 ⟨rfl, hb1⟩; obtain ⟨k1, k5, k7⟩ := HO.out _ _ _ hb1; obtain ⟨k8, k9⟩ := HE.out _ _ hb1; have HB1 := hid (below_step (HB.out _ _ _) hb1); clear hb1)
      | (go_at_call 32; refine (HA.out _ HB1.out k8 k9).mono ?_; rintro r w2 ⟨rfl, hb2⟩; have j1 := at_old k1 hb2; have j7 := at_old k7 hb2; have j8 := at_old k8 hb2; have j9 := at_old k9 hb2; have HB2 := hid (below_step HB1.out hb2); clear hb2 HB1)
      | (go_at_call 34; refine (HP.out _).mono ?_; rintro r w3 ⟨rfl, rfl⟩)
    go_ret
    exact ⟨by first | rfl | (simp; done) | (simp; omega), by first | exact HB2.out | exact HB1.out⟩
end Go.Proofs.Ytjofofpplpmgjaa.Pure
namespace Go.Proofs.Ytjofofpplpmgjaa.Pr
open Go.RowKit Go.Proofs.YtjofofpplpmgjaaW.PrintWords Go.Proofs.YtjofofpplpmgjaaW.PrintLast Go.Proofs.YtjofofpplpmgjaaW.PrintMore
attribute [local go_sem] max2_int min2_int max_two min_two max_three min_three max_four min_four   -- for this text's walks alone
set_option linter.unusedVariables false
set_option linter.unusedSimpArgs false

def config_lists.l0 : Nat → List ByteArray → List (List ByteArray) → List (S35) → Int → Int → Bool → Bool → List ByteArray → List ByteArray → List ByteArray → List (S35) → Bool → Bool → Option ((List (List ByteArray)) × (List (List ByteArray)))
 | 0, _, _, _, _, _, _, _, _, _, _, _, _, _ => none
 | k + 1, x4, x5, x12, x13, x14, x102000, x102001, x102002, x102003, x102004, x102005, x102006, x102007 => if x14 < x13 then (if 0 ≤ x14 then (if x14 < (x12.length : Int) then (if x4.length < 8796093022208 then (if x5.length < 5864062014805 then (config_lists.l0 k (x4 ++ [(rd_T35 x12 x14).f0]) (x5 ++ [(rd_T35 x12 x14).f1]) x12 x13 (wrap64 (x14 + 1)) x102000 x102001 x102002 x102003 x102004 x102005 x102006 x102007) else (none)) else (none)) else (none)) else (none)) else (some ((([x102002, x102003, x4] : List (List ByteArray))), x5))
def config_lists.f (k : Nat) (a0_0 : Bool) (a0_1 : Bool) (l0_2 : List ByteArray) (l0_3 : List ByteArray) (l0_4 : List ByteArray) (l0_5 : List (S35)) (a0_6 : Bool) (a0_7 : Bool) : Option ((List (List ByteArray)) × (List (List ByteArray))) := config_lists.l0 k ([] : List ByteArray) (([l0_4] : List (List ByteArray))) l0_5 (l0_5.length : Int) 0 a0_0 a0_1 l0_2 l0_3 l0_4 l0_5 a0_6 a0_7
set_option maxHeartbeats 8000000 in
set_option maxRecDepth 100000 in
theorem config_lists.calls (k : Nat) (a0_0 : Bool) (a0_1 : Bool) (P0_2_ : Nat → Prop) (A0_2 : Option Addr) (c0_2 : Nat) (l0_2 : List ByteArray) (P0_3_ : Nat → Prop) (A0_3 : Option Addr) (c0_3 : Nat) (l0_3 : List ByteArray) (P0_4_ : Nat → Prop) (A0_4 : Option Addr) (c0_4 : Nat) (l0_4 : List ByteArray) (P0_5_ : Nat → Prop) (A0_5 : Option Addr) (c0_5 : Nat) (l0_5 : List (S35)) (a0_6 : Bool) (a0_7 : Bool) (r1 : List (List ByteArray)) (r2 : List (List ByteArray)) (w : World) (hs0_2 : Kd.V Kd.string 9 w w.heap.size (fun k_ => P0_2_ k_) (.slice A0_2 l0_2.length c0_2) l0_2) (hs0_3 : Kd.V Kd.string 9 w w.heap.size (fun k_ => P0_3_ k_) (.slice A0_3 l0_3.length c0_3) l0_3) (hs0_4 : Kd.V Kd.string 9 w w.heap.size (fun k_ => P0_4_ k_) (.slice A0_4 l0_4.length c0_4) l0_4) (hs0_5 : Kd.V k35 35 w w.heap.size (fun k_ => P0_5_ k_) (.slice A0_5 l0_5.length c0_5) l0_5) (h : config_lists.f k a0_0 a0_1 l0_2 l0_3 l0_4 l0_5 a0_6 a0_7 = some (r1, r2)) :
  Calls Try.prog 40 #[.agg #[.bool a0_0, .bool a0_1, .slice A0_2 l0_2.length c0_2, .slice A0_3 l0_3.length c0_3, .slice A0_4 l0_4.length c0_4, .slice A0_5 l0_5.length c0_5, .bool a0_6, .bool a0_7]] w fun e w' => ∃ v0_ v1_ : Value, e = .returned (.tuple #[v0_, v1_]) ∧ Kd.N (Kd.slice 9 Kd.string) 22 w' w.heap.size (fun k_ => ((P0_2_ k_ ∨ P0_3_ k_ ∨ P0_4_ k_ ∨ P0_5_ k_) ∨ w.heap.size ≤ k_) ∧ some k_ ≠ (v1_ : Value).ownBlock) v0_ r1 ∧ Kd.N (Kd.slice 9 Kd.string) 22 w' w.heap.size (fun k_ => ((P0_2_ k_ ∨ P0_3_ k_ ∨ P0_4_ k_ ∨ P0_5_ k_) ∨ w.heap.size ≤ k_) ∧ some k_ ≠ (v0_ : Value).ownBlock) v1_ r2 ∧ Below w.heap.size w w' := by
 have hu25 := Try.underlying25
 have hu35 := Try.underlying35
 have HO0_2 := Aside0.mk (show Kd.V Kd.string 9 w w.heap.size (fun k_ => ((P0_2_ k_ ∨ P0_3_ k_ ∨ P0_4_ k_ ∨ P0_5_ k_) ∨ w.heap.size ≤ k_)) (.slice A0_2 l0_2.length c0_2) l0_2 from Kd.V_mono hs0_2 (fun k_ hk => .inl (.inl hk)))
 have HO0_3 := Aside0.mk (show Kd.V Kd.string 9 w w.heap.size (fun k_ => ((P0_2_ k_ ∨ P0_3_ k_ ∨ P0_4_ k_ ∨ P0_5_ k_) ∨ w.heap.size ≤ k_)) (.slice A0_3 l0_3.length c0_3) l0_3 from Kd.V_mono hs0_3 (fun k_ hk => .inl (.inr (.inl hk))))
 have HO0_4 := Aside0.mk (show Kd.V Kd.string 9 w w.heap.size (fun k_ => ((P0_2_ k_ ∨ P0_3_ k_ ∨ P0_4_ k_ ∨ P0_5_ k_) ∨ w.heap.size ≤ k_)) (.slice A0_4 l0_4.length c0_4) l0_4 from Kd.V_mono hs0_4 (fun k_ hk => .inl (.inr (.inr (.inl hk)))))
 have HO0_5 := Aside0.mk (show Kd.V k35 35 w w.heap.size (fun k_ => ((P0_2_ k_ ∨ P0_3_ k_ ∨ P0_4_ k_ ∨ P0_5_ k_) ∨ w.heap.size ≤ k_)) (.slice A0_5 l0_5.length c0_5) l0_5 from Kd.V_mono hs0_5 (fun k_ hk => .inl (.inr (.inr (.inr hk)))))
 have HB := Aside0.mk (Below.refl w.heap.size w)
 have H : (config_lists.l0 k ([] : List ByteArray) (([l0_4] : List (List ByteArray))) l0_5 (l0_5.length : Int) 0 a0_0 a0_1 l0_2 l0_3 l0_4 l0_5 a0_6 a0_7) = some (r1, r2) := h
 clear h
 obtain ⟨y102, hy102⟩ : ∃ y_ : List (List ByteArray), y_ = (([l0_4] : List (List ByteArray))) := ⟨_, rfl⟩
 replace H : (config_lists.l0 k ([] : List ByteArray) y102 l0_5 (l0_5.length : Int) 0 a0_0 a0_1 l0_2 l0_3 l0_4 l0_5 a0_6 a0_7) = some (r1, r2) := by first | (rw [hy102]; with_reducible exact H) | (have H2_ := (Option.bind_some _ _).symm.trans H; rw [hy102]; with_reducible exact H2_) | (have H2_ := (Option.bind_some _ _).symm.trans H; with_reducible exact H2_) | with_reducible exact H | (rw [hy102]; exact H) | exact H
 have Ny102 := Aside0.mk hy102
 clear hy102
 have H' := Aside0.mk H
 clear H
 go_enter Try.func40, Try.ntmps40
 go_wp2_with (first | ((with_reducible refine gate_dst (N := 1) rfl ?_); refine box_event ?hg (N := 1) ?hd (cs := #[.bool a0_0, .bool a0_1, .slice A0_2 l0_2.length c0_2, .slice A0_3 l0_3.length c0_3, .slice A0_4 l0_4.length c0_4, .slice A0_5 l0_5.length c0_5, .bool a0_6, .bool a0_7]) (t := 25) ?hr ?_; (case hd => rfl); (case hg => rfl); (case hr => first | (go_simp; done) | (go_simp; rfl)); intro gb101 hg w2 hbox hb; have n0_ := Aside0.mk (Kd.V_below (Kd.V_elderB (by exact HO0_2.out) gb101 (Nat.le_of_eq hg.symm)) hb); have n1_ := Aside0.mk (Kd.V_below (Kd.V_elderB (by exact HO0_3.out) gb101 (Nat.le_of_eq hg.symm)) hb); have n2_ := Aside0.mk (Kd.V_below (Kd.V_elderB (by exact HO0_4.out) gb101 (Nat.le_of_eq hg.symm)) hb); have n3_ := Aside0.mk (Kd.V_below (Kd.V_elderB (by exact HO0_5.out) gb101 (Nat.le_of_eq hg.symm)) hb); have n4_ := Aside0.mk (below_step (by repeat (first | (with_reducible first | exact HB.out | apply below_alloc | apply pw_below_drewN | apply below_drew1) | exact HB.out)) hb); have n5_ := Aside0.mk (hbox); have n6_ := Aside0.mk ((by rw [hg]; exact (below_size (by repeat (first | (with_reducible first | exact HB.out | apply below_alloc | apply pw_below_drewN | apply below_drew1) | exact HB.out))) : w.heap.size ≤ gb101)); have n7_ := Aside0.mk ((by rw [hg]; exact (below_size (by repeat (first | (with_reducible first | exact HB.out | apply below_alloc | apply pw_below_drewN | apply below_drew1) | exact HB.out))) : w.heap.size ≤ gb101)); clear HO0_2; clear HO0_3; clear HO0_4; clear HO0_5; clear HB; have HO0_2 := n0_; have HO0_3 := n1_; have HO0_4 := n2_; have HO0_5 := n3_; have HB := n4_; have BK101 := n5_; have GW101 := n6_; have GE101 := n7_; clear n0_ n1_ n2_ n3_ n4_ n5_ n6_ n7_; clear hb hbox hg; have hcz3_0 : w2.cell? ⟨gb101, 0, none⟩ = some (.bool a0_0) := (blk_cell BK101.out 0).trans rfl; have hcz3_1 : w2.cell? ⟨gb101, 1, none⟩ = some (.bool a0_1) := (blk_cell BK101.out 1).trans rfl; have hcz3_2 : w2.cell? ⟨gb101, 2, none⟩ = some (.slice A0_2 l0_2.length c0_2) := (blk_cell BK101.out 2).trans rfl; have hcz3_3 : w2.cell? ⟨gb101, 3, none⟩ = some (.slice A0_3 l0_3.length c0_3) := (blk_cell BK101.out 3).trans rfl; have hcz3_4 : w2.cell? ⟨gb101, 4, none⟩ = some (.slice A0_4 l0_4.length c0_4) := (blk_cell BK101.out 4).trans rfl; have hcz3_5 : w2.cell? ⟨gb101, 5, none⟩ = some (.slice A0_5 l0_5.length c0_5) := (blk_cell BK101.out 5).trans rfl; have hcz3_6 : w2.cell? ⟨gb101, 6, none⟩ = some (.bool a0_6) := (blk_cell BK101.out 6).trans rfl; have hcz3_7 : w2.cell? ⟨gb101, 7, none⟩ = some (.bool a0_7) := (blk_cell BK101.out 7).trans rfl; have hfz3_0 := blk_frozen BK101.out 0; have hfz3_1 := blk_frozen BK101.out 1; have hfz3_2 := blk_frozen BK101.out 2; have hfz3_3 := blk_frozen BK101.out 3; have hfz3_4 := blk_frozen BK101.out 4; have hfz3_5 := blk_frozen BK101.out 5; have hfz3_6 := blk_frozen BK101.out 6; have hfz3_7 := blk_frozen BK101.out 7) | ((with_reducible refine gate_dst (N := 10) rfl ?_); refine Kd.N_lit (Kd.slice 9 Kd.string) _ 22 ?hg (N' := 10) ?hd (xs := ([l0_4] : List (List ByteArray))) (inner := [.slice A0_4 l0_4.length c0_4]) (ok := (fun k_ => ((P0_2_ k_ ∨ P0_3_ k_ ∨ P0_4_ k_ ∨ P0_5_ k_) ∨ w.heap.size ≤ k_) ∧ k_ ≠ gb101)) (okp := (fun k_ => ((P0_2_ k_ ∨ P0_3_ k_ ∨ P0_4_ k_ ∨ P0_5_ k_) ∨ w.heap.size ≤ k_) ∧ k_ ≠ gb101)) ?hr ?hp (fun _ hk => hk) ((show ∀ k_, w2.heap.size ≤ k_ → (fun k_ => ((P0_2_ k_ ∨ P0_3_ k_ ∨ P0_4_ k_ ∨ P0_5_ k_) ∨ w.heap.size ≤ k_) ∧ k_ ≠ gb101) k_ from fun k_ hk => ⟨(.inr (Nat.le_trans (below_size (by repeat (first | (with_reducible first | exact HB.out | apply below_alloc | apply pw_below_drewN | apply below_drew1 | refine below_set ?_ GE101.out) | exact HB.out))) hk)), Kd.freshB (g := gb101) (o := .cells #[.bool a0_0, .bool a0_1, .slice A0_2 l0_2.length c0_2, .slice A0_3 l0_3.length c0_3, .slice A0_4 l0_4.length c0_4, .slice A0_5 l0_5.length c0_5, .bool a0_6, .bool a0_7] 25 (0, 0)) (by exact BK101.out) k_ hk⟩) _ (Nat.le_refl _)) (Below.refl _ _) (Nat.le_refl _) (by simp) ?_; (case hd => rfl); (case hg => rfl); (case hr => first | (go_simp; done) | (go_simp; rfl)); (case hp => exact (Reps.one (show Kd.FK (Kd.slice 9 Kd.string) _ _ l0_4 [.slice A0_4 l0_4.length c0_4] from (Kd.FK_slice_mk (Kd.V_reads' (Kd.V_mono (ok' := (fun k_ => ((P0_2_ k_ ∨ P0_3_ k_ ∨ P0_4_ k_ ∨ P0_5_ k_) ∨ w.heap.size ≤ k_) ∧ k_ ≠ gb101)) (HO0_4.out) (fun k_ hk => ⟨hk.1, hk.2⟩))).2.1 (Kd.V_F (Kd.V_mono (ok' := (fun k_ => ((P0_2_ k_ ∨ P0_3_ k_ ∨ P0_4_ k_ ∨ P0_5_ k_) ∨ w.heap.size ≤ k_) ∧ k_ ≠ gb101)) (HO0_4.out) (fun k_ hk => ⟨hk.1, hk.2⟩))))) (Reps.none _ _))); intro v103 w4 ho5 hb hg_ hnew_; clear hg_ hnew_; (first | rw [← Ny102.out] at ho5 | (simp only [Int.reduceToNat] at ho5; rw [← Ny102.out] at ho5)); have n0_ := Aside0.mk (Kd.V_elder' (by exact HO0_2.out) (Kd.N_base ho5) hb); have n1_ := Aside0.mk (Kd.V_elder' (by exact HO0_3.out) (Kd.N_base ho5) hb); have n2_ := Aside0.mk (Kd.V_elder' (by exact HO0_4.out) (Kd.N_base ho5) hb); have n3_ := Aside0.mk (Kd.V_elder' (by exact HO0_5.out) (Kd.N_base ho5) hb); have n4_ := Aside0.mk (Kd.N_lower ho5 (below_size (by repeat (first | (with_reducible first | exact HB.out | apply below_alloc | apply pw_below_drewN | apply below_drew1 | refine below_set ?_ GE101.out) | exact HB.out)))); have n5_ := Aside0.mk (blk_below (g := gb101) (o := .cells #[.bool a0_0, .bool a0_1, .slice A0_2 l0_2.length c0_2, .slice A0_3 l0_3.length c0_3, .slice A0_4 l0_4.length c0_4, .slice A0_5 l0_5.length c0_5, .bool a0_6, .bool a0_7] 25 (0, 0)) (by exact BK101.out) hb); have n6_ := Aside0.mk (below_step (by repeat (first | (with_reducible first | exact HB.out | apply below_alloc | apply pw_below_drewN | apply below_drew1 | refine below_set ?_ GE101.out) | exact HB.out)) hb); clear HO0_2; clear HO0_3; clear HO0_4; clear HO0_5; clear BK101; clear HB; have HO0_2 := n0_; have HO0_3 := n1_; have HO0_4 := n2_; have HO0_5 := n3_; have HO104 := n4_; have BK101 := n5_; have HB := n6_; clear n0_ n1_ n2_ n3_ n4_ n5_ n6_; clear hb ho5; have hcz6_0 : w4.cell? ⟨gb101, 0, none⟩ = some (.bool a0_0) := (blk_cell BK101.out 0).trans rfl; have hcz6_1 : w4.cell? ⟨gb101, 1, none⟩ = some (.bool a0_1) := (blk_cell BK101.out 1).trans rfl; have hcz6_2 : w4.cell? ⟨gb101, 2, none⟩ = some (.slice A0_2 l0_2.length c0_2) := (blk_cell BK101.out 2).trans rfl; have hcz6_3 : w4.cell? ⟨gb101, 3, none⟩ = some (.slice A0_3 l0_3.length c0_3) := (blk_cell BK101.out 3).trans rfl; have hcz6_4 : w4.cell? ⟨gb101, 4, none⟩ = some (.slice A0_4 l0_4.length c0_4) := (blk_cell BK101.out 4).trans rfl; have hcz6_5 : w4.cell? ⟨gb101, 5, none⟩ = some (.slice A0_5 l0_5.length c0_5) := (blk_cell BK101.out 5).trans rfl; have hcz6_6 : w4.cell? ⟨gb101, 6, none⟩ = some (.bool a0_6) := (blk_cell BK101.out 6).trans rfl; have hcz6_7 : w4.cell? ⟨gb101, 7, none⟩ = some (.bool a0_7) := (blk_cell BK101.out 7).trans rfl; have hfz6_0 := blk_frozen BK101.out 0; have hfz6_1 := blk_frozen BK101.out 1; have hfz6_2 := blk_frozen BK101.out 2; have hfz6_3 := blk_frozen BK101.out 3; have hfz6_4 := blk_frozen BK101.out 4; have hfz6_5 := blk_frozen BK101.out 5; have hfz6_6 := blk_frozen BK101.out 6; have hfz6_7 := blk_frozen BK101.out 7))
 go_loopg [4, 5, 14] k (fun kq v4 v5 v14 w' => ∃ (x4_1 : List ByteArray) (x5_1 : List (List ByteArray)) (x14_1 : Int), v14 = .int .i64 x14_1 ∧ Aside0 (config_lists.l0 kq x4_1 x5_1 l0_5 (l0_5.length : Int) x14_1 a0_0 a0_1 l0_2 l0_3 l0_4 l0_5 a0_6 a0_7 = some (r1, r2)) ∧ Aside0 (kq ≤ k) ∧ Aside0 (Kd.R Kd.string 9 w' w.heap.size (fun k_ => (w.heap.size ≤ k_)) v4 x4_1) ∧ Aside0 (Kd.N (Kd.slice 9 Kd.string) 22 w' w.heap.size (fun k_ => ((P0_2_ k_ ∨ P0_3_ k_ ∨ P0_4_ k_ ∨ P0_5_ k_) ∨ w.heap.size ≤ k_) ∧ some k_ ≠ (v4 : Value).ownBlock ∧ k_ ≠ gb101) v5 x5_1) ∧ Aside0 (Kd.V k35 35 w' w.heap.size (fun k_ => ((P0_2_ k_ ∨ P0_3_ k_ ∨ P0_4_ k_ ∨ P0_5_ k_) ∨ w.heap.size ≤ k_) ∧ some k_ ≠ (v4 : Value).ownBlock ∧ some k_ ≠ (v5 : Value).ownBlock ∧ k_ ≠ gb101) (.slice A0_5 l0_5.length c0_5) l0_5) ∧ Aside0 (Kd.V Kd.string 9 w' w.heap.size (fun k_ => ((P0_2_ k_ ∨ P0_3_ k_ ∨ P0_4_ k_ ∨ P0_5_ k_) ∨ w.heap.size ≤ k_) ∧ some k_ ≠ (v4 : Value).ownBlock ∧ some k_ ≠ (v5 : Value).ownBlock ∧ k_ ≠ gb101) (.slice A0_2 l0_2.length c0_2) l0_2) ∧ Aside0 (Kd.V Kd.string 9 w' w.heap.size (fun k_ => ((P0_2_ k_ ∨ P0_3_ k_ ∨ P0_4_ k_ ∨ P0_5_ k_) ∨ w.heap.size ≤ k_) ∧ some k_ ≠ (v4 : Value).ownBlock ∧ some k_ ≠ (v5 : Value).ownBlock ∧ k_ ≠ gb101) (.slice A0_3 l0_3.length c0_3) l0_3) ∧ Aside0 (Kd.V Kd.string 9 w' w.heap.size (fun k_ => ((P0_2_ k_ ∨ P0_3_ k_ ∨ P0_4_ k_ ∨ P0_5_ k_) ∨ w.heap.size ≤ k_) ∧ some k_ ≠ (v4 : Value).ownBlock ∧ some k_ ≠ (v5 : Value).ownBlock ∧ k_ ≠ gb101) (.slice A0_4 l0_4.length c0_4) l0_4) ∧ Aside0 (Kd.V k35 35 w' w.heap.size (fun k_ => ((P0_2_ k_ ∨ P0_3_ k_ ∨ P0_4_ k_ ∨ P0_5_ k_) ∨ w.heap.size ≤ k_) ∧ some k_ ≠ (v4 : Value).ownBlock ∧ some k_ ≠ (v5 : Value).ownBlock ∧ k_ ≠ gb101) (.slice A0_5 l0_5.length c0_5) l0_5) ∧ Aside0 (w'.heap[gb101]? = some (.cells #[.bool a0_0, .bool a0_1, (.slice A0_2 l0_2.length c0_2), (.slice A0_3 l0_3.length c0_3), (.slice A0_4 l0_4.length c0_4), (.slice A0_5 l0_5.length c0_5), .bool a0_6, .bool a0_7] 25 (0, 0))) ∧ Aside0 (Below w.heap.size w w'))
 case atStart => exact ⟨(([] : List ByteArray)), (y102), (0), (by first | rfl | (simp; done) | (simp [*]; done)), H', ⟨Nat.le_refl _⟩, ⟨by first | exact Kd.R_nil _ _ _ _ _ | exact Kd.N_nil _ _ _ _ _ | exact Kd.V_nil _ _ _ _ _ | exact Kd.Q_nil _ _ _ _ _ | exact Kd.S_nil _ _ _ _ _⟩, ⟨by exact Kd.N_mono HO104.out (fun _ hk => ⟨hk.1, ⟨(by simp [Value.ownBlock]), hk.2⟩⟩)⟩, ⟨by exact Kd.V_mono HO0_5.out (fun _ hk => ⟨hk.1.1, ⟨(by simp [Value.ownBlock]), ⟨hk.2, hk.1.2⟩⟩⟩)⟩, ⟨by exact Kd.V_mono HO0_2.out (fun _ hk => ⟨hk.1.1, ⟨(by simp [Value.ownBlock]), ⟨hk.2, hk.1.2⟩⟩⟩)⟩, ⟨by exact Kd.V_mono HO0_3.out (fun _ hk => ⟨hk.1.1, ⟨(by simp [Value.ownBlock]), ⟨hk.2, hk.1.2⟩⟩⟩)⟩, ⟨by exact Kd.V_mono HO0_4.out (fun _ hk => ⟨hk.1.1, ⟨(by simp [Value.ownBlock]), ⟨hk.2, hk.1.2⟩⟩⟩)⟩, ⟨by exact Kd.V_mono HO0_5.out (fun _ hk => ⟨hk.1.1, ⟨(by simp [Value.ownBlock]), ⟨hk.2, hk.1.2⟩⟩⟩)⟩, ⟨by exact BK101.out⟩, ⟨by repeat (first | (with_reducible first | exact HB.out | apply below_alloc | apply pw_below_drewN | apply below_drew1 | refine below_set ?_ GE101.out) | exact HB.out)⟩⟩
 case round =>
  clear H'
  try clear p2
  try clear c4
  try clear hcz3_0
  try clear hcz3_1
  try clear hcz3_2
  try clear hcz3_3
  try clear hcz3_4
  try clear hcz3_5
  try clear hcz3_6
  try clear hcz3_7
  try clear hcz6_0
  try clear hcz6_1
  try clear hcz6_2
  try clear hcz6_3
  try clear hcz6_4
  try clear hcz6_5
  try clear hcz6_6
  try clear hcz6_7
  try clear hfz3_0
  try clear hfz3_1
  try clear hfz3_2
  try clear hfz3_3
  try clear hfz3_4
  try clear hfz3_5
  try clear hfz3_6
  try clear hfz3_7
  try clear hfz6_0
  try clear hfz6_1
  try clear hfz6_2
  try clear hfz6_3
  try clear hfz6_4
  try clear hfz6_5
  try clear hfz6_6
  try clear hfz6_7
  obtain ⟨x4_1, x5_1, x14_1, rfl, HA, HK1, HO_4, HO_5, HO_12, HO_102002, HO_102003, HO_102004, HO_102005, BK101, HB⟩ := hrel
  cases gk with
  | zero => exact absurd HA.out (by simp [config_lists.l0])
  | succ k1 =>
   have H := HA.out
   clear HA
   simp only [config_lists.l0] at H
   by_cases c7 : x14_1 < (l0_5.length : Int)
   ·rw [if_pos c7] at H
    have c7b0 : decide (x14_1 < (l0_5.length : Int)) = true := decide_eq_true c7
    clear c7
    by_cases c8 : 0 ≤ x14_1
    ·rw [if_pos c8] at H
     have c8b0 : decide (0 ≤ x14_1) = true := decide_eq_true c8
     clear c8
     by_cases c9 : x14_1 < (l0_5.length : Int)
     ·rw [if_pos c9] at H
      have c9b0 : decide (x14_1 < (l0_5.length : Int)) = true := decide_eq_true c9
      clear c9
      by_cases c10 : x4_1.length < 8796093022208
      ·rw [if_pos c10] at H
       have LMc10 := Aside0.mk c10
       clear c10
       obtain ⟨y107, hy107⟩ : ∃ y_ : List ByteArray, y_ = (x4_1 ++ [(rd_T35 l0_5 x14_1).f0]) := ⟨_, rfl⟩
       replace H : (if x5_1.length < 5864062014805 then (config_lists.l0 k1 y107 (x5_1 ++ [(rd_T35 l0_5 x14_1).f1]) l0_5 (l0_5.length : Int) (wrap64 (x14_1 + 1)) a0_0 a0_1 l0_2 l0_3 l0_4 l0_5 a0_6 a0_7) else (none)) = some (r1, r2) := by first | (rw [hy107]; with_reducible exact H) | (have H2_ := (Option.bind_some _ _).symm.trans H; rw [hy107]; with_reducible exact H2_) | (have H2_ := (Option.bind_some _ _).symm.trans H; with_reducible exact H2_) | with_reducible exact H | (rw [hy107]; exact H) | exact H
       have Ny107 := Aside0.mk hy107
       clear hy107
       by_cases c11 : x5_1.length < 5864062014805
       ·rw [if_pos c11] at H
        have LMc11 := Aside0.mk c11
        clear c11
        obtain ⟨y110, hy110⟩ : ∃ y_ : List (List ByteArray), y_ = (x5_1 ++ [(rd_T35 l0_5 x14_1).f1]) := ⟨_, rfl⟩
        replace H : (config_lists.l0 k1 y107 y110 l0_5 (l0_5.length : Int) (wrap64 (x14_1 + 1)) a0_0 a0_1 l0_2 l0_3 l0_4 l0_5 a0_6 a0_7) = some (r1, r2) := by first | (rw [hy110]; with_reducible exact H) | (have H2_ := (Option.bind_some _ _).symm.trans H; rw [hy110]; with_reducible exact H2_) | (have H2_ := (Option.bind_some _ _).symm.trans H; with_reducible exact H2_) | with_reducible exact H | (rw [hy110]; exact H) | exact H
        have Ny110 := Aside0.mk hy110
        clear hy110
        have H' := Aside0.mk H
        clear H
        have p105 : 0 ≤ (x14_1 : Int) := of_decide_eq_true (by first | (with_reducible assumption) | assumption)
        have q105 : x14_1 < (l0_5.length : Int) := of_decide_eq_true (by first | (with_reducible assumption) | assumption)
        obtain ⟨ad105, A105_1, c105_1, e105, hx105_0, hx105_1, hl105_1, hi105_1⟩ := at_T35 (Kd.V_reads' HO_12.out).2.2 x14_1 p105 q105
        cases e105
        obtain ⟨ce105, hce105, hMe105, hcc105⟩ := Kd.V_get HO_12.out z35 x14_1 p105 (by first | exact q105 | exact of_decide_eq_true (by first | (with_reducible assumption) | assumption) | (have e_ := (Kd.V_reads' HO_12.out).1; omega))
        obtain ⟨ua105_1, uc105_1, rfl, ul105_1, ge105_1⟩ := k35_openF hMe105
        have hv105_1 := hcc105 1 _ rfl
        rw [add_field _ _ 1 (by omega)] at hv105_1
        replace hv105_1 := Option.some.inj (hv105_1.symm.trans hx105_1)
        injection hv105_1 with hva_ hvn_ hvc_
        rw [hva_] at ge105_1
        rw [hvc_] at ul105_1
        have HL105_1 := Aside0.mk (show Kd.V Kd.string 9 _ w.heap.size _ _ ((rd_T35 l0_5 x14_1).f1) from Kd.V_mk ul105_1 ge105_1)
        clear hva_ hvn_ hvc_ ge105_1 ul105_1
        clear hcc105 hce105
        have HR105_1 := Aside0.mk hi105_1
        have HC105_1 := Aside0.mk hl105_1
        clear hi105_1 hl105_1
        replace p105 := eq_true p105
        replace q105 := eq_true q105
        go_wp2_with (first | ((with_reducible refine gate_dst (N := 7) rfl ?_); refine box_event ?hg (N := 7) ?hd (cs := #[.string (⟨#[]⟩ : ByteArray), .slice none 0 0]) (t := 35) ?hr ?_; (case hd => rfl); (case hg => rfl); (case hr => first | (go_simp; done) | (go_simp; rfl)); intro gb106 hg w12 hbox hb; have n0_ := Aside0.mk (Kd.R_below (by exact HO_4.out) hb); have n1_ := Aside0.mk (Kd.N_below (Kd.N_elderB (by exact HO_5.out) gb106 (Nat.le_of_eq hg.symm)) hb); have n2_ := Aside0.mk (Kd.V_below (Kd.V_elderB (by exact HO_12.out) gb106 (Nat.le_of_eq hg.symm)) hb); have n3_ := Aside0.mk (Kd.V_below (Kd.V_elderB (by exact HO_102002.out) gb106 (Nat.le_of_eq hg.symm)) hb); have n4_ := Aside0.mk (Kd.V_below (Kd.V_elderB (by exact HO_102003.out) gb106 (Nat.le_of_eq hg.symm)) hb); have n5_ := Aside0.mk (Kd.V_below (Kd.V_elderB (by exact HO_102004.out) gb106 (Nat.le_of_eq hg.symm)) hb); have n6_ := Aside0.mk (Kd.V_below (Kd.V_elderB (by exact HO_102005.out) gb106 (Nat.le_of_eq hg.symm)) hb); have n7_ := Aside0.mk (Kd.V_below (Kd.V_elderB (by exact HL105_1.out) gb106 (Nat.le_of_eq hg.symm)) hb); have n8_ := Aside0.mk (blk_below (g := gb101) (o := .cells #[.bool a0_0, .bool a0_1, .slice A0_2 l0_2.length c0_2, .slice A0_3 l0_3.length c0_3, .slice A0_4 l0_4.length c0_4, .slice (some ad105) l0_5.length c0_5, .bool a0_6, .bool a0_7] 25 (0, 0)) (by exact BK101.out) hb); have n9_ := Aside0.mk (Kd.C_below (by repeat (first | (with_reducible exact HR105_1.out) | (with_reducible refine Kd.C_alloc ?_ _) | (with_reducible refine Kd.C_drewN ?_ _) | (with_reducible refine Kd.C_drew ?_) | exact HR105_1.out)) hb); have n10_ := Aside0.mk (below_step (by repeat (first | (with_reducible first | exact HB.out | apply below_alloc | apply pw_below_drewN | apply below_drew1 | refine below_set ?_ GE101.out) | exact HB.out)) hb); have n11_ := Aside0.mk (hbox); have n12_ := Aside0.mk ((by rw [hg]; exact (below_size (by repeat (first | (with_reducible first | exact HB.out | apply below_alloc | apply pw_below_drewN | apply below_drew1 | refine below_set ?_ GE101.out) | exact HB.out))) : w.heap.size ≤ gb106)); have n13_ := Aside0.mk ((by rw [hg]; exact (below_size (by repeat (first | (with_reducible first | exact HB.out | apply below_alloc | apply pw_below_drewN | apply below_drew1 | refine below_set ?_ GE101.out) | exact HB.out))) : w.heap.size ≤ gb106)); have n14_ := Aside0.mk ((by rw [hg]; exact Nat.ne_of_lt (blk_lt (g := gb101) (o := .cells #[.bool a0_0, .bool a0_1, .slice A0_2 l0_2.length c0_2, .slice A0_3 l0_3.length c0_3, .slice A0_4 l0_4.length c0_4, .slice (some ad105) l0_5.length c0_5, .bool a0_6, .bool a0_7] 25 (0, 0)) (by exact BK101.out)) : gb101 ≠ gb106)); have n15_ := Aside0.mk ((by rw [hg]; exact Nat.ne_of_gt (blk_lt (g := gb101) (o := .cells #[.bool a0_0, .bool a0_1, .slice A0_2 l0_2.length c0_2, .slice A0_3 l0_3.length c0_3, .slice A0_4 l0_4.length c0_4, .slice (some ad105) l0_5.length c0_5, .bool a0_6, .bool a0_7] 25 (0, 0)) (by exact BK101.out)) : gb106 ≠ gb101)); clear HO_4; clear HO_5; clear HO_12; clear HO_102002; clear HO_102003; clear HO_102004; clear HO_102005; clear HL105_1; clear BK101; clear HR105_1; clear HB; have HO_4 := n0_; have HO_5 := n1_; have HO_12 := n2_; have HO_102002 := n3_; have HO_102003 := n4_; have HO_102004 := n5_; have HO_102005 := n6_; have HL105_1 := n7_; have BK101 := n8_; have HR105_1 := n9_; have HB := n10_; have BK106 := n11_; have GW106 := n12_; have GE106 := n13_; have NB101_106 := n14_; have NB106_101 := n15_; clear n0_ n1_ n2_ n3_ n4_ n5_ n6_ n7_ n8_ n9_ n10_ n11_ n12_ n13_ n14_ n15_; clear hb hbox hg; have hnb13 := NB106_101.out; have hnc13 := NB101_106.out; have hcz14_0 : w12.cell? ⟨gb106, 0, none⟩ = some (.string (⟨#[]⟩ : ByteArray)) := (blk_cell BK106.out 0).trans rfl; have hcz14_1 : w12.cell? ⟨gb106, 1, none⟩ = some (.slice none 0 0) := (blk_cell BK106.out 1).trans rfl; have hfz14_0 := blk_frozen BK106.out 0; have hfz14_1 := blk_frozen BK106.out 1) | ((with_reducible refine gate_builtin (b := .append) (xs := #[.tmp 18, .tmp 21]) rfl ?_); at_builtin; refine Kd.R_append Kd.string (w0 := w) w.heap.size rfl (.tmp 18) (.tmp 21) 22 9 (.string ⟨#[]⟩) 16 rfl Try.underlying22 info9 rfl (by decide) (by omega) u4 x4_1 ((rd_T35 l0_5 x14_1).f0) [.string ((rd_T35 l0_5 x14_1).f0)] (fun k_ => (w.heap.size ≤ k_)) (fun _ => False) rfl (by first | (go_simp; done) | (go_simp; rfl)) ?aP (fun _ hk => hk.elim) ?aF ?aO ?aB ?aS ?aL ?_; (case aP => exact rfl); (case aB => exact (by repeat (first | (with_reducible first | exact HB.out | apply below_alloc | apply pw_below_drewN | apply below_drew1 | refine below_set ?_ GE101.out | refine below_set ?_ GE106.out) | exact HB.out))); (case aF => exact (fun k_ hk => (Nat.le_trans (below_size (by repeat (first | (with_reducible first | exact HB.out | apply below_alloc | apply pw_below_drewN | apply below_drew1 | refine below_set ?_ GE101.out | refine below_set ?_ GE106.out) | exact HB.out))) hk))); (case aO => exact (by exact Kd.R_mono (Kd.R_far (p := ⟨gb106, 1, none⟩) (Kd.R_far (p := ⟨gb106, 0, none⟩) (Kd.R_types HO_4.out BK106.out (by decide)) (fun _ hk => hk.2) (.string ((rd_T35 l0_5 x14_1).f0))) (fun _ hk => hk.2) (.slice A105_1 ((rd_T35 l0_5 x14_1).f1).length c105_1)) (fun _ hk => hk.1))); (case aS => exact (below_size (by repeat (first | (with_reducible first | exact HB.out | apply below_alloc | apply pw_below_drewN | apply below_drew1 | refine below_set ?_ GE101.out | refine below_set ?_ GE106.out) | exact HB.out)))); (case aL => have := LMc10.out; omega); intro v108 w15 ho hb hg hat; rw [← Ny107.out] at ho; have n0_ := Aside0.mk (Kd.N_afterv (ok := (fun k_ => ((P0_2_ k_ ∨ P0_3_ k_ ∨ P0_4_ k_ ∨ P0_5_ k_) ∨ w.heap.size ≤ k_) ∧ k_ ≠ gb101 ∧ k_ ≠ gb106)) (by exact Kd.N_mono (Kd.N_far (p := ⟨gb106, 1, none⟩) (Kd.N_far (p := ⟨gb106, 0, none⟩) (Kd.N_mono HO_5.out (fun k_ hk => (⟨hk, hk.2⟩ : _ ∧ k_ ≠ gb106))) (fun _ hk => hk.2) (.string ((rd_T35 l0_5 x14_1).f0))) (fun _ hk => hk.2) (.slice A105_1 ((rd_T35 l0_5 x14_1).f1).length c105_1)) (fun _ hk => ⟨⟨hk.1.1.1, ⟨hk.1.1.2.2, hk.1.2⟩⟩, hk.1.1.2.1⟩)) hg hat); have n1_ := Aside0.mk (Kd.V_afterv (ok := (fun k_ => ((P0_2_ k_ ∨ P0_3_ k_ ∨ P0_4_ k_ ∨ P0_5_ k_) ∨ w.heap.size ≤ k_) ∧ some k_ ≠ (u5 : Value).ownBlock ∧ k_ ≠ gb101 ∧ k_ ≠ gb106)) (by exact Kd.V_mono (Kd.V_far (p := ⟨gb106, 1, none⟩) (Kd.V_far (p := ⟨gb106, 0, none⟩) (Kd.V_mono HO_12.out (fun k_ hk => (⟨hk, hk.2⟩ : _ ∧ k_ ≠ gb106))) (fun _ hk => hk.2) (.string ((rd_T35 l0_5 x14_1).f0))) (fun _ hk => hk.2) (.slice A105_1 ((rd_T35 l0_5 x14_1).f1).length c105_1)) (fun _ hk => ⟨⟨hk.1.1.1, ⟨hk.1.1.2.2.1, ⟨hk.1.1.2.2.2, hk.1.2⟩⟩⟩, hk.1.1.2.1⟩)) hg hat); have n2_ := Aside0.mk (Kd.V_afterv (ok := (fun k_ => ((P0_2_ k_ ∨ P0_3_ k_ ∨ P0_4_ k_ ∨ P0_5_ k_) ∨ w.heap.size ≤ k_) ∧ some k_ ≠ (u5 : Value).ownBlock ∧ k_ ≠ gb101 ∧ k_ ≠ gb106)) (by exact Kd.V_mono (Kd.V_far (p := ⟨gb106, 1, none⟩) (Kd.V_far (p := ⟨gb106, 0, none⟩) (Kd.V_mono HO_102002.out (fun k_ hk => (⟨hk, hk.2⟩ : _ ∧ k_ ≠ gb106))) (fun _ hk => hk.2) (.string ((rd_T35 l0_5 x14_1).f0))) (fun _ hk => hk.2) (.slice A105_1 ((rd_T35 l0_5 x14_1).f1).length c105_1)) (fun _ hk => ⟨⟨hk.1.1.1, ⟨hk.1.1.2.2.1, ⟨hk.1.1.2.2.2, hk.1.2⟩⟩⟩, hk.1.1.2.1⟩)) hg hat); have n3_ := Aside0.mk (Kd.V_afterv (ok := (fun k_ => ((P0_2_ k_ ∨ P0_3_ k_ ∨ P0_4_ k_ ∨ P0_5_ k_) ∨ w.heap.size ≤ k_) ∧ some k_ ≠ (u5 : Value).ownBlock ∧ k_ ≠ gb101 ∧ k_ ≠ gb106)) (by exact Kd.V_mono (Kd.V_far (p := ⟨gb106, 1, none⟩) (Kd.V_far (p := ⟨gb106, 0, none⟩) (Kd.V_mono HO_102003.out (fun k_ hk => (⟨hk, hk.2⟩ : _ ∧ k_ ≠ gb106))) (fun _ hk => hk.2) (.string ((rd_T35 l0_5 x14_1).f0))) (fun _ hk => hk.2) (.slice A105_1 ((rd_T35 l0_5 x14_1).f1).length c105_1)) (fun _ hk => ⟨⟨hk.1.1.1, ⟨hk.1.1.2.2.1, ⟨hk.1.1.2.2.2, hk.1.2⟩⟩⟩, hk.1.1.2.1⟩)) hg hat); have n4_ := Aside0.mk (Kd.V_afterv (ok := (fun k_ => ((P0_2_ k_ ∨ P0_3_ k_ ∨ P0_4_ k_ ∨ P0_5_ k_) ∨ w.heap.size ≤ k_) ∧ some k_ ≠ (u5 : Value).ownBlock ∧ k_ ≠ gb101 ∧ k_ ≠ gb106)) (by exact Kd.V_mono (Kd.V_far (p := ⟨gb106, 1, none⟩) (Kd.V_far (p := ⟨gb106, 0, none⟩) (Kd.V_mono HO_102004.out (fun k_ hk => (⟨hk, hk.2⟩ : _ ∧ k_ ≠ gb106))) (fun _ hk => hk.2) (.string ((rd_T35 l0_5 x14_1).f0))) (fun _ hk => hk.2) (.slice A105_1 ((rd_T35 l0_5 x14_1).f1).length c105_1)) (fun _ hk => ⟨⟨hk.1.1.1, ⟨hk.1.1.2.2.1, ⟨hk.1.1.2.2.2, hk.1.2⟩⟩⟩, hk.1.1.2.1⟩)) hg hat); have n5_ := Aside0.mk (Kd.V_afterv (ok := (fun k_ => ((P0_2_ k_ ∨ P0_3_ k_ ∨ P0_4_ k_ ∨ P0_5_ k_) ∨ w.heap.size ≤ k_) ∧ some k_ ≠ (u5 : Value).ownBlock ∧ k_ ≠ gb101 ∧ k_ ≠ gb106)) (by exact Kd.V_mono (Kd.V_far (p := ⟨gb106, 1, none⟩) (Kd.V_far (p := ⟨gb106, 0, none⟩) (Kd.V_mono HO_102005.out (fun k_ hk => (⟨hk, hk.2⟩ : _ ∧ k_ ≠ gb106))) (fun _ hk => hk.2) (.string ((rd_T35 l0_5 x14_1).f0))) (fun _ hk => hk.2) (.slice A105_1 ((rd_T35 l0_5 x14_1).f1).length c105_1)) (fun _ hk => ⟨⟨hk.1.1.1, ⟨hk.1.1.2.2.1, ⟨hk.1.1.2.2.2, hk.1.2⟩⟩⟩, hk.1.1.2.1⟩)) hg hat); have n6_ := Aside0.mk (blk_grown (g := gb101) (o := .cells #[.bool a0_0, .bool a0_1, .slice A0_2 l0_2.length c0_2, .slice A0_3 l0_3.length c0_3, .slice A0_4 l0_4.length c0_4, .slice (some ad105) l0_5.length c0_5, .bool a0_6, .bool a0_7] 25 (0, 0)) (by refine blk_far ?_ NB101_106.out _; refine blk_far ?_ NB101_106.out _; exact BK101.out) hg (Kd.R_ne HO_4.out BK101.out (by decide))); have n7_ := Aside0.mk (Kd.V_afterv (ok := (fun k_ => ((P0_2_ k_ ∨ P0_3_ k_ ∨ P0_4_ k_ ∨ P0_5_ k_) ∨ w.heap.size ≤ k_) ∧ some k_ ≠ (u5 : Value).ownBlock ∧ k_ ≠ gb101 ∧ k_ ≠ gb106)) (by exact Kd.V_mono (Kd.V_far (p := ⟨gb106, 1, none⟩) (Kd.V_far (p := ⟨gb106, 0, none⟩) (Kd.V_mono HL105_1.out (fun k_ hk => (⟨hk, hk.2⟩ : _ ∧ k_ ≠ gb106))) (fun _ hk => hk.2) (.string ((rd_T35 l0_5 x14_1).f0))) (fun _ hk => hk.2) (.slice A105_1 ((rd_T35 l0_5 x14_1).f1).length c105_1)) (fun _ hk => ⟨⟨hk.1.1.1, ⟨hk.1.1.2.2.1, ⟨hk.1.1.2.2.2, hk.1.2⟩⟩⟩, hk.1.1.2.1⟩)) hg hat); have n8_ := Aside0.mk (blk_grown (g := gb106) (o := .cells #[.string ((rd_T35 l0_5 x14_1).f0), .slice A105_1 ((rd_T35 l0_5 x14_1).f1).length c105_1] 35 (0, 0)) (by refine blk_put (cs := #[.string ((rd_T35 l0_5 x14_1).f0), .slice none 0 0]) ?_ 1 _ rfl; refine blk_put (cs := #[.string (⟨#[]⟩ : ByteArray), .slice none 0 0]) ?_ 0 _ rfl; exact BK106.out) hg (Kd.R_ne HO_4.out BK106.out (by decide))); have n9_ := Aside0.mk (hb); have n10_ := Aside0.mk (ho); clear HO_5; clear HO_12; clear HO_102002; clear HO_102003; clear HO_102004; clear HO_102005; clear BK101; clear HL105_1; clear BK106; clear HB; clear HO_4; have HO_5 := n0_; have HO_12 := n1_; have HO_102002 := n2_; have HO_102003 := n3_; have HO_102004 := n4_; have HO_102005 := n5_; have BK101 := n6_; have HL105_1 := n7_; have BK106 := n8_; have HB := n9_; have HO109 := n10_; clear n0_ n1_ n2_ n3_ n4_ n5_ n6_ n7_ n8_ n9_ n10_; clear ho hb hg hat; have hcz16_0 : w15.cell? ⟨gb106, 0, none⟩ = some (.string ((rd_T35 l0_5 x14_1).f0)) := (blk_cell BK106.out 0).trans rfl; have hcz16_1 : w15.cell? ⟨gb106, 1, none⟩ = some (.slice A105_1 ((rd_T35 l0_5 x14_1).f1).length c105_1) := (blk_cell BK106.out 1).trans rfl; have hfz16_0 := blk_frozen BK106.out 0; have hfz16_1 := blk_frozen BK106.out 1) | ((with_reducible refine gate_builtin (b := .append) (xs := #[.tmp 23, .tmp 26]) rfl ?_); at_builtin; refine Kd.N_append (Kd.slice 9 Kd.string) (w0 := w) w.heap.size rfl (.tmp 23) (.tmp 26) 47 22 (.slice none 0 0) 24 rfl Try.underlying47 info22 rfl (by decide) (by omega) u5 x5_1 ((rd_T35 l0_5 x14_1).f1) [.slice A105_1 ((rd_T35 l0_5 x14_1).f1).length c105_1] (fun k_ => ((P0_2_ k_ ∨ P0_3_ k_ ∨ P0_4_ k_ ∨ P0_5_ k_) ∨ w.heap.size ≤ k_) ∧ some k_ ≠ (v108 : Value).ownBlock ∧ k_ ≠ gb101 ∧ k_ ≠ gb106) (fun k_ => ((fun k_ => ((P0_2_ k_ ∨ P0_3_ k_ ∨ P0_4_ k_ ∨ P0_5_ k_) ∨ w.heap.size ≤ k_) ∧ some k_ ≠ (v108 : Value).ownBlock ∧ k_ ≠ gb101 ∧ k_ ≠ gb106)) k_ ∧ some k_ ≠ (u5 : Value).ownBlock) rfl rfl ?aP (fun _ hk => hk) ?aF ?aO ?aB ?aS ?aL ?_; (case aP => exact (Kd.FK_slice_mk (Kd.V_reads' (Kd.V_mono (ok' := (fun k_ => ((fun k_ => ((P0_2_ k_ ∨ P0_3_ k_ ∨ P0_4_ k_ ∨ P0_5_ k_) ∨ w.heap.size ≤ k_) ∧ some k_ ≠ (v108 : Value).ownBlock ∧ k_ ≠ gb101 ∧ k_ ≠ gb106)) k_ ∧ some k_ ≠ (u5 : Value).ownBlock)) (HL105_1.out) (fun k_ hk => ⟨⟨hk.1.1, ⟨hk.2, ⟨hk.1.2.2.1, hk.1.2.2.2⟩⟩⟩, hk.1.2.1⟩))).2.1 (Kd.V_F (Kd.V_mono (ok' := (fun k_ => ((fun k_ => ((P0_2_ k_ ∨ P0_3_ k_ ∨ P0_4_ k_ ∨ P0_5_ k_) ∨ w.heap.size ≤ k_) ∧ some k_ ≠ (v108 : Value).ownBlock ∧ k_ ≠ gb101 ∧ k_ ≠ gb106)) k_ ∧ some k_ ≠ (u5 : Value).ownBlock)) (HL105_1.out) (fun k_ hk => ⟨⟨hk.1.1, ⟨hk.2, ⟨hk.1.2.2.1, hk.1.2.2.2⟩⟩⟩, hk.1.2.1⟩))))); (case aB => exact (by repeat (first | (with_reducible first | exact HB.out | apply below_alloc | apply pw_below_drewN | apply below_drew1 | refine below_set ?_ GE101.out | refine below_set ?_ GE106.out) | exact HB.out))); (case aF => exact (fun k_ hk => ⟨(.inr (Nat.le_trans (below_size (by repeat (first | (with_reducible first | exact HB.out | apply below_alloc | apply pw_below_drewN | apply below_drew1 | refine below_set ?_ GE101.out | refine below_set ?_ GE106.out) | exact HB.out))) hk)), Kd.fresh' (Kd.R_lt (by exact HO109.out)) k_ hk, Kd.freshB (g := gb101) (o := .cells #[.bool a0_0, .bool a0_1, .slice A0_2 l0_2.length c0_2, .slice A0_3 l0_3.length c0_3, .slice A0_4 l0_4.length c0_4, .slice (some ad105) l0_5.length c0_5, .bool a0_6, .bool a0_7] 25 (0, 0)) (by exact BK101.out) k_ hk, Kd.freshB (g := gb106) (o := .cells #[.string ((rd_T35 l0_5 x14_1).f0), .slice A105_1 ((rd_T35 l0_5 x14_1).f1).length c105_1] 35 (0, 0)) (by exact BK106.out) k_ hk⟩)); (case aO => exact (by exact Kd.N_mono HO_5.out (fun _ hk => ⟨hk.1.1, ⟨hk.2, ⟨hk.1.2.1, hk.1.2.2⟩⟩⟩))); (case aS => exact (below_size (by repeat (first | (with_reducible first | exact HB.out | apply below_alloc | apply pw_below_drewN | apply below_drew1 | refine below_set ?_ GE101.out | refine below_set ?_ GE106.out) | exact HB.out)))); (case aL => have := LMc11.out; omega); intro v111 w17 ho hb hg hat; rw [← Ny110.out] at ho; have n0_ := Aside0.mk (Kd.V_afterv (ok := (fun k_ => ((P0_2_ k_ ∨ P0_3_ k_ ∨ P0_4_ k_ ∨ P0_5_ k_) ∨ w.heap.size ≤ k_) ∧ some k_ ≠ (v108 : Value).ownBlock ∧ k_ ≠ gb101 ∧ k_ ≠ gb106)) (by exact Kd.V_mono HO_12.out (fun _ hk => ⟨⟨hk.1.1, ⟨hk.2, ⟨hk.1.2.2.1, hk.1.2.2.2⟩⟩⟩, hk.1.2.1⟩)) hg hat); have n1_ := Aside0.mk (Kd.V_afterv (ok := (fun k_ => ((P0_2_ k_ ∨ P0_3_ k_ ∨ P0_4_ k_ ∨ P0_5_ k_) ∨ w.heap.size ≤ k_) ∧ some k_ ≠ (v108 : Value).ownBlock ∧ k_ ≠ gb101 ∧ k_ ≠ gb106)) (by exact Kd.V_mono HO_102002.out (fun _ hk => ⟨⟨hk.1.1, ⟨hk.2, ⟨hk.1.2.2.1, hk.1.2.2.2⟩⟩⟩, hk.1.2.1⟩)) hg hat); have n2_ := Aside0.mk (Kd.V_afterv (ok := (fun k_ => ((P0_2_ k_ ∨ P0_3_ k_ ∨ P0_4_ k_ ∨ P0_5_ k_) ∨ w.heap.size ≤ k_) ∧ some k_ ≠ (v108 : Value).ownBlock ∧ k_ ≠ gb101 ∧ k_ ≠ gb106)) (by exact Kd.V_mono HO_102003.out (fun _ hk => ⟨⟨hk.1.1, ⟨hk.2, ⟨hk.1.2.2.1, hk.1.2.2.2⟩⟩⟩, hk.1.2.1⟩)) hg hat); have n3_ := Aside0.mk (Kd.V_afterv (ok := (fun k_ => ((P0_2_ k_ ∨ P0_3_ k_ ∨ P0_4_ k_ ∨ P0_5_ k_) ∨ w.heap.size ≤ k_) ∧ some k_ ≠ (v108 : Value).ownBlock ∧ k_ ≠ gb101 ∧ k_ ≠ gb106)) (by exact Kd.V_mono HO_102004.out (fun _ hk => ⟨⟨hk.1.1, ⟨hk.2, ⟨hk.1.2.2.1, hk.1.2.2.2⟩⟩⟩, hk.1.2.1⟩)) hg hat); have n4_ := Aside0.mk (Kd.V_afterv (ok := (fun k_ => ((P0_2_ k_ ∨ P0_3_ k_ ∨ P0_4_ k_ ∨ P0_5_ k_) ∨ w.heap.size ≤ k_) ∧ some k_ ≠ (v108 : Value).ownBlock ∧ k_ ≠ gb101 ∧ k_ ≠ gb106)) (by exact Kd.V_mono HO_102005.out (fun _ hk => ⟨⟨hk.1.1, ⟨hk.2, ⟨hk.1.2.2.1, hk.1.2.2.2⟩⟩⟩, hk.1.2.1⟩)) hg hat); have n5_ := Aside0.mk (blk_grown (g := gb101) (o := .cells #[.bool a0_0, .bool a0_1, .slice A0_2 l0_2.length c0_2, .slice A0_3 l0_3.length c0_3, .slice A0_4 l0_4.length c0_4, .slice (some ad105) l0_5.length c0_5, .bool a0_6, .bool a0_7] 25 (0, 0)) (by exact BK101.out) hg (Kd.N_ne HO_5.out BK101.out (by decide))); have n6_ := Aside0.mk (Kd.V_afterv (ok := (fun k_ => ((P0_2_ k_ ∨ P0_3_ k_ ∨ P0_4_ k_ ∨ P0_5_ k_) ∨ w.heap.size ≤ k_) ∧ some k_ ≠ (v108 : Value).ownBlock ∧ k_ ≠ gb101 ∧ k_ ≠ gb106)) (by exact Kd.V_mono HL105_1.out (fun _ hk => ⟨⟨hk.1.1, ⟨hk.2, ⟨hk.1.2.2.1, hk.1.2.2.2⟩⟩⟩, hk.1.2.1⟩)) hg hat); have n7_ := Aside0.mk (blk_grown (g := gb106) (o := .cells #[.string ((rd_T35 l0_5 x14_1).f0), .slice A105_1 ((rd_T35 l0_5 x14_1).f1).length c105_1] 35 (0, 0)) (by exact BK106.out) hg (Kd.N_ne HO_5.out BK106.out (by decide))); have n8_ := Aside0.mk (Kd.R_over' (by exact HO109.out) (Kd.N_typed (by exact HO_5.out)) (by decide) hg); have n9_ := Aside0.mk (hb); have n10_ := Aside0.mk (ho); clear HO_12; clear HO_102002; clear HO_102003; clear HO_102004; clear HO_102005; clear BK101; clear HL105_1; clear BK106; clear HO109; clear HB; clear HO_5; have HO_12 := n0_; have HO_102002 := n1_; have HO_102003 := n2_; have HO_102004 := n3_; have HO_102005 := n4_; have BK101 := n5_; have HL105_1 := n6_; have BK106 := n7_; have HO109 := n8_; have HB := n9_; have HO112 := n10_; clear n0_ n1_ n2_ n3_ n4_ n5_ n6_ n7_ n8_ n9_ n10_; clear ho hb hg hat))
        go_roundg k1
        case measure => have := HK1.out; omega
        case rel => exact ⟨(y107), (y110), (wrap64 (x14_1 + 1)), (by first | rfl | (simp; done) | (simp [*]; done)), H', ⟨by have := HK1.out; omega⟩, ⟨by exact HO109.out⟩, ⟨by exact Kd.N_mono HO112.out (fun _ hk => ⟨hk.1, ⟨hk.2.1, hk.2.2.1⟩⟩)⟩, ⟨by exact Kd.V_mono HO_12.out (fun _ hk => ⟨hk.1.1, ⟨hk.1.2.1, ⟨hk.2, hk.1.2.2.1⟩⟩⟩)⟩, ⟨by exact Kd.V_mono HO_102002.out (fun _ hk => ⟨hk.1.1, ⟨hk.1.2.1, ⟨hk.2, hk.1.2.2.1⟩⟩⟩)⟩, ⟨by exact Kd.V_mono HO_102003.out (fun _ hk => ⟨hk.1.1, ⟨hk.1.2.1, ⟨hk.2, hk.1.2.2.1⟩⟩⟩)⟩, ⟨by exact Kd.V_mono HO_102004.out (fun _ hk => ⟨hk.1.1, ⟨hk.1.2.1, ⟨hk.2, hk.1.2.2.1⟩⟩⟩)⟩, ⟨by exact Kd.V_mono HO_102005.out (fun _ hk => ⟨hk.1.1, ⟨hk.1.2.1, ⟨hk.2, hk.1.2.2.1⟩⟩⟩)⟩, ⟨by exact BK101.out⟩, ⟨by repeat (first | (with_reducible first | exact HB.out | apply below_alloc | apply pw_below_drewN | apply below_drew1 | refine below_set ?_ GE101.out | refine below_set ?_ GE106.out) | exact HB.out)⟩⟩
       ·rw [if_neg c11] at H
        exact absurd H (by simp)
      ·rw [if_neg c10] at H
       exact absurd H (by simp)
     ·rw [if_neg c9] at H
      exact absurd H (by simp)
    ·rw [if_neg c8] at H
     exact absurd H (by simp)
   ·rw [if_neg c7] at H
    have c7b0 : decide (x14_1 < (l0_5.length : Int)) = false := decide_eq_false c7
    clear c7
    obtain ⟨y113, hy113⟩ : ∃ y_ : List (List ByteArray), y_ = (([l0_2, l0_3, x4_1] : List (List ByteArray))) := ⟨_, rfl⟩
    replace H : (some (y113, x5_1)) = some (r1, r2) := by first | (rw [hy113]; with_reducible exact H) | (have H2_ := (Option.bind_some _ _).symm.trans H; rw [hy113]; with_reducible exact H2_) | (have H2_ := (Option.bind_some _ _).symm.trans H; with_reducible exact H2_) | with_reducible exact H | (rw [hy113]; exact H) | exact H
    have Ny113 := Aside0.mk hy113
    clear hy113
    simp only [Option.some.injEq, Prod.mk.injEq] at H
    obtain ⟨rfl, rfl⟩ := H
    have hcz18_0 : wr.cell? ⟨gb101, 0, none⟩ = some (.bool a0_0) := (blk_cell BK101.out 0).trans rfl
    have hcz18_1 : wr.cell? ⟨gb101, 1, none⟩ = some (.bool a0_1) := (blk_cell BK101.out 1).trans rfl
    have hcz18_2 : wr.cell? ⟨gb101, 2, none⟩ = some (.slice A0_2 l0_2.length c0_2) := (blk_cell BK101.out 2).trans rfl
    have hcz18_3 : wr.cell? ⟨gb101, 3, none⟩ = some (.slice A0_3 l0_3.length c0_3) := (blk_cell BK101.out 3).trans rfl
    have hcz18_4 : wr.cell? ⟨gb101, 4, none⟩ = some (.slice A0_4 l0_4.length c0_4) := (blk_cell BK101.out 4).trans rfl
    have hcz18_5 : wr.cell? ⟨gb101, 5, none⟩ = some (.slice A0_5 l0_5.length c0_5) := (blk_cell BK101.out 5).trans rfl
    have hcz18_6 : wr.cell? ⟨gb101, 6, none⟩ = some (.bool a0_6) := (blk_cell BK101.out 6).trans rfl
    have hcz18_7 : wr.cell? ⟨gb101, 7, none⟩ = some (.bool a0_7) := (blk_cell BK101.out 7).trans rfl
    have hfz18_0 := blk_frozen BK101.out 0
    have hfz18_1 := blk_frozen BK101.out 1
    have hfz18_2 := blk_frozen BK101.out 2
    have hfz18_3 := blk_frozen BK101.out 3
    have hfz18_4 := blk_frozen BK101.out 4
    have hfz18_5 := blk_frozen BK101.out 5
    have hfz18_6 := blk_frozen BK101.out 6
    have hfz18_7 := blk_frozen BK101.out 7
    obtain ⟨Ao19, co19, eo19⟩ := Kd.R_slice HO_4.out
    subst eo19
    go_wp2_with (first | ((with_reducible refine gate_dst (N := 34) rfl ?_); refine Kd.N_lit (Kd.slice 9 Kd.string) _ 22 ?hg (N' := 34) ?hd (xs := ([l0_2, l0_3, x4_1] : List (List ByteArray))) (inner := [.slice A0_2 l0_2.length c0_2, .slice A0_3 l0_3.length c0_3, .slice Ao19 x4_1.length co19]) (ok := (fun k_ => ((P0_2_ k_ ∨ P0_3_ k_ ∨ P0_4_ k_ ∨ P0_5_ k_) ∨ w.heap.size ≤ k_) ∧ some k_ ≠ (u5 : Value).ownBlock ∧ k_ ≠ gb101)) (okp := (fun k_ => ((P0_2_ k_ ∨ P0_3_ k_ ∨ P0_4_ k_ ∨ P0_5_ k_) ∨ w.heap.size ≤ k_) ∧ some k_ ≠ (u5 : Value).ownBlock ∧ k_ ≠ gb101)) ?hr ?hp (fun _ hk => hk) ((show ∀ k_, wr.heap.size ≤ k_ → (fun k_ => ((P0_2_ k_ ∨ P0_3_ k_ ∨ P0_4_ k_ ∨ P0_5_ k_) ∨ w.heap.size ≤ k_) ∧ some k_ ≠ (u5 : Value).ownBlock ∧ k_ ≠ gb101) k_ from fun k_ hk => ⟨(.inr (Nat.le_trans (below_size (by repeat (first | (with_reducible first | exact HB.out | apply below_alloc | apply pw_below_drewN | apply below_drew1 | refine below_set ?_ GE101.out) | exact HB.out))) hk)), Kd.fresh' (Kd.N_lt (by exact HO_5.out)) k_ hk, Kd.freshB (g := gb101) (o := .cells #[.bool a0_0, .bool a0_1, .slice A0_2 l0_2.length c0_2, .slice A0_3 l0_3.length c0_3, .slice A0_4 l0_4.length c0_4, .slice A0_5 l0_5.length c0_5, .bool a0_6, .bool a0_7] 25 (0, 0)) (by exact BK101.out) k_ hk⟩) _ (Nat.le_refl _)) (Below.refl _ _) (Nat.le_refl _) (by simp) ?_; (case hd => rfl); (case hg => rfl); (case hr => first | (go_simp; done) | (go_simp; rfl)); (case hp => exact (Reps.one (show Kd.FK (Kd.slice 9 Kd.string) _ _ l0_2 [.slice A0_2 l0_2.length c0_2] from (Kd.FK_slice_mk (Kd.V_reads' (Kd.V_mono (ok' := (fun k_ => ((P0_2_ k_ ∨ P0_3_ k_ ∨ P0_4_ k_ ∨ P0_5_ k_) ∨ w.heap.size ≤ k_) ∧ some k_ ≠ (u5 : Value).ownBlock ∧ k_ ≠ gb101)) (HO_102002.out) (fun k_ hk => ⟨hk.1, ⟨hk.2.2.1, hk.2.2.2⟩⟩))).2.1 (Kd.V_F (Kd.V_mono (ok' := (fun k_ => ((P0_2_ k_ ∨ P0_3_ k_ ∨ P0_4_ k_ ∨ P0_5_ k_) ∨ w.heap.size ≤ k_) ∧ some k_ ≠ (u5 : Value).ownBlock ∧ k_ ≠ gb101)) (HO_102002.out) (fun k_ hk => ⟨hk.1, ⟨hk.2.2.1, hk.2.2.2⟩⟩))))) (Reps.one (show Kd.FK (Kd.slice 9 Kd.string) _ _ l0_3 [.slice A0_3 l0_3.length c0_3] from (Kd.FK_slice_mk (Kd.V_reads' (Kd.V_mono (ok' := (fun k_ => ((P0_2_ k_ ∨ P0_3_ k_ ∨ P0_4_ k_ ∨ P0_5_ k_) ∨ w.heap.size ≤ k_) ∧ some k_ ≠ (u5 : Value).ownBlock ∧ k_ ≠ gb101)) (HO_102003.out) (fun k_ hk => ⟨hk.1, ⟨hk.2.2.1, hk.2.2.2⟩⟩))).2.1 (Kd.V_F (Kd.V_mono (ok' := (fun k_ => ((P0_2_ k_ ∨ P0_3_ k_ ∨ P0_4_ k_ ∨ P0_5_ k_) ∨ w.heap.size ≤ k_) ∧ some k_ ≠ (u5 : Value).ownBlock ∧ k_ ≠ gb101)) (HO_102003.out) (fun k_ hk => ⟨hk.1, ⟨hk.2.2.1, hk.2.2.2⟩⟩))))) (Reps.one (show Kd.FK (Kd.slice 9 Kd.string) _ _ x4_1 [.slice Ao19 x4_1.length co19] from (Kd.FK_slice_mk (Kd.R_reads' (Kd.R_mono (ok' := (fun k_ => ((P0_2_ k_ ∨ P0_3_ k_ ∨ P0_4_ k_ ∨ P0_5_ k_) ∨ w.heap.size ≤ k_) ∧ some k_ ≠ (u5 : Value).ownBlock ∧ k_ ≠ gb101)) (Kd.R_types (Kd.R_apart' (HO_4.out) (Kd.N_typed HO_5.out) (by decide)) BK101.out (by decide)) (fun k_ hk => ⟨(.inr (hk.1.1)), ⟨hk.1.2, hk.2⟩⟩))).2.1 (Kd.R_F (Kd.R_mono (ok' := (fun k_ => ((P0_2_ k_ ∨ P0_3_ k_ ∨ P0_4_ k_ ∨ P0_5_ k_) ∨ w.heap.size ≤ k_) ∧ some k_ ≠ (u5 : Value).ownBlock ∧ k_ ≠ gb101)) (Kd.R_types (Kd.R_apart' (HO_4.out) (Kd.N_typed HO_5.out) (by decide)) BK101.out (by decide)) (fun k_ hk => ⟨(.inr (hk.1.1)), ⟨hk.1.2, hk.2⟩⟩))))) (Reps.none _ _))))); intro v114 w20 ho21 hb hg_ hnew_; clear hg_ hnew_; (first | rw [← Ny113.out] at ho21 | (simp only [Int.reduceToNat] at ho21; rw [← Ny113.out] at ho21)); have n0_ := Aside0.mk (Kd.N_elder' (by exact HO_5.out) (Kd.N_base ho21) hb); have n1_ := Aside0.mk (Kd.V_elder' (by exact HO_12.out) (Kd.N_base ho21) hb); have n2_ := Aside0.mk (Kd.V_elder' (by exact HO_102002.out) (Kd.N_base ho21) hb); have n3_ := Aside0.mk (Kd.V_elder' (by exact HO_102003.out) (Kd.N_base ho21) hb); have n4_ := Aside0.mk (Kd.V_elder' (by exact HO_102004.out) (Kd.N_base ho21) hb); have n5_ := Aside0.mk (Kd.V_elder' (by exact HO_102005.out) (Kd.N_base ho21) hb); have n6_ := Aside0.mk (Kd.N_lower ho21 (below_size (by repeat (first | (with_reducible first | exact HB.out | apply below_alloc | apply pw_below_drewN | apply below_drew1 | refine below_set ?_ GE101.out) | exact HB.out)))); have n7_ := Aside0.mk (blk_below (g := gb101) (o := .cells #[.bool a0_0, .bool a0_1, .slice A0_2 l0_2.length c0_2, .slice A0_3 l0_3.length c0_3, .slice A0_4 l0_4.length c0_4, .slice A0_5 l0_5.length c0_5, .bool a0_6, .bool a0_7] 25 (0, 0)) (by exact BK101.out) hb); have n8_ := Aside0.mk (below_step (by repeat (first | (with_reducible first | exact HB.out | apply below_alloc | apply pw_below_drewN | apply below_drew1 | refine below_set ?_ GE101.out) | exact HB.out)) hb); clear HO_5; clear HO_12; clear HO_102002; clear HO_102003; clear HO_102004; clear HO_102005; clear BK101; clear HB; clear HO_4; have HO_5 := n0_; have HO_12 := n1_; have HO_102002 := n2_; have HO_102003 := n3_; have HO_102004 := n4_; have HO_102005 := n5_; have HO115 := n6_; have BK101 := n7_; have HB := n8_; clear n0_ n1_ n2_ n3_ n4_ n5_ n6_ n7_ n8_; clear hb ho21))
    go_ret2
    exact ⟨_, _, by first | rfl | (simp [errW_none, errW_some] <;> rfl) | (simp [*, errW_none, errW_some] <;> rfl), by exact Kd.N_mono HO115.out (fun _ hk => ⟨hk.1, hk.2.1⟩), by exact Kd.N_mono HO_5.out (fun _ hk => ⟨hk.1.1, hk.2⟩), by repeat (first | (with_reducible first | exact HB.out | apply below_alloc | apply pw_below_drewN | apply below_drew1 | refine below_set ?_ GE101.out) | exact HB.out)⟩

def config_long.f (l0 : List ByteArray) : Option (Bool) := some (decide ((l0.length : Int) > 64))
set_option maxHeartbeats 8000000 in
set_option maxRecDepth 100000 in
theorem config_long.calls (A0 : Option Addr) (c0 : Nat) (l0 : List ByteArray) (r : Bool) (w : World) (hr0 : Kd.C Kd.string w A0 l0.length l0) (hc0 : l0.length ≤ c0) (h : config_long.f l0 = some r) :
  Calls Try.prog 42 #[.slice A0 l0.length c0] w fun e w' => e = .returned (.bool r) ∧ Drawn0 w w' := by
 have HR0 := Aside0.mk hr0
 have HC0 := Aside0.mk hc0
 clear hr0 hc0
 have H : (some (decide ((l0.length : Int) > 64))) = some r := h
 clear h
 obtain rfl := Option.some.inj H
 go_enter Try.func42, Try.ntmps42
 go_wp2
 go_ret
 exact ⟨by first | rfl | (simp; done) | (simp [*]; done) | (simp; generalize ByteArray.toList _ = l_; cases l_ <;> rfl), by repeat (first | exact Drawn0.refl _ | apply Drawn0.step)⟩

def config_twice.f (l0 : List ByteArray) : Option (Bool) := (fold_Sorted.f l0).bind fun t116 => (some ((t116.length : Int) != (l0.length : Int)))
set_option maxHeartbeats 8000000 in
set_option maxRecDepth 100000 in
theorem config_twice.calls (A0 : Option Addr) (c0 : Nat) (l0 : List ByteArray) (r : Bool) (w : World) (hr0 : Kd.C Kd.string w A0 l0.length l0) (hc0 : l0.length ≤ c0) (h : config_twice.f l0 = some r) :
  Calls Try.prog 46 #[.slice A0 l0.length c0] w fun e w' => e = .returned (.bool r) ∧ Below w.heap.size w w' := by
 have HR0 := Aside0.mk hr0
 have HC0 := Aside0.mk hc0
 clear hr0 hc0
 have HB := Aside0.mk (Below.refl w.heap.size w)
 have H : ((fold_Sorted.f l0).bind fun t116 => (some ((t116.length : Int) != (l0.length : Int)))) = some r := h
 clear h
 replace H := Option.bind_eq_some_iff.mp H
 obtain ⟨t116, A20, H⟩ := H
 have A2 := Aside0.mk A20
 clear A20
 obtain rfl := Option.some.inj H
 go_enter Try.func46, Try.ntmps46
 go_wp2_with (first | ((with_reducible refine gate_callee (f := 52) rfl ?_); refine goesL_ (some 4) rfl rfl Try.func52 (by kernel_rfl) rfl #[.slice A0 l0.length c0] rfl (by (try simp only [List.map_toArray, List.map_cons, List.map_nil]); first | done | rfl | (simp only [List.length_drop, List.length_take]; rfl)) ?_; (with_reducible refine (fold_Sorted.calls _ _ l0 t116 _ ?side1 ?side2 A2.out).mono ?_); (case side1 => repeat (first | exact HR0.out | (with_reducible refine Kd.C_alloc ?_ _) | (with_reducible refine Kd.C_drewN ?_ _) | (with_reducible refine Kd.C_drew ?_))); (case side2 => exact HC0.out); rintro e w3 ⟨v117, rfl, ho0, hb⟩; refine ⟨_, rfl, ?_⟩; have n0_ := Aside0.mk (Kd.R_lower ho0 (below_size (by repeat (first | (with_reducible first | exact HB.out | apply below_alloc | apply pw_below_drewN | apply below_drew1) | exact HB.out)))); have n1_ := Aside0.mk (below_step (by repeat (first | (with_reducible first | exact HB.out | apply below_alloc | apply pw_below_drewN | apply below_drew1) | exact HB.out)) hb); clear HB; have HO118 := n0_; have HB := n1_; clear n0_ n1_; (try clear hb); (try clear hb2); (try clear hk); (try clear hi); (try clear ho0); obtain ⟨Ao4, co4, eo4⟩ := Kd.R_slice HO118.out; subst eo4))
 go_ret
 exact ⟨by first | rfl | (simp [errW_none, errW_some] <;> rfl) | (simp [*, errW_none, errW_some] <;> rfl), by repeat (first | (with_reducible first | exact HB.out | apply below_alloc | apply pw_below_drewN | apply below_drew1) | exact HB.out)⟩

def fold_Space.f (a0 : Int) : Option (Bool) := if a0 = 32 then (some true) else (if a0 = 9 then (some true) else (if a0 = 10 then (some true) else (if a0 = 12 then (some true) else (some (a0 == 13)))))
set_option maxHeartbeats 8000000 in
set_option maxRecDepth 100000 in
theorem fold_Space.calls (a0 : Int) (r : Bool) (w : World) (h : fold_Space.f a0 = some r) :
  Calls Try.prog 78 #[.int .u8 a0] w fun e w' => e = .returned (.bool r) ∧ Drawn0 w w' := by
 have H : (if a0 = 32 then (some true) else (if a0 = 9 then (some true) else (if a0 = 10 then (some true) else (if a0 = 12 then (some true) else (some (a0 == 13)))))) = some r := h
 clear h
 by_cases c2 : a0 = 32
 ·rw [if_pos c2] at H
  have c2b0 : (a0 == 32) = true := beq_iff_eq.mpr c2
  have c2b1 : (a0 != 32) = false := bne_eq_false_iff_eq.mpr c2
  clear c2
  obtain rfl := Option.some.inj H
  go_enter Try.func78, Try.ntmps78
  go_wp2
  go_ret
  exact ⟨by first | rfl | (simp; done) | (simp [*]; done) | (simp; generalize ByteArray.toList _ = l_; cases l_ <;> rfl), by repeat (first | exact Drawn0.refl _ | apply Drawn0.step)⟩
 ·rw [if_neg c2] at H
  have c2b0 : (a0 == 32) = false := beq_eq_false_iff_ne.mpr c2
  have c2b1 : (a0 != 32) = true := bne_iff_ne.mpr c2
  by_cases c3 : a0 = 9
  ·rw [if_pos c3] at H
   have c3b0 : (a0 == 9) = true := beq_iff_eq.mpr c3
   have c3b1 : (a0 != 9) = false := bne_eq_false_iff_eq.mpr c3
   clear c3
   obtain rfl := Option.some.inj H
   go_enter Try.func78, Try.ntmps78
   go_wp2
   go_ret
   exact ⟨by first | rfl | (simp; done) | (simp [*]; done) | (simp; generalize ByteArray.toList _ = l_; cases l_ <;> rfl), by repeat (first | exact Drawn0.refl _ | apply Drawn0.step)⟩
  ·rw [if_neg c3] at H
   have c3b0 : (a0 == 9) = false := beq_eq_false_iff_ne.mpr c3
   have c3b1 : (a0 != 9) = true := bne_iff_ne.mpr c3
   by_cases c4 : a0 = 10
   ·rw [if_pos c4] at H
    have c4b0 : (a0 == 10) = true := beq_iff_eq.mpr c4
    have c4b1 : (a0 != 10) = false := bne_eq_false_iff_eq.mpr c4
    clear c4
    obtain rfl := Option.some.inj H
    go_enter Try.func78, Try.ntmps78
    go_wp2
    go_ret
    exact ⟨by first | rfl | (simp; done) | (simp [*]; done) | (simp; generalize ByteArray.toList _ = l_; cases l_ <;> rfl), by repeat (first | exact Drawn0.refl _ | apply Drawn0.step)⟩
   ·rw [if_neg c4] at H
    have c4b0 : (a0 == 10) = false := beq_eq_false_iff_ne.mpr c4
    have c4b1 : (a0 != 10) = true := bne_iff_ne.mpr c4
    by_cases c5 : a0 = 12
    ·rw [if_pos c5] at H
     have c5b0 : (a0 == 12) = true := beq_iff_eq.mpr c5
     have c5b1 : (a0 != 12) = false := bne_eq_false_iff_eq.mpr c5
     clear c5
     obtain rfl := Option.some.inj H
     go_enter Try.func78, Try.ntmps78
     go_wp2
     go_ret
     exact ⟨by first | rfl | (simp; done) | (simp [*]; done) | (simp; generalize ByteArray.toList _ = l_; cases l_ <;> rfl), by repeat (first | exact Drawn0.refl _ | apply Drawn0.step)⟩
    ·rw [if_neg c5] at H
     have c5b0 : (a0 == 12) = false := beq_eq_false_iff_ne.mpr c5
     have c5b1 : (a0 != 12) = true := bne_iff_ne.mpr c5
     obtain rfl := Option.some.inj H
     go_enter Try.func78, Try.ntmps78
     go_wp2
     go_ret
     exact ⟨by first | rfl | (simp; done) | (simp [*]; done) | (simp; generalize ByteArray.toList _ = l_; cases l_ <;> rfl), by repeat (first | exact Drawn0.refl _ | apply Drawn0.step)⟩

mutual
def names_plain.l0 : Nat → ByteArray → ByteArray → Int → Int → Option (Bool)
 | 0, _, _, _, _ => none
 | k + 1, x0, x1, x8, x9 => if x9 < x8 then (if 0 ≤ x9 then (if x9 < (x0.size : Int) then ((fold_Space.f (bt x0 x9)).bind fun t119 => (if t119 = true then (names_plain.j1 k x0 x1 x9 x8 x9 true) else (if (bt x0 x9) ≥ 65 then (if (bt x0 x9) ≤ 90 then (names_plain.j1 k x0 x1 x9 x8 x9 true) else (names_plain.j1 k x0 x1 x9 x8 x9 ((bt x0 x9) == 0))) else (names_plain.j1 k x0 x1 x9 x8 x9 ((bt x0 x9) == 0))))) else (none)) else (none)) else (some (x0.toList != ([] : List UInt8)))
def names_plain.j1 : Nat → ByteArray → ByteArray → Int → Int → Int → Bool → Option (Bool)
 | 0, _, _, _, _, _, _ => none
 | k + 1, x0, x1, x5, x8, x9, x33 => if x33 = true then (some false) else (names_plain.l1 k x0 x1 x5 x8 x9 (x1.size : Int) 0)
def names_plain.l1 : Nat → ByteArray → ByteArray → Int → Int → Int → Int → Int → Option (Bool)
 | 0, _, _, _, _, _, _, _ => none
 | k + 1, x0, x1, x5, x8, x9, x35, x36 => if x36 < x35 then (if 0 ≤ x5 then (if x5 < (x0.size : Int) then (if 0 ≤ x36 then (if x36 < (x1.size : Int) then (if (bt x0 x5) = (bt x1 x36) then (some false) else (names_plain.l1 k x0 x1 x5 x8 x9 x35 (wrap64 (x36 + 1)))) else (none)) else (none)) else (none)) else (none)) else (names_plain.l0 k x0 x1 x8 (wrap64 (x9 + 1)))
end
def names_plain.f (k : Nat) (a0 : ByteArray) (a1 : ByteArray) : Option (Bool) := names_plain.l0 k a0 a1 (a0.size : Int) 0
set_option maxHeartbeats 8000000 in
set_option maxRecDepth 100000 in
theorem names_plain.calls (k : Nat) (a0 : ByteArray) (a1 : ByteArray) (r : Bool) (w : World) (h : names_plain.f k a0 a1 = some r) :
  Calls Try.prog 70 #[.string a0, .string a1] w fun e w' => e = .returned (.bool r) ∧ Drawn0 w w' := by
 have H : (names_plain.l0 k a0 a1 (a0.size : Int) 0) = some r := h
 clear h
 have H' := Aside0.mk H
 clear H
 go_enter Try.func70, Try.ntmps70
 go_wp2
 repeat (go_quiet (fail); try go_wp2)
 go_loopg [9] k (fun kq v9 w' => ∃ (x9_1 : Int), v9 = .int .i64 x9_1 ∧ Aside0 (names_plain.l0 kq a0 a1 (a0.size : Int) x9_1 = some r) ∧ Aside0 (kq ≤ k) ∧ Drawn0 w w')
 case atStart => exact ⟨(0), (by first | rfl | (simp; done) | (simp [*]; done)), H', ⟨Nat.le_refl _⟩, by repeat (first | exact Drawn0.refl _ | apply Drawn0.step)⟩
 case round =>
  clear H'
  try clear p2
  obtain ⟨x9_1, rfl, HA, HK1, ⟨m1, rfl⟩⟩ := hrel
  cases gk with
  | zero => exact absurd HA.out (by simp [names_plain.l0])
  | succ k1 =>
   have H := HA.out
   clear HA
   simp only [names_plain.l0] at H
   by_cases c3 : x9_1 < (a0.size : Int)
   ·rw [if_pos c3] at H
    have c3b0 : decide (x9_1 < (a0.size : Int)) = true := decide_eq_true c3
    clear c3
    have HC4 := Aside0.mk H
    clear H
    go_upto_region 4 with (fail)
    repeat (go_quiet (fail); go_upto_region 4 with (fail))
    go_cut [33] (fun v33 wc => ∃ (kq : Nat) (x33_3 : Bool), v33 = .bool x33_3 ∧ Aside0 (names_plain.j1 kq a0 a1 x9_1 (a0.size : Int) x9_1 x33_3 = some r) ∧ Aside0 (kq ≤ k1) ∧ Drawn0 w wc)
    case first =>
     have H := HC4.out
     clear HC4
     by_cases c5 : 0 ≤ x9_1
     ·rw [if_pos c5] at H
      have c5b0 : decide (0 ≤ x9_1) = true := decide_eq_true c5
      clear c5
      (first | rw [c5b0] | (simp only [i64_w, i32_w]; rw [c5b0]) | skip)
      by_cases c6 : x9_1 < (a0.size : Int)
      ·rw [if_pos c6] at H
       have c6b0 : decide (x9_1 < (a0.size : Int)) = true := decide_eq_true c6
       clear c6
       replace H := Option.bind_eq_some_iff.mp H
       obtain ⟨t119, A80, H⟩ := H
       have A8 := Aside0.mk A80
       clear A80
       by_cases c9 : t119 = true
       ·subst c9
        replace H : (names_plain.j1 k1 a0 a1 x9_1 (a0.size : Int) x9_1 true) = some r := by rw [if_pos rfl] at H; exact H
        have H' := Aside0.mk H
        clear H
        have p7 : 0 ≤ (x9_1 : Int) := of_decide_eq_true (by first | (with_reducible assumption) | assumption)
        have q7 : x9_1 < (a0.size : Int) := of_decide_eq_true (by first | (with_reducible assumption) | assumption)
        have hx7 := bt_at a0 x9_1
        replace p7 := eq_true p7
        replace q7 := eq_true q7
        go_wp2_with (first | (go_at_call 78; (with_reducible refine (fold_Space.calls (bt a0 x9_1) true _ A8.out).mono ?_); rintro e w' ⟨rfl, ⟨nd, rfl⟩⟩; (try first | exact ⟨rfl, _, World.drewN_drewN _ _ _⟩ | exact ⟨rfl, _, Eq.trans (World.drewN_drewN _ _ _) (congrArg (World.drewN _) (Nat.add_assoc _ _ _))⟩)))
        repeat (go_quiet (first | (go_at_call 78; (with_reducible refine (fold_Space.calls (bt a0 x9_1) true _ A8.out).mono ?_); rintro e w' ⟨rfl, ⟨nd, rfl⟩⟩; (try first | exact ⟨rfl, _, World.drewN_drewN _ _ _⟩ | exact ⟨rfl, _, Eq.trans (World.drewN_drewN _ _ _) (congrArg (World.drewN _) (Nat.add_assoc _ _ _))⟩))); try go_wp2_with (first | (go_at_call 78; (with_reducible refine (fold_Space.calls (bt a0 x9_1) true _ A8.out).mono ?_); rintro e w' ⟨rfl, ⟨nd, rfl⟩⟩; (try first | exact ⟨rfl, _, World.drewN_drewN _ _ _⟩ | exact ⟨rfl, _, Eq.trans (World.drewN_drewN _ _ _) (congrArg (World.drewN _) (Nat.add_assoc _ _ _))⟩))))
        go_meet
        case rel => exact ⟨_, (true), (by first | rfl | (simp; done) | (simp [*]; done)), H', ⟨by have := HK1.out; first | omega | exact Nat.le_refl _⟩, by repeat (first | exact Drawn0.refl _ | apply Drawn0.step)⟩
       ·replace c9 := Bool.eq_false_iff.mpr c9
        subst c9
        replace H : (if (bt a0 x9_1) ≥ 65 then (if (bt a0 x9_1) ≤ 90 then (names_plain.j1 k1 a0 a1 x9_1 (a0.size : Int) x9_1 true) else (names_plain.j1 k1 a0 a1 x9_1 (a0.size : Int) x9_1 ((bt a0 x9_1) == 0))) else (names_plain.j1 k1 a0 a1 x9_1 (a0.size : Int) x9_1 ((bt a0 x9_1) == 0))) = some r := by rw [if_neg (show ¬ (false = true) by decide)] at H; exact H
        by_cases c11 : (bt a0 x9_1) ≥ 65
        ·rw [if_pos c11] at H
         have c11b0 : decide (65 ≤ (bt a0 x9_1)) = true := decide_eq_true c11
         clear c11
         by_cases c13 : (bt a0 x9_1) ≤ 90
         ·rw [if_pos c13] at H
          have c13b0 : decide ((bt a0 x9_1) ≤ 90) = true := decide_eq_true c13
          clear c13
          have H' := Aside0.mk H
          clear H
          have p7 : 0 ≤ (x9_1 : Int) := of_decide_eq_true (by first | (with_reducible assumption) | assumption)
          have q7 : x9_1 < (a0.size : Int) := of_decide_eq_true (by first | (with_reducible assumption) | assumption)
          have hx7 := bt_at a0 x9_1
          replace p7 := eq_true p7
          replace q7 := eq_true q7
          go_wp2_with (first | (go_at_call 78; (with_reducible refine (fold_Space.calls (bt a0 x9_1) false _ A8.out).mono ?_); rintro e w' ⟨rfl, ⟨nd, rfl⟩⟩; (try first | exact ⟨rfl, _, World.drewN_drewN _ _ _⟩ | exact ⟨rfl, _, Eq.trans (World.drewN_drewN _ _ _) (congrArg (World.drewN _) (Nat.add_assoc _ _ _))⟩); have p10 : 0 ≤ (x9_1 : Int) := of_decide_eq_true (by first | (with_reducible assumption) | assumption); have q10 : x9_1 < (a0.size : Int) := of_decide_eq_true (by first | (with_reducible assumption) | assumption); have hx10 := bt_at a0 x9_1; replace p10 := eq_true p10; replace q10 := eq_true q10; have p12 : 0 ≤ (x9_1 : Int) := of_decide_eq_true (by first | (with_reducible assumption) | assumption); have q12 : x9_1 < (a0.size : Int) := of_decide_eq_true (by first | (with_reducible assumption) | assumption); have hx12 := bt_at a0 x9_1; replace p12 := eq_true p12; replace q12 := eq_true q12))
          repeat (go_quiet (first | (go_at_call 78; (with_reducible refine (fold_Space.calls (bt a0 x9_1) false _ A8.out).mono ?_); rintro e w' ⟨rfl, ⟨nd, rfl⟩⟩; (try first | exact ⟨rfl, _, World.drewN_drewN _ _ _⟩ | exact ⟨rfl, _, Eq.trans (World.drewN_drewN _ _ _) (congrArg (World.drewN _) (Nat.add_assoc _ _ _))⟩); have p10 : 0 ≤ (x9_1 : Int) := of_decide_eq_true (by first | (with_reducible assumption) | assumption); have q10 : x9_1 < (a0.size : Int) := of_decide_eq_true (by first | (with_reducible assumption) | assumption); have hx10 := bt_at a0 x9_1; replace p10 := eq_true p10; replace q10 := eq_true q10; have p12 : 0 ≤ (x9_1 : Int) := of_decide_eq_true (by first | (with_reducible assumption) | assumption); have q12 : x9_1 < (a0.size : Int) := of_decide_eq_true (by first | (with_reducible assumption) | assumption); have hx12 := bt_at a0 x9_1; replace p12 := eq_true p12; replace q12 := eq_true q12)); try go_wp2_with (first | (go_at_call 78; (with_reducible refine (fold_Space.calls (bt a0 x9_1) false _ A8.out).mono ?_); rintro e w' ⟨rfl, ⟨nd, rfl⟩⟩; (try first | exact ⟨rfl, _, World.drewN_drewN _ _ _⟩ | exact ⟨rfl, _, Eq.trans (World.drewN_drewN _ _ _) (congrArg (World.drewN _) (Nat.add_assoc _ _ _))⟩); have p10 : 0 ≤ (x9_1 : Int) := of_decide_eq_true (by first | (with_reducible assumption) | assumption); have q10 : x9_1 < (a0.size : Int) := of_decide_eq_true (by first | (with_reducible assumption) | assumption); have hx10 := bt_at a0 x9_1; replace p10 := eq_true p10; replace q10 := eq_true q10; have p12 : 0 ≤ (x9_1 : Int) := of_decide_eq_true (by first | (with_reducible assumption) | assumption); have q12 : x9_1 < (a0.size : Int) := of_decide_eq_true (by first | (with_reducible assumption) | assumption); have hx12 := bt_at a0 x9_1; replace p12 := eq_true p12; replace q12 := eq_true q12)))
          go_meet
          case rel => exact ⟨_, (true), (by first | rfl | (simp; done) | (simp [*]; done)), H', ⟨by have := HK1.out; first | omega | exact Nat.le_refl _⟩, by repeat (first | exact Drawn0.refl _ | apply Drawn0.step)⟩
         ·rw [if_neg c13] at H
          have c13b0 : decide ((bt a0 x9_1) ≤ 90) = false := decide_eq_false c13
          clear c13
          have H' := Aside0.mk H
          clear H
          have p7 : 0 ≤ (x9_1 : Int) := of_decide_eq_true (by first | (with_reducible assumption) | assumption)
          have q7 : x9_1 < (a0.size : Int) := of_decide_eq_true (by first | (with_reducible assumption) | assumption)
          have hx7 := bt_at a0 x9_1
          replace p7 := eq_true p7
          replace q7 := eq_true q7
          go_wp2_with (first | (go_at_call 78; (with_reducible refine (fold_Space.calls (bt a0 x9_1) false _ A8.out).mono ?_); rintro e w' ⟨rfl, ⟨nd, rfl⟩⟩; (try first | exact ⟨rfl, _, World.drewN_drewN _ _ _⟩ | exact ⟨rfl, _, Eq.trans (World.drewN_drewN _ _ _) (congrArg (World.drewN _) (Nat.add_assoc _ _ _))⟩); have p10 : 0 ≤ (x9_1 : Int) := of_decide_eq_true (by first | (with_reducible assumption) | assumption); have q10 : x9_1 < (a0.size : Int) := of_decide_eq_true (by first | (with_reducible assumption) | assumption); have hx10 := bt_at a0 x9_1; replace p10 := eq_true p10; replace q10 := eq_true q10; have p12 : 0 ≤ (x9_1 : Int) := of_decide_eq_true (by first | (with_reducible assumption) | assumption); have q12 : x9_1 < (a0.size : Int) := of_decide_eq_true (by first | (with_reducible assumption) | assumption); have hx12 := bt_at a0 x9_1; replace p12 := eq_true p12; replace q12 := eq_true q12; have p14 : 0 ≤ (x9_1 : Int) := of_decide_eq_true (by first | (with_reducible assumption) | assumption); have q14 : x9_1 < (a0.size : Int) := of_decide_eq_true (by first | (with_reducible assumption) | assumption); have hx14 := bt_at a0 x9_1; replace p14 := eq_true p14; replace q14 := eq_true q14))
          repeat (go_quiet (first | (go_at_call 78; (with_reducible refine (fold_Space.calls (bt a0 x9_1) false _ A8.out).mono ?_); rintro e w' ⟨rfl, ⟨nd, rfl⟩⟩; (try first | exact ⟨rfl, _, World.drewN_drewN _ _ _⟩ | exact ⟨rfl, _, Eq.trans (World.drewN_drewN _ _ _) (congrArg (World.drewN _) (Nat.add_assoc _ _ _))⟩); have p10 : 0 ≤ (x9_1 : Int) := of_decide_eq_true (by first | (with_reducible assumption) | assumption); have q10 : x9_1 < (a0.size : Int) := of_decide_eq_true (by first | (with_reducible assumption) | assumption); have hx10 := bt_at a0 x9_1; replace p10 := eq_true p10; replace q10 := eq_true q10; have p12 : 0 ≤ (x9_1 : Int) := of_decide_eq_true (by first | (with_reducible assumption) | assumption); have q12 : x9_1 < (a0.size : Int) := of_decide_eq_true (by first | (with_reducible assumption) | assumption); have hx12 := bt_at a0 x9_1; replace p12 := eq_true p12; replace q12 := eq_true q12; have p14 : 0 ≤ (x9_1 : Int) := of_decide_eq_true (by first | (with_reducible assumption) | assumption); have q14 : x9_1 < (a0.size : Int) := of_decide_eq_true (by first | (with_reducible assumption) | assumption); have hx14 := bt_at a0 x9_1; replace p14 := eq_true p14; replace q14 := eq_true q14)); try go_wp2_with (first | (go_at_call 78; (with_reducible refine (fold_Space.calls (bt a0 x9_1) false _ A8.out).mono ?_); rintro e w' ⟨rfl, ⟨nd, rfl⟩⟩; (try first | exact ⟨rfl, _, World.drewN_drewN _ _ _⟩ | exact ⟨rfl, _, Eq.trans (World.drewN_drewN _ _ _) (congrArg (World.drewN _) (Nat.add_assoc _ _ _))⟩); have p10 : 0 ≤ (x9_1 : Int) := of_decide_eq_true (by first | (with_reducible assumption) | assumption); have q10 : x9_1 < (a0.size : Int) := of_decide_eq_true (by first | (with_reducible assumption) | assumption); have hx10 := bt_at a0 x9_1; replace p10 := eq_true p10; replace q10 := eq_true q10; have p12 : 0 ≤ (x9_1 : Int) := of_decide_eq_true (by first | (with_reducible assumption) | assumption); have q12 : x9_1 < (a0.size : Int) := of_decide_eq_true (by first | (with_reducible assumption) | assumption); have hx12 := bt_at a0 x9_1; replace p12 := eq_true p12; replace q12 := eq_true q12; have p14 : 0 ≤ (x9_1 : Int) := of_decide_eq_true (by first | (with_reducible assumption) | assumption); have q14 : x9_1 < (a0.size : Int) := of_decide_eq_true (by first | (with_reducible assumption) | assumption); have hx14 := bt_at a0 x9_1; replace p14 := eq_true p14; replace q14 := eq_true q14)))
          go_meet
          case rel => exact ⟨_, (((bt a0 x9_1) == 0)), (by first | rfl | (simp; done) | (simp [*]; done)), H', ⟨by have := HK1.out; first | omega | exact Nat.le_refl _⟩, by repeat (first | exact Drawn0.refl _ | apply Drawn0.step)⟩
        ·rw [if_neg c11] at H
         have c11b0 : decide (65 ≤ (bt a0 x9_1)) = false := decide_eq_false c11
         clear c11
         have H' := Aside0.mk H
         clear H
         have p7 : 0 ≤ (x9_1 : Int) := of_decide_eq_true (by first | (with_reducible assumption) | assumption)
         have q7 : x9_1 < (a0.size : Int) := of_decide_eq_true (by first | (with_reducible assumption) | assumption)
         have hx7 := bt_at a0 x9_1
         replace p7 := eq_true p7
         replace q7 := eq_true q7
         go_wp2_with (first | (go_at_call 78; (with_reducible refine (fold_Space.calls (bt a0 x9_1) false _ A8.out).mono ?_); rintro e w' ⟨rfl, ⟨nd, rfl⟩⟩; (try first | exact ⟨rfl, _, World.drewN_drewN _ _ _⟩ | exact ⟨rfl, _, Eq.trans (World.drewN_drewN _ _ _) (congrArg (World.drewN _) (Nat.add_assoc _ _ _))⟩); have p10 : 0 ≤ (x9_1 : Int) := of_decide_eq_true (by first | (with_reducible assumption) | assumption); have q10 : x9_1 < (a0.size : Int) := of_decide_eq_true (by first | (with_reducible assumption) | assumption); have hx10 := bt_at a0 x9_1; replace p10 := eq_true p10; replace q10 := eq_true q10; have p15 : 0 ≤ (x9_1 : Int) := of_decide_eq_true (by first | (with_reducible assumption) | assumption); have q15 : x9_1 < (a0.size : Int) := of_decide_eq_true (by first | (with_reducible assumption) | assumption); have hx15 := bt_at a0 x9_1; replace p15 := eq_true p15; replace q15 := eq_true q15))
         repeat (go_quiet (first | (go_at_call 78; (with_reducible refine (fold_Space.calls (bt a0 x9_1) false _ A8.out).mono ?_); rintro e w' ⟨rfl, ⟨nd, rfl⟩⟩; (try first | exact ⟨rfl, _, World.drewN_drewN _ _ _⟩ | exact ⟨rfl, _, Eq.trans (World.drewN_drewN _ _ _) (congrArg (World.drewN _) (Nat.add_assoc _ _ _))⟩); have p10 : 0 ≤ (x9_1 : Int) := of_decide_eq_true (by first | (with_reducible assumption) | assumption); have q10 : x9_1 < (a0.size : Int) := of_decide_eq_true (by first | (with_reducible assumption) | assumption); have hx10 := bt_at a0 x9_1; replace p10 := eq_true p10; replace q10 := eq_true q10; have p15 : 0 ≤ (x9_1 : Int) := of_decide_eq_true (by first | (with_reducible assumption) | assumption); have q15 : x9_1 < (a0.size : Int) := of_decide_eq_true (by first | (with_reducible assumption) | assumption); have hx15 := bt_at a0 x9_1; replace p15 := eq_true p15; replace q15 := eq_true q15)); try go_wp2_with (first | (go_at_call 78; (with_reducible refine (fold_Space.calls (bt a0 x9_1) false _ A8.out).mono ?_); rintro e w' ⟨rfl, ⟨nd, rfl⟩⟩; (try first | exact ⟨rfl, _, World.drewN_drewN _ _ _⟩ | exact ⟨rfl, _, Eq.trans (World.drewN_drewN _ _ _) (congrArg (World.drewN _) (Nat.add_assoc _ _ _))⟩); have p10 : 0 ≤ (x9_1 : Int) := of_decide_eq_true (by first | (with_reducible assumption) | assumption); have q10 : x9_1 < (a0.size : Int) := of_decide_eq_true (by first | (with_reducible assumption) | assumption); have hx10 := bt_at a0 x9_1; replace p10 := eq_true p10; replace q10 := eq_true q10; have p15 : 0 ≤ (x9_1 : Int) := of_decide_eq_true (by first | (with_reducible assumption) | assumption); have q15 : x9_1 < (a0.size : Int) := of_decide_eq_true (by first | (with_reducible assumption) | assumption); have hx15 := bt_at a0 x9_1; replace p15 := eq_true p15; replace q15 := eq_true q15)))
         go_meet
         case rel => exact ⟨_, (((bt a0 x9_1) == 0)), (by first | rfl | (simp; done) | (simp [*]; done)), H', ⟨by have := HK1.out; first | omega | exact Nat.le_refl _⟩, by repeat (first | exact Drawn0.refl _ | apply Drawn0.step)⟩
      ·rw [if_neg c6] at H
       exact absurd H (by simp)
     ·rw [if_neg c5] at H
      exact absurd H (by simp)
    case rest =>
     clear HC4
     try clear c1
     try clear p1
     try clear q1
     try clear hx1
     try clear p2
     try clear c3
     try clear c3b0
     try clear c5
     try clear c5b0
     try clear c6
     try clear c6b0
     try clear c7
     try clear p7
     try clear q7
     try clear hx7
     try clear c9
     try clear p10
     try clear q10
     try clear hx10
     try clear c11
     try clear c11b0
     try clear p12
     try clear q12
     try clear hx12
     try clear c13
     try clear c13b0
     try clear p14
     try clear q14
     try clear hx14
     try clear p15
     try clear q15
     try clear hx15
     try clear p10
     try clear p12
     try clear p14
     try clear p15
     try clear p2
     try clear p7
     try clear q10
     try clear q12
     try clear q14
     try clear q15
     try clear q7
     obtain ⟨kq, x33_3, rfl, HA, HJ3, ⟨mc3, rfl⟩⟩ := hcut
     cases kq with
     | zero => exact absurd HA.out (by simp [names_plain.j1])
     | succ kj3 =>
      have H := HA.out
      clear HA
      simp only [names_plain.j1] at H
      by_cases c16 : x33_3 = true
      ·subst c16
       replace H : (some false) = some r := by rw [if_pos rfl] at H; exact H
       obtain rfl := Option.some.inj H
       go_wp2
       repeat (go_quiet (fail); try go_wp2)
       go_ret
       exact ⟨by first | rfl | (simp; done) | (simp [*]; done) | (simp; generalize ByteArray.toList _ = l_; cases l_ <;> rfl), by repeat (first | exact Drawn0.refl _ | apply Drawn0.step)⟩
      ·replace c16 := Bool.eq_false_iff.mpr c16
       subst c16
       replace H : (names_plain.l1 kj3 a0 a1 x9_1 (a0.size : Int) x9_1 (a1.size : Int) 0) = some r := by rw [if_neg (show ¬ (false = true) by decide)] at H; exact H
       have H' := Aside0.mk H
       clear H
       go_wp2
       repeat (go_quiet (fail); try go_wp2)
       go_loopg [36] kj3 (fun kq v36 w' => ∃ (x36_3 : Int), v36 = .int .i64 x36_3 ∧ Aside0 (names_plain.l1 kq a0 a1 x9_1 (a0.size : Int) x9_1 (a1.size : Int) x36_3 = some r) ∧ Aside0 (kq ≤ kj3) ∧ Drawn0 w w')
       case atStart => exact ⟨(0), (by first | rfl | (simp; done) | (simp [*]; done)), H', ⟨Nat.le_refl _⟩, by repeat (first | exact Drawn0.refl _ | apply Drawn0.step)⟩
       case round =>
        clear H'
        try clear c1
        try clear p1
        try clear q1
        try clear hx1
        try clear p2
        try clear c3
        try clear c3b0
        try clear c5
        try clear c5b0
        try clear c6
        try clear c6b0
        try clear c7
        try clear p7
        try clear q7
        try clear hx7
        try clear c9
        try clear p10
        try clear q10
        try clear hx10
        try clear c11
        try clear c11b0
        try clear p12
        try clear q12
        try clear hx12
        try clear c13
        try clear c13b0
        try clear p14
        try clear q14
        try clear hx14
        try clear p15
        try clear q15
        try clear hx15
        try clear c16
        try clear p1
        try clear p10
        try clear p12
        try clear p14
        try clear p15
        try clear p2
        try clear p7
        try clear q1
        try clear q10
        try clear q12
        try clear q14
        try clear q15
        try clear q7
        obtain ⟨x36_3, rfl, HA, HK3, ⟨m3, rfl⟩⟩ := hrel
        cases gk with
        | zero => exact absurd HA.out (by simp [names_plain.l1])
        | succ k3 =>
         have H := HA.out
         clear HA
         simp only [names_plain.l1] at H
         by_cases c17 : x36_3 < (a1.size : Int)
         ·rw [if_pos c17] at H
          have c17b0 : decide (x36_3 < (a1.size : Int)) = true := decide_eq_true c17
          clear c17
          by_cases c18 : 0 ≤ x9_1
          ·rw [if_pos c18] at H
           have c18b0 : decide (0 ≤ x9_1) = true := decide_eq_true c18
           clear c18
           by_cases c19 : x9_1 < (a0.size : Int)
           ·rw [if_pos c19] at H
            have c19b0 : decide (x9_1 < (a0.size : Int)) = true := decide_eq_true c19
            clear c19
            by_cases c21 : 0 ≤ x36_3
            ·rw [if_pos c21] at H
             have c21b0 : decide (0 ≤ x36_3) = true := decide_eq_true c21
             clear c21
             by_cases c22 : x36_3 < (a1.size : Int)
             ·rw [if_pos c22] at H
              have c22b0 : decide (x36_3 < (a1.size : Int)) = true := decide_eq_true c22
              clear c22
              by_cases c24 : (bt a0 x9_1) = (bt a1 x36_3)
              ·rw [if_pos c24] at H
               have c24b0 : ((bt a0 x9_1) == (bt a1 x36_3)) = true := beq_iff_eq.mpr c24
               have c24b1 : ((bt a0 x9_1) != (bt a1 x36_3)) = false := bne_eq_false_iff_eq.mpr c24
               clear c24
               obtain rfl := Option.some.inj H
               have p20 : 0 ≤ (x9_1 : Int) := of_decide_eq_true (by first | (with_reducible assumption) | assumption)
               have q20 : x9_1 < (a0.size : Int) := of_decide_eq_true (by first | (with_reducible assumption) | assumption)
               have hx20 := bt_at a0 x9_1
               replace p20 := eq_true p20
               replace q20 := eq_true q20
               have p23 : 0 ≤ (x36_3 : Int) := of_decide_eq_true (by first | (with_reducible assumption) | assumption)
               have q23 : x36_3 < (a1.size : Int) := of_decide_eq_true (by first | (with_reducible assumption) | assumption)
               have hx23 := bt_at a1 x36_3
               replace p23 := eq_true p23
               replace q23 := eq_true q23
               go_wp2
               repeat (go_quiet (fail); try go_wp2)
               go_ret
               exact ⟨by first | rfl | (simp; done) | (simp [*]; done) | (simp; generalize ByteArray.toList _ = l_; cases l_ <;> rfl), by repeat (first | exact Drawn0.refl _ | apply Drawn0.step)⟩
              ·rw [if_neg c24] at H
               have c24b0 : ((bt a0 x9_1) == (bt a1 x36_3)) = false := beq_eq_false_iff_ne.mpr c24
               have c24b1 : ((bt a0 x9_1) != (bt a1 x36_3)) = true := bne_iff_ne.mpr c24
               have H' := Aside0.mk H
               clear H
               have p20 : 0 ≤ (x9_1 : Int) := of_decide_eq_true (by first | (with_reducible assumption) | assumption)
               have q20 : x9_1 < (a0.size : Int) := of_decide_eq_true (by first | (with_reducible assumption) | assumption)
               have hx20 := bt_at a0 x9_1
               replace p20 := eq_true p20
               replace q20 := eq_true q20
               have p23 : 0 ≤ (x36_3 : Int) := of_decide_eq_true (by first | (with_reducible assumption) | assumption)
               have q23 : x36_3 < (a1.size : Int) := of_decide_eq_true (by first | (with_reducible assumption) | assumption)
               have hx23 := bt_at a1 x36_3
               replace p23 := eq_true p23
               replace q23 := eq_true q23
               go_wp2
               repeat (go_quiet (fail); try go_wp2)
               go_roundg k3
               case measure => have := HK1.out; have := HJ3.out; have := HK3.out; omega
               case rel => exact ⟨(wrap64 (x36_3 + 1)), (by first | rfl | (simp; done) | (simp [*]; done)), H', ⟨by have := HK1.out; have := HJ3.out; have := HK3.out; omega⟩, by repeat (first | exact Drawn0.refl _ | apply Drawn0.step)⟩
             ·rw [if_neg c22] at H
              exact absurd H (by simp)
            ·rw [if_neg c21] at H
             exact absurd H (by simp)
           ·rw [if_neg c19] at H
            exact absurd H (by simp)
          ·rw [if_neg c18] at H
           exact absurd H (by simp)
         ·rw [if_neg c17] at H
          have c17b0 : decide (x36_3 < (a1.size : Int)) = false := decide_eq_false c17
          clear c17
          have H' := Aside0.mk H
          clear H
          go_wp2
          repeat (go_quiet (fail); try go_wp2)
          go_roundg k3
          case measure => have := HK1.out; have := HJ3.out; have := HK3.out; omega
          case rel => exact ⟨(wrap64 (x9_1 + 1)), (by first | rfl | (simp; done) | (simp [*]; done)), H', ⟨by have := HK1.out; have := HJ3.out; have := HK3.out; omega⟩, by repeat (first | exact Drawn0.refl _ | apply Drawn0.step)⟩
   ·rw [if_neg c3] at H
    have c3b0 : decide (x9_1 < (a0.size : Int)) = false := decide_eq_false c3
    clear c3
    obtain rfl := Option.some.inj H
    go_wp2
    repeat (go_quiet (fail); try go_wp2)
    go_ret
    exact ⟨by first | rfl | (simp; done) | (simp [*]; done) | (simp; generalize ByteArray.toList _ = l_; cases l_ <;> rfl), by repeat (first | exact Drawn0.refl _ | apply Drawn0.step)⟩

def fold_Letter.f (a0 : Int) : Option (Bool) := if a0 ≥ 97 then (if a0 ≤ 122 then (some true) else (if a0 ≥ 65 then (some (decide (a0 ≤ 90))) else (some false))) else (if a0 ≥ 65 then (some (decide (a0 ≤ 90))) else (some false))
set_option maxHeartbeats 8000000 in
set_option maxRecDepth 100000 in
theorem fold_Letter.calls (a0 : Int) (r : Bool) (w : World) (h : fold_Letter.f a0 = some r) :
  Calls Try.prog 71 #[.int .u8 a0] w fun e w' => e = .returned (.bool r) ∧ Drawn0 w w' := by
 have H : (if a0 ≥ 97 then (if a0 ≤ 122 then (some true) else (if a0 ≥ 65 then (some (decide (a0 ≤ 90))) else (some false))) else (if a0 ≥ 65 then (some (decide (a0 ≤ 90))) else (some false))) = some r := h
 clear h
 by_cases c2 : a0 ≥ 97
 ·rw [if_pos c2] at H
  have c2b0 : decide (97 ≤ a0) = true := decide_eq_true c2
  clear c2
  by_cases c3 : a0 ≤ 122
  ·rw [if_pos c3] at H
   have c3b0 : decide (a0 ≤ 122) = true := decide_eq_true c3
   clear c3
   obtain rfl := Option.some.inj H
   go_enter Try.func71, Try.ntmps71
   go_wp2
   go_ret
   exact ⟨by first | rfl | (simp; done) | (simp [*]; done) | (simp; generalize ByteArray.toList _ = l_; cases l_ <;> rfl), by repeat (first | exact Drawn0.refl _ | apply Drawn0.step)⟩
  ·rw [if_neg c3] at H
   have c3b0 : decide (a0 ≤ 122) = false := decide_eq_false c3
   clear c3
   by_cases c4 : a0 ≥ 65
   ·rw [if_pos c4] at H
    have c4b0 : decide (65 ≤ a0) = true := decide_eq_true c4
    clear c4
    obtain rfl := Option.some.inj H
    go_enter Try.func71, Try.ntmps71
    go_wp2
    go_ret
    exact ⟨by first | rfl | (simp; done) | (simp [*]; done) | (simp; generalize ByteArray.toList _ = l_; cases l_ <;> rfl), by repeat (first | exact Drawn0.refl _ | apply Drawn0.step)⟩
   ·rw [if_neg c4] at H
    have c4b0 : decide (65 ≤ a0) = false := decide_eq_false c4
    clear c4
    obtain rfl := Option.some.inj H
    go_enter Try.func71, Try.ntmps71
    go_wp2
    go_ret
    exact ⟨by first | rfl | (simp; done) | (simp [*]; done) | (simp; generalize ByteArray.toList _ = l_; cases l_ <;> rfl), by repeat (first | exact Drawn0.refl _ | apply Drawn0.step)⟩
 ·rw [if_neg c2] at H
  have c2b0 : decide (97 ≤ a0) = false := decide_eq_false c2
  clear c2
  by_cases c5 : a0 ≥ 65
  ·rw [if_pos c5] at H
   have c5b0 : decide (65 ≤ a0) = true := decide_eq_true c5
   clear c5
   obtain rfl := Option.some.inj H
   go_enter Try.func71, Try.ntmps71
   go_wp2
   go_ret
   exact ⟨by first | rfl | (simp; done) | (simp [*]; done) | (simp; generalize ByteArray.toList _ = l_; cases l_ <;> rfl), by repeat (first | exact Drawn0.refl _ | apply Drawn0.step)⟩
  ·rw [if_neg c5] at H
   have c5b0 : decide (65 ≤ a0) = false := decide_eq_false c5
   clear c5
   obtain rfl := Option.some.inj H
   go_enter Try.func71, Try.ntmps71
   go_wp2
   go_ret
   exact ⟨by first | rfl | (simp; done) | (simp [*]; done) | (simp; generalize ByteArray.toList _ = l_; cases l_ <;> rfl), by repeat (first | exact Drawn0.refl _ | apply Drawn0.step)⟩

def names_Right.f (k : Nat) (a0 : ByteArray) : Option (Bool) := (names_plain.f k a0 (⟨#[47, 62]⟩ : ByteArray)).bind fun t120 => (if t120 = true then (if 0 < (a0.size : Int) then ((fold_Letter.f (bt a0 0)).bind fun t121 => (some t121)) else (none)) else (some false))
set_option maxHeartbeats 8000000 in
set_option maxRecDepth 100000 in
theorem names_Right.calls (k : Nat) (a0 : ByteArray) (r : Bool) (w : World) (h : names_Right.f k a0 = some r) :
  Calls Try.prog 44 #[.string a0] w fun e w' => e = .returned (.bool r) ∧ Drawn0 w w' := by
 have H : ((names_plain.f k a0 (⟨#[47, 62]⟩ : ByteArray)).bind fun t120 => (if t120 = true then (if 0 < (a0.size : Int) then ((fold_Letter.f (bt a0 0)).bind fun t121 => (some t121)) else (none)) else (some false))) = some r := h
 clear h
 replace H := Option.bind_eq_some_iff.mp H
 obtain ⟨t120, A20, H⟩ := H
 have A2 := Aside0.mk A20
 clear A20
 by_cases c3 : t120 = true
 ·subst c3
  replace H : (if 0 < (a0.size : Int) then ((fold_Letter.f (bt a0 0)).bind fun t121 => (some t121)) else (none)) = some r := by rw [if_pos rfl] at H; exact H
  by_cases c4 : 0 < (a0.size : Int)
  ·rw [if_pos c4] at H
   have c4b0 : decide (0 < (a0.size : Int)) = true := decide_eq_true c4
   have c4b1 : decide (0 < a0.size) = true := decide_eq_true (by omega)
   clear c4
   replace H := Option.bind_eq_some_iff.mp H
   obtain ⟨t121, A60, H⟩ := H
   replace H : (some t121) = some r := H
   have A6 := Aside0.mk A60
   clear A60
   obtain rfl := Option.some.inj H
   go_enter Try.func44, Try.ntmps44
   go_wp2_with (first | ((with_reducible refine gate_callee (f := 70) rfl ?_); refine goesL_ (some 4) rfl rfl Try.func70 (by kernel_rfl) rfl #[.string a0, .string (⟨#[47, 62]⟩ : ByteArray)] rfl (by (try simp only [List.map_toArray, List.map_cons, List.map_nil]); first | done | rfl | (simp only [List.length_drop, List.length_take]; rfl)) ?_; (with_reducible refine (names_plain.calls k a0 (⟨#[47, 62]⟩ : ByteArray) true _ A2.out).mono ?_); rintro e w' ⟨rfl, ⟨nd, rfl⟩⟩; refine ⟨_, rfl, ?_⟩; have p5 : 0 ≤ (0 : Int) := (by omega); have q5 : 0 < a0.size := (by have : (0 : Int) < (a0.size : Int) := of_decide_eq_true (by first | (with_reducible assumption) | assumption); omega); have hx5 : ∀ h : 0 < a0.size, ((a0[0]'h).toNat : Int) = bt a0 0 := bt_at a0 0; clear p5; have qi5 : (0 < (a0.size : Int)) = True := eq_true (of_decide_eq_true (by first | (with_reducible assumption) | assumption)); replace q5 := eq_true q5) | (go_at_call 71; (with_reducible refine (fold_Letter.calls (bt a0 0) t121 _ A6.out).mono ?_); rintro e w' ⟨rfl, ⟨nd, rfl⟩⟩))
   go_ret
   exact ⟨by first | rfl | (simp; done) | (simp [*]; done) | (simp; generalize ByteArray.toList _ = l_; cases l_ <;> rfl), by repeat (first | exact Drawn0.refl _ | apply Drawn0.step)⟩
  ·rw [if_neg c4] at H
   exact absurd H (by simp)
 ·replace c3 := Bool.eq_false_iff.mpr c3
  subst c3
  replace H : (some false) = some r := by rw [if_neg (show ¬ (false = true) by decide)] at H; exact H
  obtain rfl := Option.some.inj H
  go_enter Try.func44, Try.ntmps44
  go_wp2_with (first | ((with_reducible refine gate_callee (f := 70) rfl ?_); refine goesL_ (some 4) rfl rfl Try.func70 (by kernel_rfl) rfl #[.string a0, .string (⟨#[47, 62]⟩ : ByteArray)] rfl (by (try simp only [List.map_toArray, List.map_cons, List.map_nil]); first | done | rfl | (simp only [List.length_drop, List.length_take]; rfl)) ?_; (with_reducible refine (names_plain.calls k a0 (⟨#[47, 62]⟩ : ByteArray) false _ A2.out).mono ?_); rintro e w' ⟨rfl, ⟨nd, rfl⟩⟩; refine ⟨_, rfl, ?_⟩))
  go_ret
  exact ⟨by first | rfl | (simp; done) | (simp [*]; done) | (simp; generalize ByteArray.toList _ = l_; cases l_ <;> rfl), by repeat (first | exact Drawn0.refl _ | apply Drawn0.step)⟩

def names_Attr.f (k : Nat) (a0 : ByteArray) : Option (Bool) := (names_plain.f k a0 (⟨#[47, 62, 34, 39, 60, 61]⟩ : ByteArray)).bind fun t122 => (some t122)
set_option maxHeartbeats 8000000 in
set_option maxRecDepth 100000 in
theorem names_Attr.calls (k : Nat) (a0 : ByteArray) (r : Bool) (w : World) (h : names_Attr.f k a0 = some r) :
  Calls Try.prog 45 #[.string a0] w fun e w' => e = .returned (.bool r) ∧ Drawn0 w w' := by
 have H : ((names_plain.f k a0 (⟨#[47, 62, 34, 39, 60, 61]⟩ : ByteArray)).bind fun t122 => (some t122)) = some r := h
 clear h
 replace H := Option.bind_eq_some_iff.mp H
 obtain ⟨t122, A20, H⟩ := H
 replace H : (some t122) = some r := H
 have A2 := Aside0.mk A20
 clear A20
 obtain rfl := Option.some.inj H
 go_enter Try.func45, Try.ntmps45
 go_wp2_with (first | ((with_reducible refine gate_callee (f := 70) rfl ?_); refine goesL_ (some 4) rfl rfl Try.func70 (by kernel_rfl) rfl #[.string a0, .string (⟨#[47, 62, 34, 39, 60, 61]⟩ : ByteArray)] rfl (by (try simp only [List.map_toArray, List.map_cons, List.map_nil]); first | done | rfl | (simp only [List.length_drop, List.length_take]; rfl)) ?_; (with_reducible refine (names_plain.calls k a0 (⟨#[47, 62, 34, 39, 60, 61]⟩ : ByteArray) t122 _ A2.out).mono ?_); rintro e w' ⟨rfl, ⟨nd, rfl⟩⟩; refine ⟨_, rfl, ?_⟩))
 go_ret
 exact ⟨by first | rfl | (simp; done) | (simp [*]; done) | (simp; generalize ByteArray.toList _ = l_; cases l_ <;> rfl), by repeat (first | exact Drawn0.refl _ | apply Drawn0.step)⟩

end Go.Proofs.Ytjofofpplpmgjaa.Pr
namespace Go.Proofs.Ytjofofpplpmgjaa.Pr
open Go.RowKit Go.Proofs.YtjofofpplpmgjaaW.PrintWords Go.Proofs.YtjofofpplpmgjaaW.PrintLast Go.Proofs.YtjofofpplpmgjaaW.PrintMore
attribute [local go_sem] max2_int min2_int max_two min_two max_three min_three max_four min_four   -- for this text's walks alone
set_option linter.unusedVariables false
set_option linter.unusedSimpArgs false

def boltingref02_Space.f (a0 : Int) : Option (Bool) := if a0 = 32 then (some true) else (if a0 = 9 then (some true) else (if a0 = 10 then (some true) else (if a0 = 12 then (some true) else (some (a0 == 13)))))
def boltingref05_bad.f (a0 : Int) (a1 : Bool) : Option (Bool) := (boltingref02_Space.f a0).bind fun t328 => (if t328 = true then (some true) else (if a0 ≥ 65 then (if a0 ≤ 90 then (some true) else (if a0 = 0 then (some true) else (if a0 = 47 then (some true) else (if a0 = 62 then (some true) else (if a1 = true then (if a0 = 34 then (some true) else (if a0 = 39 then (some true) else (if a0 = 60 then (some true) else (some (a0 == 61))))) else (some false)))))) else (if a0 = 0 then (some true) else (if a0 = 47 then (some true) else (if a0 = 62 then (some true) else (if a1 = true then (if a0 = 34 then (some true) else (if a0 = 39 then (some true) else (if a0 = 60 then (some true) else (some (a0 == 61))))) else (some false)))))))
def boltingref05_May.l0 : Nat → ByteArray → Bool → Int → Option (Bool)
 | 0, _, _, _ => none
 | k + 1, x0, x1, x5 => if x5 < (x0.size : Int) then (if 0 ≤ x5 then ((boltingref05_bad.f (bt x0 x5) x1).bind fun t329 => (if t329 = true then (some false) else (boltingref05_May.l0 k x0 x1 (wrap64 (x5 + 1))))) else (none)) else (if (x0.size : Int) > 0 then (if x1 = true then (some true) else (if 0 < (x0.size : Int) then (if (bt x0 0) ≥ 97 then (some (decide ((bt x0 0) ≤ 122))) else (some false)) else (none))) else (some false))
def boltingref05_May.f (k : Nat) (a0 : ByteArray) (a1 : Bool) : Option (Bool) := boltingref05_May.l0 k a0 a1 0
def boltingref12_may.l0 : Nat → List ByteArray → Bool → Int → Option (Bool)
 | 0, _, _, _ => none
 | k + 1, x0, x1, x5 => if x5 < (x0.length : Int) then (if 0 ≤ x5 then ((boltingref05_May.f k (rdOf ByteArray.empty x0 x5) x1).bind fun t331 => (if t331 = true then (boltingref12_may.l0 k x0 x1 (wrap64 (x5 + 1))) else (some false))) else (none)) else (some true)
def boltingref12_may.f (k : Nat) (l0 : List ByteArray) (a1 : Bool) : Option (Bool) := boltingref12_may.l0 k l0 a1 0
def boltingref12_once.l0 : Nat → List ByteArray → Int → Option (Bool)
 | 0, _, _ => none
 | k + 1, x0, x3 => if x3 < (x0.length : Int) then (if 0 ≤ x3 then (if x3 ≤ (x0.length : Int) then ((boltingref02_Has.f k (x0.take (x3 : Int).toNat) (rdOf ByteArray.empty x0 x3)).bind fun t334 => (if t334 = true then (some false) else (boltingref12_once.l0 k x0 (wrap64 (x3 + 1))))) else (none)) else (none)) else (some true)
def boltingref12_once.f (k : Nat) (l0 : List ByteArray) : Option (Bool) := boltingref12_once.l0 k l0 0
def boltingref12_meet.l0 : Nat → List ByteArray → List ByteArray → Int → Option (Bool)
 | 0, _, _, _ => none
 | k + 1, x0, x1, x5 => if x5 < (x0.length : Int) then (if 0 ≤ x5 then ((boltingref02_Has.f k x1 (rdOf ByteArray.empty x0 x5)).bind fun t336 => (if t336 = true then (some true) else (boltingref12_meet.l0 k x0 x1 (wrap64 (x5 + 1))))) else (none)) else (some false)
def boltingref12_meet.f (k : Nat) (l0 : List ByteArray) (l1 : List ByteArray) : Option (Bool) := boltingref12_meet.l0 k l0 l1 0
end Go.Proofs.Ytjofofpplpmgjaa.Pr
namespace Go.Proofs.Ytjofofpplpmgjaa.Pure
set_option linter.unusedVariables false
set_option linter.unusedSimpArgs false
open Go.RowKit Go.Lib Go.Shelf Go.Proofs.YtjofofpplpmgjaaW.PrintWords Go.Proofs.YtjofofpplpmgjaaW.PrintLast Go.Proofs.YtjofofpplpmgjaaW.PrintMore Go.Proofs.Ytjofofpplpmgjaa.Pr

def spI (c : Int) : Bool := c == 32 || c == 9 || c == 10 || c == 12 || c == 13
def upI (c : Int) : Bool := decide (65 ≤ c) && decide (c ≤ 90)
def badI (attr : Bool) (c : Int) : Bool := spI c || upI c || c == 0 || c == 47 || c == 62 || attr && (c == 34 || c == 39 || c == 60 || c == 61)
theorem space_f (c : Int) : fold_Space.f c = some (spI c) := by
  unfold fold_Space.f spI
  repeat' split
  all_goals
    refine congrArg some ?_
    rw [Bool.eq_iff_iff]
    simp only [Bool.or_eq_true, Bool.false_eq_true, eq_self, true_iff, false_iff, beq_iff_eq]
    omega
def mayB (attr : Bool) (s : ByteArray) : Bool := (dat s).all (fun c => !badI attr (c.toNat : Int)) && (match dat s with | [] => false | c :: _ => attr || (decide (97 ≤ c.toNat) && decide (c.toNat ≤ 122)))
def headB (attr : Bool) (s : ByteArray) : Bool := match dat s with | [] => false | c :: _ => attr || (decide (97 ≤ c.toNat) && decide (c.toNat ≤ 122))
theorem plain_l1 (s but : ByteArray) (hb : but.size ≤ 1000) (i : Nat) (c : UInt8) (hc : (dat s)[i]? = some c) (x8 x9 : Int) : ∀ (d j : Nat), j + d = but.size → ∀ m k, k = m + d + 1 →
    names_plain.l1 k s but (i : Int) x8 x9 (but.size : Int) (j : Int) = if ((dat but).drop j).any (fun b => decide (c.toNat = b.toNat)) = true then some false else names_plain.l0 m s but x8 (wrap64 (x9 + 1))
  | 0, j, h, m, k, hk => by
    obtain rfl : k = m + 1 := hk
    simp only [names_plain.l1]
    rw [if_neg (by omega), List.drop_of_length_le (by rw [show (dat but).length = but.size from (Lib.size_eq but).symm]; omega)]
    rw [if_neg (by simp)]
  | d + 1, j, h, m, k, hk => by
    obtain ⟨k, rfl⟩ : ∃ q, k = q + 1 := ⟨k - 1, by omega⟩
    obtain ⟨b, hb0⟩ := at_some but (k := j) (by omega)
    have hi := at_lt hc
    simp only [names_plain.l1]
    rw [if_pos (by omega), if_pos (by omega), if_pos (by omega), if_pos (by omega), if_pos (by omega), bt_c hc, bt_c hb0, drop_at hb0, List.any_cons]
    by_cases e : c.toNat = b.toNat
    · rw [if_pos (by omega), decide_eq_true e, Bool.true_or, if_pos rfl]
    · rw [if_neg (by omega), decide_eq_false e, Bool.false_or, wrap_succ (by omega) (by omega)]
      exact plain_l1 s but hb i c hc x8 x9 d (j + 1) (by omega) m k (by omega)
def plainB (but : List UInt8) (c : UInt8) : Bool := !(spI (c.toNat : Int) || upI (c.toNat : Int) || ((c.toNat : Int) == 0) || but.any (fun b => decide (c.toNat = b.toNat)))
theorem plain_l0 (s but : ByteArray) (hb : but.size ≤ 1000) (hs : s.size ≤ 4000000000000000000) : ∀ (d i : Nat), i + d = s.size → ∀ k, d * (but.size + 3) < k →
    names_plain.l0 k s but (s.size : Int) (i : Int) = some (((dat s).drop i).all (plainB (dat but)) && (s.toList != ([] : List UInt8)))
  | 0, i, h, k, hk => by
    obtain ⟨k, rfl⟩ : ∃ m, k = m + 1 := ⟨k - 1, by omega⟩
    simp only [names_plain.l0]
    rw [if_neg (by omega), List.drop_of_length_le (by rw [show (dat s).length = s.size from (Lib.size_eq s).symm]; omega)]
    simp
  | d + 1, i, h, k, hk => by
    have he : (d + 1) * (but.size + 3) = d * (but.size + 3) + (but.size + 3) := by rw [Nat.succ_mul]
    obtain ⟨m, rfl⟩ : ∃ m, k = m + but.size + 3 := ⟨k - but.size - 3, by omega⟩
    obtain ⟨c, hc⟩ := at_some s (k := i) (by omega)
    have ih := plain_l0 s but hb hs d (i + 1) (by omega) m (by omega)
    have e1 : names_plain.l0 (m + but.size + 3) s but (s.size : Int) (i : Int) = names_plain.j1 (m + but.size + 2) s but (i : Int) (s.size : Int) (i : Int) (spI (c.toNat : Int) || upI (c.toNat : Int) || ((c.toNat : Int) == 0)) := by
      simp only [names_plain.l0]
      rw [if_pos (by omega), if_pos (by omega), if_pos (by omega), bt_c hc, space_f, Option.bind_some]
      cases spI (c.toNat : Int) with
      | true => rw [if_pos rfl]; rfl
      | false =>
        rw [if_neg (by decide), Bool.false_or]
        unfold upI
        by_cases h1 : (65 : Int) ≤ (c.toNat : Int)
        · rw [if_pos (by omega), decide_eq_true h1, Bool.true_and]
          by_cases h2 : (c.toNat : Int) ≤ 90
          · rw [if_pos h2, decide_eq_true h2, Bool.true_or]
          · rw [if_neg h2, decide_eq_false h2, Bool.false_or]
        · rw [if_neg (by omega), decide_eq_false h1, Bool.false_and, Bool.false_or]
    rw [e1, drop_at hc, List.all_cons]
    have e2 : plainB (dat but) c = !((spI (c.toNat : Int) || upI (c.toNat : Int) || ((c.toNat : Int) == 0)) || (dat but).any (fun b => decide (c.toNat = b.toNat))) := rfl
    rw [e2]
    cases (spI (c.toNat : Int) || upI (c.toNat : Int) || ((c.toNat : Int) == 0)) with
    | true => simp only [names_plain.j1]; rw [if_pos trivial]; simp
    | false =>
      simp only [names_plain.j1]
      rw [if_neg (by decide)]
      have := plain_l1 s but hb i c hc (s.size : Int) (i : Int) but.size 0 (by omega) m _ rfl
      rw [List.drop_zero, show ((0 : Nat) : Int) = 0 from rfl] at this
      rw [this, Bool.false_or]
      cases (dat but).any (fun b => decide (c.toNat = b.toNat)) with
      | true => rw [if_pos rfl]; simp
      | false =>
        rw [if_neg (by decide), wrap_succ (by omega) (by omega)]
        rw [Bool.not_false, Bool.true_and]
        exact ih
theorem plain_f (s but : ByteArray) (hb : but.size ≤ 1000) (hs : s.size ≤ 4000000000000000000) {k : Nat} (hk : s.size * (but.size + 3) < k) : names_plain.f k s but = some ((dat s).all (plainB (dat but)) && (s.toList != ([] : List UInt8))) :=
  plain_l0 s but hb hs s.size 0 (by omega) k hk
theorem plain_el (c : UInt8) : plainB [47, 62] c = !badI false (c.toNat : Int) := by
  unfold plainB badI
  simp only [List.any_cons, List.any_nil, Bool.or_false, Bool.false_and, Bool.true_and]
  have hn : ∀ b : UInt8, decide (c.toNat = b.toNat) = ((c.toNat : Int) == (b.toNat : Int)) := fun b => by rw [Bool.eq_iff_iff, decide_eq_true_eq, beq_iff_eq]; omega
  simp only [hn]
  congr 1
  simp only [Bool.or_assoc]
  rfl
theorem plain_at (c : UInt8) : plainB [47, 62, 34, 39, 60, 61] c = !badI true (c.toNat : Int) := by
  unfold plainB badI
  simp only [List.any_cons, List.any_nil, Bool.or_false, Bool.false_and, Bool.true_and]
  have hn : ∀ b : UInt8, decide (c.toNat = b.toNat) = ((c.toNat : Int) == (b.toNat : Int)) := fun b => by rw [Bool.eq_iff_iff, decide_eq_true_eq, beq_iff_eq]; omega
  simp only [hn]
  congr 1
  simp only [Bool.or_assoc]
  rfl
theorem mayB_eq (attr : Bool) (s : ByteArray) : mayB attr s = ((dat s).all (fun c => !badI attr (c.toNat : Int)) && headB attr s) := rfl
theorem nattr_f (s : ByteArray) (hs : s.size ≤ 4000000000000000000) {k : Nat} (hk : s.size * 9 < k) : names_Attr.f k s = some (mayB true s) := by
  unfold names_Attr.f
  rw [plain_f s ⟨#[47, 62, 34, 39, 60, 61]⟩ (by decide) hs hk, Option.bind_some, mayB_eq]
  refine congrArg some ?_
  rw [show plainB (dat ⟨#[47, 62, 34, 39, 60, 61]⟩) = fun c => !badI true (c.toNat : Int) from funext plain_at]
  congr 1
  unfold headB
  rw [Lib.toList_data]
  cases h : dat s with
  | nil => rw [show s.data.toList = [] from h]; rfl
  | cons c t => rw [show s.data.toList = c :: t from h]; rfl
theorem letter_f (c : Int) : fold_Letter.f c = some (decide (97 ≤ c) && decide (c ≤ 122) || upI c) := by
  unfold fold_Letter.f upI
  repeat' split
  all_goals
    refine congrArg some ?_
    rw [Bool.eq_iff_iff]
    simp only [Bool.or_eq_true, Bool.and_eq_true, decide_eq_true_eq, Bool.false_eq_true, eq_self, true_iff, false_iff]
    omega
theorem right_f (s : ByteArray) (hs : s.size ≤ 4000000000000000000) {k : Nat} (hk : s.size * 5 < k) : names_Right.f k s = some (mayB false s) := by
  unfold names_Right.f
  rw [plain_f s ⟨#[47, 62]⟩ (by decide) hs hk, Option.bind_some, mayB_eq]
  rw [show plainB (dat ⟨#[47, 62]⟩) = fun c => !badI false (c.toNat : Int) from funext plain_el, Lib.toList_data]
  unfold headB
  cases h : dat s with
  | nil => rw [show s.data.toList = [] from h]; rfl
  | cons c t =>
    rw [show s.data.toList = c :: t from h]
    have h0 : (dat s)[0]? = some c := by rw [h]; rfl
    have hl := at_lt (s := s) h0
    have hb := bt_c (s := s) h0
    rw [show ((0 : Nat) : Int) = 0 from rfl] at hb
    have e : ((c :: t) != ([] : List UInt8)) = true := rfl
    rw [e, Bool.and_true]
    show _ = some ((c :: t).all _ && (false || (decide (97 ≤ c.toNat) && decide (c.toNat ≤ 122))))
    cases ha : (c :: t).all (fun c => !badI false (c.toNat : Int)) with
    | false => rw [if_neg (by decide), Bool.false_and]
    | true =>
      rw [if_pos rfl, if_pos (by omega), hb, letter_f, Option.bind_some, Bool.true_and, Bool.false_or]
      have hu : upI (c.toNat : Int) = false := by
        rw [List.all_cons, Bool.and_eq_true] at ha
        have := ha.1
        unfold badI at this
        cases hq : upI (c.toNat : Int) with
        | false => rfl
        | true => rw [hq] at this; simp at this
      rw [hu, Bool.or_false]
      refine congrArg some ?_
      rw [Bool.eq_iff_iff]
      simp only [Bool.and_eq_true, decide_eq_true_eq]
      omega
end Go.Proofs.Ytjofofpplpmgjaa.Pure
