import Derived.Test.YtjofofpplpmgjaaJConfigCanon4
import Derived.Test.YtjofofpplpmgjaaJConfigCanon1
import Derived.Test.YtjofofpplpmgjaaJConfigCanon2
namespace Go.Proofs.Ytjofofpplpmgjaa.Pr
open Go.RowKit Go.Proofs.YtjofofpplpmgjaaW.PrintWords Go.Proofs.YtjofofpplpmgjaaW.PrintLast Go.Proofs.YtjofofpplpmgjaaW.PrintMore
attribute [local go_sem] max2_int min2_int max_two min_two max_three min_three max_four min_four   -- for this text's walks alone
set_option linter.unusedVariables false
set_option linter.unusedSimpArgs false

def boltinglaw12_ConfigCanon.j0 : Nat → Bool → Bool → Bool → List ByteArray → List ByteArray → List ByteArray → List (S35) → Bool → Bool → Bool → Bool → List ByteArray → List ByteArray → List ByteArray → List (S35) → Bool → Bool → Option (Bool)
  | 0, _, _, _, _, _, _, _, _, _, _, _, _, _, _, _, _, _ => none
  | k + 1, x36, x491000, x491001, x491002, x491003, x491004, x491005, x491006, x491007, x524000, x524001, x524002, x524003, x524004, x524005, x524006, x524007 => if x36 = true then (some false) else ((config_Check.f x491000 x491001 x491002 x491003 x491004 x491005 x491006 x491007).bind fun t545 => (if t545 = 0 then ((config_Check.f x524000 x524001 x524002 x524003 x524004 x524005 x524006 x524007).bind fun t546 => (if t546 = 0 then ((boltingref02_Is.f k x524002).bind fun t547 => (if t547 = true then ((boltingref02_Is.f k x524003).bind fun t548 => (if t548 = true then ((boltingref02_Is.f k x524004).bind fun t549 => (if t549 = true then ((boltinglaw12_fixed.f).bind fun t550 => (some t550)) else (some false))) else (some false))) else (some false))) else (some false))) else ((boltingref02_Is.f k x524002).bind fun t551 => (if t551 = true then ((boltingref02_Is.f k x524003).bind fun t552 => (if t552 = true then ((boltingref02_Is.f k x524004).bind fun t553 => (if t553 = true then ((boltinglaw12_fixed.f).bind fun t554 => (some t554)) else (some false))) else (some false))) else (some false)))))
def boltinglaw12_ConfigCanon.f (k : Nat) (a0_0 : Bool) (a0_1 : Bool) (l0_2 : List ByteArray) (l0_3 : List ByteArray) (l0_4 : List ByteArray) (l0_5 : List (S35)) (a0_6 : Bool) (a0_7 : Bool) (a1 : ByteArray) (a2 : ByteArray) : Option (Bool) := (boltinglaw12_Bound.f k a0_0 a0_1 l0_2 l0_3 l0_4 l0_5 a0_6 a0_7).bind fun bt491 => ((config_Canon.f bt491.1 bt491.2.1 bt491.2.2.1 bt491.2.2.2.1 bt491.2.2.2.2.1 bt491.2.2.2.2.2.1 bt491.2.2.2.2.2.2.1 bt491.2.2.2.2.2.2.2).bind fun bt507 => ((config_Element.f k bt491.1 bt491.2.1 bt491.2.2.1 bt491.2.2.2.1 bt491.2.2.2.2.1 bt491.2.2.2.2.2.1 bt491.2.2.2.2.2.2.1 bt491.2.2.2.2.2.2.2 a1).bind fun t524 => ((config_Element.f k bt507.1 bt507.2.1 bt507.2.2.1 bt507.2.2.2.1 bt507.2.2.2.2.1 bt507.2.2.2.2.2.1 bt507.2.2.2.2.2.2.1 bt507.2.2.2.2.2.2.2 a1).bind fun t525 => (if t524 = t525 then ((config_Attr.f bt491.1 bt491.2.1 bt491.2.2.1 bt491.2.2.2.1 bt491.2.2.2.2.1 bt491.2.2.2.2.2.1 bt491.2.2.2.2.2.2.1 bt491.2.2.2.2.2.2.2 a1 a2).bind fun t526 => ((config_Attr.f bt507.1 bt507.2.1 bt507.2.2.1 bt507.2.2.2.1 bt507.2.2.2.2.1 bt507.2.2.2.2.2.1 bt507.2.2.2.2.2.2.1 bt507.2.2.2.2.2.2.2 a1 a2).bind fun t527 => (if (t526 != t527) = true then (boltinglaw12_ConfigCanon.j0 k true bt491.1 bt491.2.1 bt491.2.2.1 bt491.2.2.2.1 bt491.2.2.2.2.1 bt491.2.2.2.2.2.1 bt491.2.2.2.2.2.2.1 bt491.2.2.2.2.2.2.2 bt507.1 bt507.2.1 bt507.2.2.1 bt507.2.2.2.1 bt507.2.2.2.2.1 bt507.2.2.2.2.2.1 bt507.2.2.2.2.2.2.1 bt507.2.2.2.2.2.2.2) else ((config_Canon.f bt507.1 bt507.2.1 bt507.2.2.1 bt507.2.2.2.1 bt507.2.2.2.2.1 bt507.2.2.2.2.2.1 bt507.2.2.2.2.2.2.1 bt507.2.2.2.2.2.2.2).bind fun bt528 => ((boltingref12_Same.f k bt528.1 bt528.2.1 bt528.2.2.1 bt528.2.2.2.1 bt528.2.2.2.2.1 bt528.2.2.2.2.2.1 bt528.2.2.2.2.2.2.1 bt528.2.2.2.2.2.2.2 bt507.1 bt507.2.1 bt507.2.2.1 bt507.2.2.2.1 bt507.2.2.2.2.1 bt507.2.2.2.2.2.1 bt507.2.2.2.2.2.2.1 bt507.2.2.2.2.2.2.2).bind fun t544 => (boltinglaw12_ConfigCanon.j0 k (!t544) bt491.1 bt491.2.1 bt491.2.2.1 bt491.2.2.2.1 bt491.2.2.2.2.1 bt491.2.2.2.2.2.1 bt491.2.2.2.2.2.2.1 bt491.2.2.2.2.2.2.2 bt507.1 bt507.2.1 bt507.2.2.1 bt507.2.2.2.1 bt507.2.2.2.2.1 bt507.2.2.2.2.2.1 bt507.2.2.2.2.2.2.1 bt507.2.2.2.2.2.2.2)))))) else (boltinglaw12_ConfigCanon.j0 k true bt491.1 bt491.2.1 bt491.2.2.1 bt491.2.2.2.1 bt491.2.2.2.2.1 bt491.2.2.2.2.2.1 bt491.2.2.2.2.2.2.1 bt491.2.2.2.2.2.2.2 bt507.1 bt507.2.1 bt507.2.2.1 bt507.2.2.2.1 bt507.2.2.2.2.1 bt507.2.2.2.2.2.1 bt507.2.2.2.2.2.2.1 bt507.2.2.2.2.2.2.2)))))
def boltinglaw12_ConfigCanon.T3 : Bool × List (List Nat × List Nat) := (true, [([], []), ([], []), ([0, 1], [0, 1]), ([], []), ([], []), ([3, 4, 2], [3, 4]), ([2, 5], [2, 5]), ([6, 5], [6]), ([7], [7]), ([7], [7]), ([7], [7]), ([8, 9, 10, 7, 7], [7, 8, 9, 10]), ([7], [7]), ([7], [7]), ([7], [7]), ([12, 13, 14, 11, 7], [7, 12, 13, 14]), ([11, 15, 7], [7, 11, 15]), ([7, 16], [7, 16]), ([17, 15], [17]), ([18], [18]), ([19, 18, 18], [18, 19]), ([18], [18]), ([20, 21, 20, 18], [18, 20, 21]), ([22, 18], [18, 22]), ([18, 23], [18, 23])])
def boltinglaw12_ConfigCanon.B3 : List Nat := [0, 0, 3, 0, 0, 31, 63, 127, 255, 255, 255, 2047, 255, 255, 255, 32767, 65535, 131071, 262143, 524287, 1048575, 524287, 4194303, 8388607, 16777215]
theorem boltinglaw12_ConfigCanon.tab3 : rtab .any (opsOf Try.f9 3) = boltinglaw12_ConfigCanon.T3 := by kernel_rfl
theorem boltinglaw12_ConfigCanon.bits3 : waitsOk boltinglaw12_ConfigCanon.T3.2 boltinglaw12_ConfigCanon.B3 = true := by kernel_rfl
set_option maxHeartbeats 8000000 in
set_option maxRecDepth 100000 in
theorem boltinglaw12_ConfigCanon.calls (k : Nat) (a0_0 : Bool) (a0_1 : Bool) (A0_2 : Option Addr) (c0_2 : Nat) (l0_2 : List ByteArray) (A0_3 : Option Addr) (c0_3 : Nat) (l0_3 : List ByteArray) (A0_4 : Option Addr) (c0_4 : Nat) (l0_4 : List ByteArray) (A0_5 : Option Addr) (c0_5 : Nat) (l0_5 : List (S35)) (a0_6 : Bool) (a0_7 : Bool) (a1 : ByteArray) (a2 : ByteArray) (r : Bool) (w : World) (hr0_2 : Kd.C Kd.string w A0_2 l0_2.length l0_2) (hc0_2 : l0_2.length ≤ c0_2) (hr0_3 : Kd.C Kd.string w A0_3 l0_3.length l0_3) (hc0_3 : l0_3.length ≤ c0_3) (hr0_4 : Kd.C Kd.string w A0_4 l0_4.length l0_4) (hc0_4 : l0_4.length ≤ c0_4) (hr0_5 : Kd.C k35 w A0_5 l0_5.length l0_5) (hc0_5 : l0_5.length ≤ c0_5) (h : boltinglaw12_ConfigCanon.f k a0_0 a0_1 l0_2 l0_3 l0_4 l0_5 a0_6 a0_7 a1 a2 = some r) (hT : Aside0 (r = true) := by exact Aside0.mk rfl) :
    Calls Try.prog 9 #[.agg #[.bool a0_0, .bool a0_1, .slice A0_2 l0_2.length c0_2, .slice A0_3 l0_3.length c0_3, .slice A0_4 l0_4.length c0_4, .slice A0_5 l0_5.length c0_5, .bool a0_6, .bool a0_7], .string a1, .string a2] w fun e w' => e = .returned (.bool r) ∧ Below w.heap.size w w' := by
  have hu25 := Try.underlying25
  have HR0_2 := Aside0.mk hr0_2
  have HC0_2 := Aside0.mk hc0_2
  clear hr0_2 hc0_2
  have HR0_3 := Aside0.mk hr0_3
  have HC0_3 := Aside0.mk hc0_3
  clear hr0_3 hc0_3
  have HR0_4 := Aside0.mk hr0_4
  have HC0_4 := Aside0.mk hc0_4
  clear hr0_4 hc0_4
  have HR0_5 := Aside0.mk hr0_5
  have HC0_5 := Aside0.mk hc0_5
  clear hr0_5 hc0_5
  have HB := Aside0.mk (Below.refl w.heap.size w)
  have H : ((boltinglaw12_Bound.f k a0_0 a0_1 l0_2 l0_3 l0_4 l0_5 a0_6 a0_7).bind fun bt491 => ((config_Canon.f bt491.1 bt491.2.1 bt491.2.2.1 bt491.2.2.2.1 bt491.2.2.2.2.1 bt491.2.2.2.2.2.1 bt491.2.2.2.2.2.2.1 bt491.2.2.2.2.2.2.2).bind fun bt507 => ((config_Element.f k bt491.1 bt491.2.1 bt491.2.2.1 bt491.2.2.2.1 bt491.2.2.2.2.1 bt491.2.2.2.2.2.1 bt491.2.2.2.2.2.2.1 bt491.2.2.2.2.2.2.2 a1).bind fun t524 => ((config_Element.f k bt507.1 bt507.2.1 bt507.2.2.1 bt507.2.2.2.1 bt507.2.2.2.2.1 bt507.2.2.2.2.2.1 bt507.2.2.2.2.2.2.1 bt507.2.2.2.2.2.2.2 a1).bind fun t525 => (if t524 = t525 then ((config_Attr.f bt491.1 bt491.2.1 bt491.2.2.1 bt491.2.2.2.1 bt491.2.2.2.2.1 bt491.2.2.2.2.2.1 bt491.2.2.2.2.2.2.1 bt491.2.2.2.2.2.2.2 a1 a2).bind fun t526 => ((config_Attr.f bt507.1 bt507.2.1 bt507.2.2.1 bt507.2.2.2.1 bt507.2.2.2.2.1 bt507.2.2.2.2.2.1 bt507.2.2.2.2.2.2.1 bt507.2.2.2.2.2.2.2 a1 a2).bind fun t527 => (if (t526 != t527) = true then (boltinglaw12_ConfigCanon.j0 k true bt491.1 bt491.2.1 bt491.2.2.1 bt491.2.2.2.1 bt491.2.2.2.2.1 bt491.2.2.2.2.2.1 bt491.2.2.2.2.2.2.1 bt491.2.2.2.2.2.2.2 bt507.1 bt507.2.1 bt507.2.2.1 bt507.2.2.2.1 bt507.2.2.2.2.1 bt507.2.2.2.2.2.1 bt507.2.2.2.2.2.2.1 bt507.2.2.2.2.2.2.2) else ((config_Canon.f bt507.1 bt507.2.1 bt507.2.2.1 bt507.2.2.2.1 bt507.2.2.2.2.1 bt507.2.2.2.2.2.1 bt507.2.2.2.2.2.2.1 bt507.2.2.2.2.2.2.2).bind fun bt528 => ((boltingref12_Same.f k bt528.1 bt528.2.1 bt528.2.2.1 bt528.2.2.2.1 bt528.2.2.2.2.1 bt528.2.2.2.2.2.1 bt528.2.2.2.2.2.2.1 bt528.2.2.2.2.2.2.2 bt507.1 bt507.2.1 bt507.2.2.1 bt507.2.2.2.1 bt507.2.2.2.2.1 bt507.2.2.2.2.2.1 bt507.2.2.2.2.2.2.1 bt507.2.2.2.2.2.2.2).bind fun t544 => (boltinglaw12_ConfigCanon.j0 k (!t544) bt491.1 bt491.2.1 bt491.2.2.1 bt491.2.2.2.1 bt491.2.2.2.2.1 bt491.2.2.2.2.2.1 bt491.2.2.2.2.2.2.1 bt491.2.2.2.2.2.2.2 bt507.1 bt507.2.1 bt507.2.2.1 bt507.2.2.2.1 bt507.2.2.2.2.1 bt507.2.2.2.2.2.1 bt507.2.2.2.2.2.2.1 bt507.2.2.2.2.2.2.2)))))) else (boltinglaw12_ConfigCanon.j0 k true bt491.1 bt491.2.1 bt491.2.2.1 bt491.2.2.2.1 bt491.2.2.2.2.1 bt491.2.2.2.2.2.1 bt491.2.2.2.2.2.2.1 bt491.2.2.2.2.2.2.2 bt507.1 bt507.2.1 bt507.2.2.1 bt507.2.2.2.1 bt507.2.2.2.2.1 bt507.2.2.2.2.2.1 bt507.2.2.2.2.2.2.1 bt507.2.2.2.2.2.2.2)))))) = some r := h
  clear h
  replace H := Option.bind_eq_some_iff.mp H
  obtain ⟨⟨t491, t492, t493, t496, t499, t502, t505, t506⟩, A40, H⟩ := H
  try dsimp only at H
  have A4 := Aside0.mk A40
  clear A40
  replace H := Option.bind_eq_some_iff.mp H
  obtain ⟨⟨t507, t508, t509, t512, t515, t518, t521, t522⟩, A50, H⟩ := H
  try dsimp only at H
  have A5 := Aside0.mk A50
  clear A50
  have HC6 := Aside0.mk H
  clear H
  go_enter Try.func9, Try.ntmps9
  go_upto_region 3 with (first | ((with_reducible refine gate_dst (N := 3) rfl ?_); refine box_event ?hg (N := 3) ?hd (cs := #[.bool a0_0, .bool a0_1, .slice A0_2 l0_2.length c0_2, .slice A0_3 l0_3.length c0_3, .slice A0_4 l0_4.length c0_4, .slice A0_5 l0_5.length c0_5, .bool a0_6, .bool a0_7]) (t := 25) ?hr ?_; (case hd => rfl); (case hg => rfl); (case hr => first | (go_simp; done) | (go_simp; rfl)); intro gb490 hg w7 hbox hb; have n0_ := Aside0.mk (below_step (by repeat (first | (with_reducible first | exact HB.out | apply below_alloc | apply pw_below_drewN | apply below_drew1) | exact HB.out)) hb); have n1_ := Aside0.mk (hbox); have n2_ := Aside0.mk ((by rw [hg]; exact (below_size (by repeat (first | (with_reducible first | exact HB.out | apply below_alloc | apply pw_below_drewN | apply below_drew1) | exact HB.out))) : w.heap.size ≤ gb490)); have n3_ := Aside0.mk ((by rw [hg]; exact (below_size (by repeat (first | (with_reducible first | exact HB.out | apply below_alloc | apply pw_below_drewN | apply below_drew1) | exact HB.out))) : w.heap.size ≤ gb490)); clear HB; have HB := n0_; have BK490 := n1_; have GW490 := n2_; have GE490 := n3_; clear n0_ n1_ n2_ n3_; clear hb hbox hg; have hcz8_0 : w7.cell? ⟨gb490, 0, none⟩ = some (.bool a0_0) := (blk_cell BK490.out 0).trans rfl; have hcz8_1 : w7.cell? ⟨gb490, 1, none⟩ = some (.bool a0_1) := (blk_cell BK490.out 1).trans rfl; have hcz8_2 : w7.cell? ⟨gb490, 2, none⟩ = some (.slice A0_2 l0_2.length c0_2) := (blk_cell BK490.out 2).trans rfl; have hcz8_3 : w7.cell? ⟨gb490, 3, none⟩ = some (.slice A0_3 l0_3.length c0_3) := (blk_cell BK490.out 3).trans rfl; have hcz8_4 : w7.cell? ⟨gb490, 4, none⟩ = some (.slice A0_4 l0_4.length c0_4) := (blk_cell BK490.out 4).trans rfl; have hcz8_5 : w7.cell? ⟨gb490, 5, none⟩ = some (.slice A0_5 l0_5.length c0_5) := (blk_cell BK490.out 5).trans rfl; have hcz8_6 : w7.cell? ⟨gb490, 6, none⟩ = some (.bool a0_6) := (blk_cell BK490.out 6).trans rfl; have hcz8_7 : w7.cell? ⟨gb490, 7, none⟩ = some (.bool a0_7) := (blk_cell BK490.out 7).trans rfl; have hfz8_0 := blk_frozen BK490.out 0; have hfz8_1 := blk_frozen BK490.out 1; have hfz8_2 := blk_frozen BK490.out 2; have hfz8_3 := blk_frozen BK490.out 3; have hfz8_4 := blk_frozen BK490.out 4; have hfz8_5 := blk_frozen BK490.out 5; have hfz8_6 := blk_frozen BK490.out 6; have hfz8_7 := blk_frozen BK490.out 7) | ((with_reducible refine gate_callee (f := 11) rfl ?_); refine goesL_ (some 9) rfl rfl Try.func11 (by kernel_rfl) rfl #[.agg #[.bool a0_0, .bool a0_1, .slice A0_2 l0_2.length c0_2, .slice A0_3 l0_3.length c0_3, .slice A0_4 l0_4.length c0_4, .slice A0_5 l0_5.length c0_5, .bool a0_6, .bool a0_7]] rfl (by (try simp only [List.map_toArray, List.map_cons, List.map_nil]); first | done | rfl | (simp only [List.length_drop, List.length_take]; rfl)) ?_; (with_reducible refine (boltinglaw12_Bound.calls k a0_0 a0_1 (fun k_ => k_ < w.heap.size) _ _ l0_2 (fun k_ => k_ < w.heap.size) _ _ l0_3 (fun k_ => k_ < w.heap.size) _ _ l0_4 (fun k_ => k_ < w.heap.size) _ _ l0_5 a0_6 a0_7 t491 t492 t493 t496 t499 t502 t505 t506 _ ?side1 ?side2 ?side3 ?side4 A4.out).mono ?_); (case side1 => exact Kd.V_mk HC0_2.out (Kd.F_below (Kd.C_F Kd.heap_string HR0_2.out) (by repeat (first | (with_reducible first | exact HB.out | apply below_alloc | apply pw_below_drewN | apply below_drew1 | refine below_set ?_ GE490.out) | exact HB.out)))); (case side2 => exact Kd.V_mk HC0_3.out (Kd.F_below (Kd.C_F Kd.heap_string HR0_3.out) (by repeat (first | (with_reducible first | exact HB.out | apply below_alloc | apply pw_below_drewN | apply below_drew1 | refine below_set ?_ GE490.out) | exact HB.out)))); (case side3 => exact Kd.V_mk HC0_4.out (Kd.F_below (Kd.C_F Kd.heap_string HR0_4.out) (by repeat (first | (with_reducible first | exact HB.out | apply below_alloc | apply pw_below_drewN | apply below_drew1 | refine below_set ?_ GE490.out) | exact HB.out)))); (case side4 => exact Kd.V_mk HC0_5.out (Kd.F_below (Kd.C_F k35_heap HR0_5.out) (by repeat (first | (with_reducible first | exact HB.out | apply below_alloc | apply pw_below_drewN | apply below_drew1 | refine below_set ?_ GE490.out) | exact HB.out)))); rintro e w9 ⟨v494, v497, v500, v503, rfl, ho0, ho1, ho2, ho3, hb⟩; refine ⟨_, rfl, ?_⟩; have n0_ := Aside0.mk (Kd.V_lower (Kd.V_mono (ok' := fun k_ => some k_ ≠ (v503 : Value).ownBlock ∧ k_ ≠ gb490) ho0 (fun k_ hk_ => ⟨hk_.2, Or.elim hk_.1 (fun hs_ => Or.elim hs_ (fun hs_ => fun e_ => Nat.not_le.2 hs_ (by rw [e_]; exact GW490.out)) (fun hs_ => Or.elim hs_ (fun hs_ => fun e_ => Nat.not_le.2 hs_ (by rw [e_]; exact GW490.out)) (fun hs_ => Or.elim hs_ (fun hs_ => fun e_ => Nat.not_le.2 hs_ (by rw [e_]; exact GW490.out)) (fun hs_ => fun e_ => Nat.not_le.2 hs_ (by rw [e_]; exact GW490.out))))) (fun hn_ => (Kd.freshB (g := gb490) (o := .cells #[.bool a0_0, .bool a0_1, .slice A0_2 l0_2.length c0_2, .slice A0_3 l0_3.length c0_3, .slice A0_4 l0_4.length c0_4, .slice A0_5 l0_5.length c0_5, .bool a0_6, .bool a0_7] 25 (0, 0)) (by (with_reducible repeat (first | refine blk_drewN ?_ _ | refine blk_drew ?_ | refine blk_alloc ?_ _)); exact BK490.out) k_ hn_))⟩)) (below_size (by repeat (first | (with_reducible first | exact HB.out | apply below_alloc | apply pw_below_drewN | apply below_drew1 | refine below_set ?_ GE490.out) | exact HB.out)))); have n1_ := Aside0.mk (Kd.V_lower (Kd.V_mono (ok' := fun k_ => some k_ ≠ (v503 : Value).ownBlock ∧ k_ ≠ gb490) ho1 (fun k_ hk_ => ⟨hk_.2, Or.elim hk_.1 (fun hs_ => Or.elim hs_ (fun hs_ => fun e_ => Nat.not_le.2 hs_ (by rw [e_]; exact GW490.out)) (fun hs_ => Or.elim hs_ (fun hs_ => fun e_ => Nat.not_le.2 hs_ (by rw [e_]; exact GW490.out)) (fun hs_ => Or.elim hs_ (fun hs_ => fun e_ => Nat.not_le.2 hs_ (by rw [e_]; exact GW490.out)) (fun hs_ => fun e_ => Nat.not_le.2 hs_ (by rw [e_]; exact GW490.out))))) (fun hn_ => (Kd.freshB (g := gb490) (o := .cells #[.bool a0_0, .bool a0_1, .slice A0_2 l0_2.length c0_2, .slice A0_3 l0_3.length c0_3, .slice A0_4 l0_4.length c0_4, .slice A0_5 l0_5.length c0_5, .bool a0_6, .bool a0_7] 25 (0, 0)) (by (with_reducible repeat (first | refine blk_drewN ?_ _ | refine blk_drew ?_ | refine blk_alloc ?_ _)); exact BK490.out) k_ hn_))⟩)) (below_size (by repeat (first | (with_reducible first | exact HB.out | apply below_alloc | apply pw_below_drewN | apply below_drew1 | refine below_set ?_ GE490.out) | exact HB.out)))); have n2_ := Aside0.mk (Kd.V_lower (Kd.V_mono (ok' := fun k_ => some k_ ≠ (v503 : Value).ownBlock ∧ k_ ≠ gb490) ho2 (fun k_ hk_ => ⟨hk_.2, Or.elim hk_.1 (fun hs_ => Or.elim hs_ (fun hs_ => fun e_ => Nat.not_le.2 hs_ (by rw [e_]; exact GW490.out)) (fun hs_ => Or.elim hs_ (fun hs_ => fun e_ => Nat.not_le.2 hs_ (by rw [e_]; exact GW490.out)) (fun hs_ => Or.elim hs_ (fun hs_ => fun e_ => Nat.not_le.2 hs_ (by rw [e_]; exact GW490.out)) (fun hs_ => fun e_ => Nat.not_le.2 hs_ (by rw [e_]; exact GW490.out))))) (fun hn_ => (Kd.freshB (g := gb490) (o := .cells #[.bool a0_0, .bool a0_1, .slice A0_2 l0_2.length c0_2, .slice A0_3 l0_3.length c0_3, .slice A0_4 l0_4.length c0_4, .slice A0_5 l0_5.length c0_5, .bool a0_6, .bool a0_7] 25 (0, 0)) (by (with_reducible repeat (first | refine blk_drewN ?_ _ | refine blk_drew ?_ | refine blk_alloc ?_ _)); exact BK490.out) k_ hn_))⟩)) (below_size (by repeat (first | (with_reducible first | exact HB.out | apply below_alloc | apply pw_below_drewN | apply below_drew1 | refine below_set ?_ GE490.out) | exact HB.out)))); have n3_ := Aside0.mk (Kd.N_lower (Kd.N_mono (ok' := fun k_ => k_ ≠ gb490) ho3 (fun k_ hk_ => Or.elim hk_ (fun hs_ => Or.elim hs_ (fun hs_ => fun e_ => Nat.not_le.2 hs_ (by rw [e_]; exact GW490.out)) (fun hs_ => Or.elim hs_ (fun hs_ => fun e_ => Nat.not_le.2 hs_ (by rw [e_]; exact GW490.out)) (fun hs_ => Or.elim hs_ (fun hs_ => fun e_ => Nat.not_le.2 hs_ (by rw [e_]; exact GW490.out)) (fun hs_ => fun e_ => Nat.not_le.2 hs_ (by rw [e_]; exact GW490.out))))) (fun hn_ => (Kd.freshB (g := gb490) (o := .cells #[.bool a0_0, .bool a0_1, .slice A0_2 l0_2.length c0_2, .slice A0_3 l0_3.length c0_3, .slice A0_4 l0_4.length c0_4, .slice A0_5 l0_5.length c0_5, .bool a0_6, .bool a0_7] 25 (0, 0)) (by (with_reducible repeat (first | refine blk_drewN ?_ _ | refine blk_drew ?_ | refine blk_alloc ?_ _)); exact BK490.out) k_ hn_)))) (below_size (by repeat (first | (with_reducible first | exact HB.out | apply below_alloc | apply pw_below_drewN | apply below_drew1 | refine below_set ?_ GE490.out) | exact HB.out)))); have n4_ := Aside0.mk (blk_below (g := gb490) (o := .cells #[.bool a0_0, .bool a0_1, .slice A0_2 l0_2.length c0_2, .slice A0_3 l0_3.length c0_3, .slice A0_4 l0_4.length c0_4, .slice A0_5 l0_5.length c0_5, .bool a0_6, .bool a0_7] 25 (0, 0)) (by (with_reducible repeat (first | refine blk_drewN ?_ _ | refine blk_drew ?_ | refine blk_alloc ?_ _)); exact BK490.out) hb); have n5_ := Aside0.mk (below_step (by repeat (first | (with_reducible first | exact HB.out | apply below_alloc | apply pw_below_drewN | apply below_drew1 | refine below_set ?_ GE490.out) | exact HB.out)) hb); clear BK490; clear HB; have HO495 := n0_; have HO498 := n1_; have HO501 := n2_; have HO504 := n3_; have BK490 := n4_; have HB := n5_; clear n0_ n1_ n2_ n3_ n4_ n5_; (try clear hb); (try clear hb2); (try clear hk); (try clear hi); (try clear ho0); (try clear ho1); (try clear ho2); (try clear ho3); have hcz10_0 : w9.cell? ⟨gb490, 0, none⟩ = some (.bool a0_0) := (blk_cell BK490.out 0).trans rfl; have hcz10_1 : w9.cell? ⟨gb490, 1, none⟩ = some (.bool a0_1) := (blk_cell BK490.out 1).trans rfl; have hcz10_2 : w9.cell? ⟨gb490, 2, none⟩ = some (.slice A0_2 l0_2.length c0_2) := (blk_cell BK490.out 2).trans rfl; have hcz10_3 : w9.cell? ⟨gb490, 3, none⟩ = some (.slice A0_3 l0_3.length c0_3) := (blk_cell BK490.out 3).trans rfl; have hcz10_4 : w9.cell? ⟨gb490, 4, none⟩ = some (.slice A0_4 l0_4.length c0_4) := (blk_cell BK490.out 4).trans rfl; have hcz10_5 : w9.cell? ⟨gb490, 5, none⟩ = some (.slice A0_5 l0_5.length c0_5) := (blk_cell BK490.out 5).trans rfl; have hcz10_6 : w9.cell? ⟨gb490, 6, none⟩ = some (.bool a0_6) := (blk_cell BK490.out 6).trans rfl; have hcz10_7 : w9.cell? ⟨gb490, 7, none⟩ = some (.bool a0_7) := (blk_cell BK490.out 7).trans rfl; have hfz10_0 := blk_frozen BK490.out 0; have hfz10_1 := blk_frozen BK490.out 1; have hfz10_2 := blk_frozen BK490.out 2; have hfz10_3 := blk_frozen BK490.out 3; have hfz10_4 := blk_frozen BK490.out 4; have hfz10_5 := blk_frozen BK490.out 5; have hfz10_6 := blk_frozen BK490.out 6; have hfz10_7 := blk_frozen BK490.out 7; obtain ⟨Ao11, co11, eo11⟩ := Kd.V_slice HO495.out; subst eo11; obtain ⟨Ao12, co12, eo12⟩ := Kd.V_slice HO498.out; subst eo12; obtain ⟨Ao13, co13, eo13⟩ := Kd.V_slice HO501.out; subst eo13; obtain ⟨Ao14, co14, eo14⟩ := Kd.N_slice HO504.out; subst eo14) | ((with_reducible refine gate_callee (f := 23) rfl ?_); refine goesL_ (some 11) rfl rfl Try.func23 (by kernel_rfl) rfl #[.agg #[.bool t491, .bool t492, .slice Ao11 t493.length co11, .slice Ao12 t496.length co12, .slice Ao13 t499.length co13, .slice Ao14 t502.length co14, .bool t505, .bool t506]] rfl (by (try simp only [List.map_toArray, List.map_cons, List.map_nil]); first | done | rfl | (simp only [List.length_drop, List.length_take]; rfl)) ?_; (with_reducible refine (config_Canon.calls t491 t492 _ _ t493 _ _ t496 _ _ t499 _ _ t502 t505 t506 t507 t508 t509 t512 t515 t518 t521 t522 _ ?side1 ?side2 ?side3 ?side4 ?side5 ?side6 ?side7 ?side8 A5.out).mono ?_); (case side1 => refine (Kd.V_reads' (e := 9) (base := w.heap.size) (ok := fun k_ => (some k_ ≠ (.slice Ao14 t502.length co14 : Value).ownBlock ∧ k_ ≠ gb490)) (n := t493.length) (c := co11) ?_).2.2; exact (by (with_reducible repeat (first | apply Kd.V_alloc | apply Kd.V_drewN | apply Kd.V_drew)); exact (Kd.V_mono (Kd.V_far (p := ⟨gb490, 7, none⟩) (Kd.V_far (p := ⟨gb490, 6, none⟩) (Kd.V_far (p := ⟨gb490, 5, none⟩) (Kd.V_far (p := ⟨gb490, 4, none⟩) (Kd.V_far (p := ⟨gb490, 3, none⟩) (Kd.V_far (p := ⟨gb490, 2, none⟩) (Kd.V_far (p := ⟨gb490, 1, none⟩) (Kd.V_far (p := ⟨gb490, 0, none⟩) (Kd.V_mono HO495.out (fun k_ hk => (⟨hk, hk.2⟩ : _ ∧ k_ ≠ gb490))) (fun _ hk => hk.2) (.bool t491)) (fun _ hk => hk.2) (.bool t492)) (fun _ hk => hk.2) (.slice Ao11 t493.length co11)) (fun _ hk => hk.2) (.slice Ao12 t496.length co12)) (fun _ hk => hk.2) (.slice Ao13 t499.length co13)) (fun _ hk => hk.2) (.slice Ao14 t502.length co14)) (fun _ hk => hk.2) (.bool t505)) (fun _ hk => hk.2) (.bool t506)) (fun _ h_ => h_.1)))); (case side2 => exact (Kd.V_reads' HO495.out).2.1); (case side3 => refine (Kd.V_reads' (e := 9) (base := w.heap.size) (ok := fun k_ => (some k_ ≠ (.slice Ao14 t502.length co14 : Value).ownBlock ∧ k_ ≠ gb490)) (n := t496.length) (c := co12) ?_).2.2; exact (by (with_reducible repeat (first | apply Kd.V_alloc | apply Kd.V_drewN | apply Kd.V_drew)); exact (Kd.V_mono (Kd.V_far (p := ⟨gb490, 7, none⟩) (Kd.V_far (p := ⟨gb490, 6, none⟩) (Kd.V_far (p := ⟨gb490, 5, none⟩) (Kd.V_far (p := ⟨gb490, 4, none⟩) (Kd.V_far (p := ⟨gb490, 3, none⟩) (Kd.V_far (p := ⟨gb490, 2, none⟩) (Kd.V_far (p := ⟨gb490, 1, none⟩) (Kd.V_far (p := ⟨gb490, 0, none⟩) (Kd.V_mono HO498.out (fun k_ hk => (⟨hk, hk.2⟩ : _ ∧ k_ ≠ gb490))) (fun _ hk => hk.2) (.bool t491)) (fun _ hk => hk.2) (.bool t492)) (fun _ hk => hk.2) (.slice Ao11 t493.length co11)) (fun _ hk => hk.2) (.slice Ao12 t496.length co12)) (fun _ hk => hk.2) (.slice Ao13 t499.length co13)) (fun _ hk => hk.2) (.slice Ao14 t502.length co14)) (fun _ hk => hk.2) (.bool t505)) (fun _ hk => hk.2) (.bool t506)) (fun _ h_ => h_.1)))); (case side4 => exact (Kd.V_reads' HO498.out).2.1); (case side5 => refine (Kd.V_reads' (e := 9) (base := w.heap.size) (ok := fun k_ => (some k_ ≠ (.slice Ao14 t502.length co14 : Value).ownBlock ∧ k_ ≠ gb490)) (n := t499.length) (c := co13) ?_).2.2; exact (by (with_reducible repeat (first | apply Kd.V_alloc | apply Kd.V_drewN | apply Kd.V_drew)); exact (Kd.V_mono (Kd.V_far (p := ⟨gb490, 7, none⟩) (Kd.V_far (p := ⟨gb490, 6, none⟩) (Kd.V_far (p := ⟨gb490, 5, none⟩) (Kd.V_far (p := ⟨gb490, 4, none⟩) (Kd.V_far (p := ⟨gb490, 3, none⟩) (Kd.V_far (p := ⟨gb490, 2, none⟩) (Kd.V_far (p := ⟨gb490, 1, none⟩) (Kd.V_far (p := ⟨gb490, 0, none⟩) (Kd.V_mono HO501.out (fun k_ hk => (⟨hk, hk.2⟩ : _ ∧ k_ ≠ gb490))) (fun _ hk => hk.2) (.bool t491)) (fun _ hk => hk.2) (.bool t492)) (fun _ hk => hk.2) (.slice Ao11 t493.length co11)) (fun _ hk => hk.2) (.slice Ao12 t496.length co12)) (fun _ hk => hk.2) (.slice Ao13 t499.length co13)) (fun _ hk => hk.2) (.slice Ao14 t502.length co14)) (fun _ hk => hk.2) (.bool t505)) (fun _ hk => hk.2) (.bool t506)) (fun _ h_ => h_.1)))); (case side6 => exact (Kd.V_reads' HO501.out).2.1); (case side7 => refine (Kd.N_reads' (e := 35) (base := w.heap.size) (ok := fun k_ => k_ ≠ gb490) (n := t502.length) (c := co14) ?_).2.2; exact (by (with_reducible repeat (first | apply Kd.N_alloc | apply Kd.N_drewN | apply Kd.N_drew)); exact (Kd.N_mono (Kd.N_far (p := ⟨gb490, 7, none⟩) (Kd.N_far (p := ⟨gb490, 6, none⟩) (Kd.N_far (p := ⟨gb490, 5, none⟩) (Kd.N_far (p := ⟨gb490, 4, none⟩) (Kd.N_far (p := ⟨gb490, 3, none⟩) (Kd.N_far (p := ⟨gb490, 2, none⟩) (Kd.N_far (p := ⟨gb490, 1, none⟩) (Kd.N_far (p := ⟨gb490, 0, none⟩) (Kd.N_mono HO504.out (fun k_ hk => (⟨hk, hk⟩ : _ ∧ k_ ≠ gb490))) (fun _ hk => hk.2) (.bool t491)) (fun _ hk => hk.2) (.bool t492)) (fun _ hk => hk.2) (.slice Ao11 t493.length co11)) (fun _ hk => hk.2) (.slice Ao12 t496.length co12)) (fun _ hk => hk.2) (.slice Ao13 t499.length co13)) (fun _ hk => hk.2) (.slice Ao14 t502.length co14)) (fun _ hk => hk.2) (.bool t505)) (fun _ hk => hk.2) (.bool t506)) (fun _ h_ => h_.1)))); (case side8 => exact (Kd.N_reads' HO504.out).2.1); rintro e w15 ⟨v510, v513, v516, v519, rfl, ho0, ho1, ho2, ho3, hb⟩; refine ⟨_, rfl, ?_⟩; have n0_ := Aside0.mk (Kd.V_mono (Kd.V_told (Kd.V_told (Kd.V_told (Kd.V_told (Kd.V_old (by (with_reducible repeat (first | apply Kd.V_alloc | apply Kd.V_drewN | apply Kd.V_drew)); exact (Kd.V_mono (Kd.V_far (p := ⟨gb490, 7, none⟩) (Kd.V_far (p := ⟨gb490, 6, none⟩) (Kd.V_far (p := ⟨gb490, 5, none⟩) (Kd.V_far (p := ⟨gb490, 4, none⟩) (Kd.V_far (p := ⟨gb490, 3, none⟩) (Kd.V_far (p := ⟨gb490, 2, none⟩) (Kd.V_far (p := ⟨gb490, 1, none⟩) (Kd.V_far (p := ⟨gb490, 0, none⟩) (Kd.V_mono HO495.out (fun k_ hk => (⟨hk, hk.2⟩ : _ ∧ k_ ≠ gb490))) (fun _ hk => hk.2) (.bool t491)) (fun _ hk => hk.2) (.bool t492)) (fun _ hk => hk.2) (.slice Ao11 t493.length co11)) (fun _ hk => hk.2) (.slice Ao12 t496.length co12)) (fun _ hk => hk.2) (.slice Ao13 t499.length co13)) (fun _ hk => hk.2) (.slice Ao14 t502.length co14)) (fun _ hk => hk.2) (.bool t505)) (fun _ hk => hk.2) (.bool t506)) (fun _ h_ => h_.1))) hb) (Kd.R_base ho0)) (Kd.R_base ho1)) (Kd.R_base ho2)) (Kd.R_base ho3)) (fun _ h_ => h_.1)); have n1_ := Aside0.mk (Kd.V_mono (Kd.V_told (Kd.V_told (Kd.V_told (Kd.V_told (Kd.V_old (by (with_reducible repeat (first | apply Kd.V_alloc | apply Kd.V_drewN | apply Kd.V_drew)); exact (Kd.V_mono (Kd.V_far (p := ⟨gb490, 7, none⟩) (Kd.V_far (p := ⟨gb490, 6, none⟩) (Kd.V_far (p := ⟨gb490, 5, none⟩) (Kd.V_far (p := ⟨gb490, 4, none⟩) (Kd.V_far (p := ⟨gb490, 3, none⟩) (Kd.V_far (p := ⟨gb490, 2, none⟩) (Kd.V_far (p := ⟨gb490, 1, none⟩) (Kd.V_far (p := ⟨gb490, 0, none⟩) (Kd.V_mono HO498.out (fun k_ hk => (⟨hk, hk.2⟩ : _ ∧ k_ ≠ gb490))) (fun _ hk => hk.2) (.bool t491)) (fun _ hk => hk.2) (.bool t492)) (fun _ hk => hk.2) (.slice Ao11 t493.length co11)) (fun _ hk => hk.2) (.slice Ao12 t496.length co12)) (fun _ hk => hk.2) (.slice Ao13 t499.length co13)) (fun _ hk => hk.2) (.slice Ao14 t502.length co14)) (fun _ hk => hk.2) (.bool t505)) (fun _ hk => hk.2) (.bool t506)) (fun _ h_ => h_.1))) hb) (Kd.R_base ho0)) (Kd.R_base ho1)) (Kd.R_base ho2)) (Kd.R_base ho3)) (fun _ h_ => h_.1)); have n2_ := Aside0.mk (Kd.V_mono (Kd.V_told (Kd.V_told (Kd.V_told (Kd.V_told (Kd.V_old (by (with_reducible repeat (first | apply Kd.V_alloc | apply Kd.V_drewN | apply Kd.V_drew)); exact (Kd.V_mono (Kd.V_far (p := ⟨gb490, 7, none⟩) (Kd.V_far (p := ⟨gb490, 6, none⟩) (Kd.V_far (p := ⟨gb490, 5, none⟩) (Kd.V_far (p := ⟨gb490, 4, none⟩) (Kd.V_far (p := ⟨gb490, 3, none⟩) (Kd.V_far (p := ⟨gb490, 2, none⟩) (Kd.V_far (p := ⟨gb490, 1, none⟩) (Kd.V_far (p := ⟨gb490, 0, none⟩) (Kd.V_mono HO501.out (fun k_ hk => (⟨hk, hk.2⟩ : _ ∧ k_ ≠ gb490))) (fun _ hk => hk.2) (.bool t491)) (fun _ hk => hk.2) (.bool t492)) (fun _ hk => hk.2) (.slice Ao11 t493.length co11)) (fun _ hk => hk.2) (.slice Ao12 t496.length co12)) (fun _ hk => hk.2) (.slice Ao13 t499.length co13)) (fun _ hk => hk.2) (.slice Ao14 t502.length co14)) (fun _ hk => hk.2) (.bool t505)) (fun _ hk => hk.2) (.bool t506)) (fun _ h_ => h_.1))) hb) (Kd.R_base ho0)) (Kd.R_base ho1)) (Kd.R_base ho2)) (Kd.R_base ho3)) (fun _ h_ => h_.1)); have n3_ := Aside0.mk (Kd.N_mono (Kd.N_told (Kd.N_told (Kd.N_told (Kd.N_told (Kd.N_old (by (with_reducible repeat (first | apply Kd.N_alloc | apply Kd.N_drewN | apply Kd.N_drew)); exact (Kd.N_mono (Kd.N_far (p := ⟨gb490, 7, none⟩) (Kd.N_far (p := ⟨gb490, 6, none⟩) (Kd.N_far (p := ⟨gb490, 5, none⟩) (Kd.N_far (p := ⟨gb490, 4, none⟩) (Kd.N_far (p := ⟨gb490, 3, none⟩) (Kd.N_far (p := ⟨gb490, 2, none⟩) (Kd.N_far (p := ⟨gb490, 1, none⟩) (Kd.N_far (p := ⟨gb490, 0, none⟩) (Kd.N_mono HO504.out (fun k_ hk => (⟨hk, hk⟩ : _ ∧ k_ ≠ gb490))) (fun _ hk => hk.2) (.bool t491)) (fun _ hk => hk.2) (.bool t492)) (fun _ hk => hk.2) (.slice Ao11 t493.length co11)) (fun _ hk => hk.2) (.slice Ao12 t496.length co12)) (fun _ hk => hk.2) (.slice Ao13 t499.length co13)) (fun _ hk => hk.2) (.slice Ao14 t502.length co14)) (fun _ hk => hk.2) (.bool t505)) (fun _ hk => hk.2) (.bool t506)) (fun _ h_ => h_.1))) hb) (Kd.R_base ho0)) (Kd.R_base ho1)) (Kd.R_base ho2)) (Kd.R_base ho3)) (fun _ h_ => h_.1)); have n4_ := Aside0.mk (Kd.R_lower ho0 (below_size (by repeat (first | (with_reducible first | exact HB.out | apply below_alloc | apply pw_below_drewN | apply below_drew1 | refine below_set ?_ GE490.out) | exact HB.out)))); have n5_ := Aside0.mk (Kd.R_lower ho1 (below_size (by repeat (first | (with_reducible first | exact HB.out | apply below_alloc | apply pw_below_drewN | apply below_drew1 | refine below_set ?_ GE490.out) | exact HB.out)))); have n6_ := Aside0.mk (Kd.R_lower ho2 (below_size (by repeat (first | (with_reducible first | exact HB.out | apply below_alloc | apply pw_below_drewN | apply below_drew1 | refine below_set ?_ GE490.out) | exact HB.out)))); have n7_ := Aside0.mk (Kd.N_lower (Kd.N_mono (ok' := fun k_ => some k_ ≠ (v510 : Value).ownBlock ∧ some k_ ≠ (v513 : Value).ownBlock ∧ some k_ ≠ (v516 : Value).ownBlock ∧ some k_ ≠ (.slice Ao14 t502.length co14 : Value).ownBlock ∧ k_ ≠ gb490) (Kd.R_N (Kd.R_bound ho3)) (fun k_ hk_ => ⟨hk_.1.1, hk_.1.2.1, hk_.1.2.2, (Kd.fresh' (Kd.N_lt (by (with_reducible repeat (first | apply Kd.N_alloc | apply Kd.N_drewN | apply Kd.N_drew)); exact (Kd.N_mono (Kd.N_far (p := ⟨gb490, 7, none⟩) (Kd.N_far (p := ⟨gb490, 6, none⟩) (Kd.N_far (p := ⟨gb490, 5, none⟩) (Kd.N_far (p := ⟨gb490, 4, none⟩) (Kd.N_far (p := ⟨gb490, 3, none⟩) (Kd.N_far (p := ⟨gb490, 2, none⟩) (Kd.N_far (p := ⟨gb490, 1, none⟩) (Kd.N_far (p := ⟨gb490, 0, none⟩) (Kd.N_mono HO504.out (fun k_ hk => (⟨hk, hk⟩ : _ ∧ k_ ≠ gb490))) (fun _ hk => hk.2) (.bool t491)) (fun _ hk => hk.2) (.bool t492)) (fun _ hk => hk.2) (.slice Ao11 t493.length co11)) (fun _ hk => hk.2) (.slice Ao12 t496.length co12)) (fun _ hk => hk.2) (.slice Ao13 t499.length co13)) (fun _ hk => hk.2) (.slice Ao14 t502.length co14)) (fun _ hk => hk.2) (.bool t505)) (fun _ hk => hk.2) (.bool t506)) (fun _ h_ => h_.1)))) k_ hk_.2.1), (Kd.freshB (g := gb490) (o := .cells #[.bool t491, .bool t492, .slice Ao11 t493.length co11, .slice Ao12 t496.length co12, .slice Ao13 t499.length co13, .slice Ao14 t502.length co14, .bool t505, .bool t506] 25 (0, 0)) (by (with_reducible repeat (first | refine blk_drewN ?_ _ | refine blk_drew ?_ | refine blk_alloc ?_ _)); refine blk_put (cs := #[.bool t491, .bool t492, .slice Ao11 t493.length co11, .slice Ao12 t496.length co12, .slice Ao13 t499.length co13, .slice Ao14 t502.length co14, .bool t505, .bool a0_7]) ?_ 7 _ rfl; (with_reducible repeat (first | refine blk_drewN ?_ _ | refine blk_drew ?_ | refine blk_alloc ?_ _)); refine blk_put (cs := #[.bool t491, .bool t492, .slice Ao11 t493.length co11, .slice Ao12 t496.length co12, .slice Ao13 t499.length co13, .slice Ao14 t502.length co14, .bool a0_6, .bool a0_7]) ?_ 6 _ rfl; (with_reducible repeat (first | refine blk_drewN ?_ _ | refine blk_drew ?_ | refine blk_alloc ?_ _)); refine blk_put (cs := #[.bool t491, .bool t492, .slice Ao11 t493.length co11, .slice Ao12 t496.length co12, .slice Ao13 t499.length co13, .slice A0_5 l0_5.length c0_5, .bool a0_6, .bool a0_7]) ?_ 5 _ rfl; (with_reducible repeat (first | refine blk_drewN ?_ _ | refine blk_drew ?_ | refine blk_alloc ?_ _)); refine blk_put (cs := #[.bool t491, .bool t492, .slice Ao11 t493.length co11, .slice Ao12 t496.length co12, .slice A0_4 l0_4.length c0_4, .slice A0_5 l0_5.length c0_5, .bool a0_6, .bool a0_7]) ?_ 4 _ rfl; (with_reducible repeat (first | refine blk_drewN ?_ _ | refine blk_drew ?_ | refine blk_alloc ?_ _)); refine blk_put (cs := #[.bool t491, .bool t492, .slice Ao11 t493.length co11, .slice A0_3 l0_3.length c0_3, .slice A0_4 l0_4.length c0_4, .slice A0_5 l0_5.length c0_5, .bool a0_6, .bool a0_7]) ?_ 3 _ rfl; (with_reducible repeat (first | refine blk_drewN ?_ _ | refine blk_drew ?_ | refine blk_alloc ?_ _)); refine blk_put (cs := #[.bool t491, .bool t492, .slice A0_2 l0_2.length c0_2, .slice A0_3 l0_3.length c0_3, .slice A0_4 l0_4.length c0_4, .slice A0_5 l0_5.length c0_5, .bool a0_6, .bool a0_7]) ?_ 2 _ rfl; (with_reducible repeat (first | refine blk_drewN ?_ _ | refine blk_drew ?_ | refine blk_alloc ?_ _)); refine blk_put (cs := #[.bool t491, .bool a0_1, .slice A0_2 l0_2.length c0_2, .slice A0_3 l0_3.length c0_3, .slice A0_4 l0_4.length c0_4, .slice A0_5 l0_5.length c0_5, .bool a0_6, .bool a0_7]) ?_ 1 _ rfl; (with_reducible repeat (first | refine blk_drewN ?_ _ | refine blk_drew ?_ | refine blk_alloc ?_ _)); refine blk_put (cs := #[.bool a0_0, .bool a0_1, .slice A0_2 l0_2.length c0_2, .slice A0_3 l0_3.length c0_3, .slice A0_4 l0_4.length c0_4, .slice A0_5 l0_5.length c0_5, .bool a0_6, .bool a0_7]) ?_ 0 _ rfl; (with_reducible repeat (first | refine blk_drewN ?_ _ | refine blk_drew ?_ | refine blk_alloc ?_ _)); exact BK490.out) k_ hk_.2.1)⟩)) (below_size (by repeat (first | (with_reducible first | exact HB.out | apply below_alloc | apply pw_below_drewN | apply below_drew1 | refine below_set ?_ GE490.out) | exact HB.out)))); have n8_ := Aside0.mk (blk_below (g := gb490) (o := .cells #[.bool t491, .bool t492, .slice Ao11 t493.length co11, .slice Ao12 t496.length co12, .slice Ao13 t499.length co13, .slice Ao14 t502.length co14, .bool t505, .bool t506] 25 (0, 0)) (by (with_reducible repeat (first | refine blk_drewN ?_ _ | refine blk_drew ?_ | refine blk_alloc ?_ _)); refine blk_put (cs := #[.bool t491, .bool t492, .slice Ao11 t493.length co11, .slice Ao12 t496.length co12, .slice Ao13 t499.length co13, .slice Ao14 t502.length co14, .bool t505, .bool a0_7]) ?_ 7 _ rfl; (with_reducible repeat (first | refine blk_drewN ?_ _ | refine blk_drew ?_ | refine blk_alloc ?_ _)); refine blk_put (cs := #[.bool t491, .bool t492, .slice Ao11 t493.length co11, .slice Ao12 t496.length co12, .slice Ao13 t499.length co13, .slice Ao14 t502.length co14, .bool a0_6, .bool a0_7]) ?_ 6 _ rfl; (with_reducible repeat (first | refine blk_drewN ?_ _ | refine blk_drew ?_ | refine blk_alloc ?_ _)); refine blk_put (cs := #[.bool t491, .bool t492, .slice Ao11 t493.length co11, .slice Ao12 t496.length co12, .slice Ao13 t499.length co13, .slice A0_5 l0_5.length c0_5, .bool a0_6, .bool a0_7]) ?_ 5 _ rfl; (with_reducible repeat (first | refine blk_drewN ?_ _ | refine blk_drew ?_ | refine blk_alloc ?_ _)); refine blk_put (cs := #[.bool t491, .bool t492, .slice Ao11 t493.length co11, .slice Ao12 t496.length co12, .slice A0_4 l0_4.length c0_4, .slice A0_5 l0_5.length c0_5, .bool a0_6, .bool a0_7]) ?_ 4 _ rfl; (with_reducible repeat (first | refine blk_drewN ?_ _ | refine blk_drew ?_ | refine blk_alloc ?_ _)); refine blk_put (cs := #[.bool t491, .bool t492, .slice Ao11 t493.length co11, .slice A0_3 l0_3.length c0_3, .slice A0_4 l0_4.length c0_4, .slice A0_5 l0_5.length c0_5, .bool a0_6, .bool a0_7]) ?_ 3 _ rfl; (with_reducible repeat (first | refine blk_drewN ?_ _ | refine blk_drew ?_ | refine blk_alloc ?_ _)); refine blk_put (cs := #[.bool t491, .bool t492, .slice A0_2 l0_2.length c0_2, .slice A0_3 l0_3.length c0_3, .slice A0_4 l0_4.length c0_4, .slice A0_5 l0_5.length c0_5, .bool a0_6, .bool a0_7]) ?_ 2 _ rfl; (with_reducible repeat (first | refine blk_drewN ?_ _ | refine blk_drew ?_ | refine blk_alloc ?_ _)); refine blk_put (cs := #[.bool t491, .bool a0_1, .slice A0_2 l0_2.length c0_2, .slice A0_3 l0_3.length c0_3, .slice A0_4 l0_4.length c0_4, .slice A0_5 l0_5.length c0_5, .bool a0_6, .bool a0_7]) ?_ 1 _ rfl; (with_reducible repeat (first | refine blk_drewN ?_ _ | refine blk_drew ?_ | refine blk_alloc ?_ _)); refine blk_put (cs := #[.bool a0_0, .bool a0_1, .slice A0_2 l0_2.length c0_2, .slice A0_3 l0_3.length c0_3, .slice A0_4 l0_4.length c0_4, .slice A0_5 l0_5.length c0_5, .bool a0_6, .bool a0_7]) ?_ 0 _ rfl; (with_reducible repeat (first | refine blk_drewN ?_ _ | refine blk_drew ?_ | refine blk_alloc ?_ _)); exact BK490.out) hb); have n9_ := Aside0.mk (below_step (by repeat (first | (with_reducible first | exact HB.out | apply below_alloc | apply pw_below_drewN | apply below_drew1 | refine below_set ?_ GE490.out) | exact HB.out)) hb); clear HO495; clear HO498; clear HO501; clear HO504; clear BK490; clear HB; have HO495 := n0_; have HO498 := n1_; have HO501 := n2_; have HO504 := n3_; have HO511 := n4_; have HO514 := n5_; have HO517 := n6_; have HO520 := n7_; have BK490 := n8_; have HB := n9_; clear n0_ n1_ n2_ n3_ n4_ n5_ n6_ n7_ n8_ n9_; (try clear hb); (try clear hb2); (try clear hk); (try clear hi); (try clear ho0); (try clear ho1); (try clear ho2); (try clear ho3)) | ((with_reducible refine gate_dst (N := 7) rfl ?_); refine box_event ?hg (N := 7) ?hd (cs := #[.bool false, .bool false, .slice none 0 0, .slice none 0 0, .slice none 0 0, .slice none 0 0, .bool false, .bool false]) (t := 25) ?hr ?_; (case hd => rfl); (case hg => rfl); (case hr => first | (go_simp; done) | (go_simp; rfl)); intro gb523 hg w16 hbox hb; have n0_ := Aside0.mk (Kd.V_below (Kd.V_elderB (by (with_reducible repeat (first | apply Kd.V_alloc | apply Kd.V_drewN | apply Kd.V_drew)); exact HO495.out) gb523 (Nat.le_of_eq hg.symm)) hb); have n1_ := Aside0.mk (Kd.V_below (Kd.V_elderB (by (with_reducible repeat (first | apply Kd.V_alloc | apply Kd.V_drewN | apply Kd.V_drew)); exact HO498.out) gb523 (Nat.le_of_eq hg.symm)) hb); have n2_ := Aside0.mk (Kd.V_below (Kd.V_elderB (by (with_reducible repeat (first | apply Kd.V_alloc | apply Kd.V_drewN | apply Kd.V_drew)); exact HO501.out) gb523 (Nat.le_of_eq hg.symm)) hb); have n3_ := Aside0.mk (Kd.N_below (Kd.N_elderB (by (with_reducible repeat (first | apply Kd.N_alloc | apply Kd.N_drewN | apply Kd.N_drew)); exact HO504.out) gb523 (Nat.le_of_eq hg.symm)) hb); have n4_ := Aside0.mk (Kd.R_below (by (with_reducible repeat (first | apply Kd.R_alloc | apply Kd.R_drewN | apply Kd.R_drew)); exact HO511.out) hb); have n5_ := Aside0.mk (Kd.R_below (by (with_reducible repeat (first | apply Kd.R_alloc | apply Kd.R_drewN | apply Kd.R_drew)); exact HO514.out) hb); have n6_ := Aside0.mk (Kd.R_below (by (with_reducible repeat (first | apply Kd.R_alloc | apply Kd.R_drewN | apply Kd.R_drew)); exact HO517.out) hb); have n7_ := Aside0.mk (Kd.N_below (Kd.N_elderB (by (with_reducible repeat (first | apply Kd.N_alloc | apply Kd.N_drewN | apply Kd.N_drew)); exact HO520.out) gb523 (Nat.le_of_eq hg.symm)) hb); have n8_ := Aside0.mk (blk_below (g := gb490) (o := .cells #[.bool t491, .bool t492, .slice Ao11 t493.length co11, .slice Ao12 t496.length co12, .slice Ao13 t499.length co13, .slice Ao14 t502.length co14, .bool t505, .bool t506] 25 (0, 0)) (by (with_reducible repeat (first | refine blk_drewN ?_ _ | refine blk_drew ?_ | refine blk_alloc ?_ _)); exact BK490.out) hb); have n9_ := Aside0.mk (below_step (by repeat (first | (with_reducible first | exact HB.out | apply below_alloc | apply pw_below_drewN | apply below_drew1 | refine below_set ?_ GE490.out) | exact HB.out)) hb); have n10_ := Aside0.mk (hbox); have n11_ := Aside0.mk ((by rw [hg]; exact (below_size (by repeat (first | (with_reducible first | exact HB.out | apply below_alloc | apply pw_below_drewN | apply below_drew1 | refine below_set ?_ GE490.out) | exact HB.out))) : w.heap.size ≤ gb523)); have n12_ := Aside0.mk ((by rw [hg]; exact (below_size (by repeat (first | (with_reducible first | exact HB.out | apply below_alloc | apply pw_below_drewN | apply below_drew1 | refine below_set ?_ GE490.out) | exact HB.out))) : w.heap.size ≤ gb523)); have n13_ := Aside0.mk ((by rw [hg]; exact Nat.ne_of_lt (blk_lt (g := gb490) (o := .cells #[.bool t491, .bool t492, .slice Ao11 t493.length co11, .slice Ao12 t496.length co12, .slice Ao13 t499.length co13, .slice Ao14 t502.length co14, .bool t505, .bool t506] 25 (0, 0)) (by (with_reducible repeat (first | refine blk_drewN ?_ _ | refine blk_drew ?_ | refine blk_alloc ?_ _)); exact BK490.out)) : gb490 ≠ gb523)); have n14_ := Aside0.mk ((by rw [hg]; exact Nat.ne_of_gt (blk_lt (g := gb490) (o := .cells #[.bool t491, .bool t492, .slice Ao11 t493.length co11, .slice Ao12 t496.length co12, .slice Ao13 t499.length co13, .slice Ao14 t502.length co14, .bool t505, .bool t506] 25 (0, 0)) (by (with_reducible repeat (first | refine blk_drewN ?_ _ | refine blk_drew ?_ | refine blk_alloc ?_ _)); exact BK490.out)) : gb523 ≠ gb490)); clear HO495; clear HO498; clear HO501; clear HO504; clear HO511; clear HO514; clear HO517; clear HO520; clear BK490; clear HB; have HO495 := n0_; have HO498 := n1_; have HO501 := n2_; have HO504 := n3_; have HO511 := n4_; have HO514 := n5_; have HO517 := n6_; have HO520 := n7_; have BK490 := n8_; have HB := n9_; have BK523 := n10_; have GW523 := n11_; have GE523 := n12_; have NB490_523 := n13_; have NB523_490 := n14_; clear n0_ n1_ n2_ n3_ n4_ n5_ n6_ n7_ n8_ n9_ n10_ n11_ n12_ n13_ n14_; clear hb hbox hg; have hnb17 := NB523_490.out; have hnc17 := NB490_523.out; have hcz18_0 : w16.cell? ⟨gb523, 0, none⟩ = some (.bool false) := (blk_cell BK523.out 0).trans rfl; have hcz18_1 : w16.cell? ⟨gb523, 1, none⟩ = some (.bool false) := (blk_cell BK523.out 1).trans rfl; have hcz18_2 : w16.cell? ⟨gb523, 2, none⟩ = some (.slice none 0 0) := (blk_cell BK523.out 2).trans rfl; have hcz18_3 : w16.cell? ⟨gb523, 3, none⟩ = some (.slice none 0 0) := (blk_cell BK523.out 3).trans rfl; have hcz18_4 : w16.cell? ⟨gb523, 4, none⟩ = some (.slice none 0 0) := (blk_cell BK523.out 4).trans rfl; have hcz18_5 : w16.cell? ⟨gb523, 5, none⟩ = some (.slice none 0 0) := (blk_cell BK523.out 5).trans rfl; have hcz18_6 : w16.cell? ⟨gb523, 6, none⟩ = some (.bool false) := (blk_cell BK523.out 6).trans rfl; have hcz18_7 : w16.cell? ⟨gb523, 7, none⟩ = some (.bool false) := (blk_cell BK523.out 7).trans rfl; have hfz18_0 := blk_frozen BK523.out 0; have hfz18_1 := blk_frozen BK523.out 1; have hfz18_2 := blk_frozen BK523.out 2; have hfz18_3 := blk_frozen BK523.out 3; have hfz18_4 := blk_frozen BK523.out 4; have hfz18_5 := blk_frozen BK523.out 5; have hfz18_6 := blk_frozen BK523.out 6; have hfz18_7 := blk_frozen BK523.out 7; obtain ⟨Ao19, co19, eo19⟩ := Kd.R_slice HO511.out; subst eo19; obtain ⟨Ao20, co20, eo20⟩ := Kd.R_slice HO514.out; subst eo20; obtain ⟨Ao21, co21, eo21⟩ := Kd.R_slice HO517.out; subst eo21; obtain ⟨Ao22, co22, eo22⟩ := Kd.N_slice HO520.out; subst eo22))
  (try simp only [Act.put, List.setIfInBounds_toArray, List.set_cons_zero, List.set_cons_succ])
  go_cut [36] (fun v36 wc => ∃ (kq : Nat) (x36_5 : Bool), v36 = .bool x36_5 ∧ Aside0 (boltinglaw12_ConfigCanon.j0 kq x36_5 t491 t492 t493 t496 t499 t502 t505 t506 t507 t508 t509 t512 t515 t518 t521 t522 = some r) ∧ Aside0 (kq ≤ k) ∧ Aside0 (Kd.V Kd.string 9 wc w.heap.size (fun k_ => some k_ ≠ ((.slice Ao14 t502.length co14) : Value).ownBlock ∧ some k_ ≠ ((.slice Ao19 t509.length co19) : Value).ownBlock ∧ some k_ ≠ ((.slice Ao20 t512.length co20) : Value).ownBlock ∧ some k_ ≠ ((.slice Ao21 t515.length co21) : Value).ownBlock ∧ some k_ ≠ ((.slice Ao22 t518.length co22) : Value).ownBlock ∧ k_ ≠ gb490 ∧ k_ ≠ gb523) (.slice Ao11 t493.length co11) t493) ∧ Aside0 (Kd.V Kd.string 9 wc w.heap.size (fun k_ => some k_ ≠ ((.slice Ao14 t502.length co14) : Value).ownBlock ∧ some k_ ≠ ((.slice Ao19 t509.length co19) : Value).ownBlock ∧ some k_ ≠ ((.slice Ao20 t512.length co20) : Value).ownBlock ∧ some k_ ≠ ((.slice Ao21 t515.length co21) : Value).ownBlock ∧ some k_ ≠ ((.slice Ao22 t518.length co22) : Value).ownBlock ∧ k_ ≠ gb490 ∧ k_ ≠ gb523) (.slice Ao12 t496.length co12) t496) ∧ Aside0 (Kd.V Kd.string 9 wc w.heap.size (fun k_ => some k_ ≠ ((.slice Ao14 t502.length co14) : Value).ownBlock ∧ some k_ ≠ ((.slice Ao19 t509.length co19) : Value).ownBlock ∧ some k_ ≠ ((.slice Ao20 t512.length co20) : Value).ownBlock ∧ some k_ ≠ ((.slice Ao21 t515.length co21) : Value).ownBlock ∧ some k_ ≠ ((.slice Ao22 t518.length co22) : Value).ownBlock ∧ k_ ≠ gb490 ∧ k_ ≠ gb523) (.slice Ao13 t499.length co13) t499) ∧ Aside0 (Kd.N k35 35 wc w.heap.size (fun k_ => some k_ ≠ ((.slice Ao19 t509.length co19) : Value).ownBlock ∧ some k_ ≠ ((.slice Ao20 t512.length co20) : Value).ownBlock ∧ some k_ ≠ ((.slice Ao21 t515.length co21) : Value).ownBlock ∧ some k_ ≠ ((.slice Ao22 t518.length co22) : Value).ownBlock ∧ k_ ≠ gb490 ∧ k_ ≠ gb523) (.slice Ao14 t502.length co14) t502) ∧ Aside0 (Kd.R Kd.string 9 wc w.heap.size (fun k_ => some k_ ≠ ((.slice Ao20 t512.length co20) : Value).ownBlock ∧ some k_ ≠ ((.slice Ao21 t515.length co21) : Value).ownBlock) (.slice Ao19 t509.length co19) t509) ∧ Aside0 (Kd.R Kd.string 9 wc w.heap.size (fun k_ => some k_ ≠ ((.slice Ao19 t509.length co19) : Value).ownBlock ∧ some k_ ≠ ((.slice Ao21 t515.length co21) : Value).ownBlock) (.slice Ao20 t512.length co20) t512) ∧ Aside0 (Kd.R Kd.string 9 wc w.heap.size (fun k_ => some k_ ≠ ((.slice Ao19 t509.length co19) : Value).ownBlock ∧ some k_ ≠ ((.slice Ao20 t512.length co20) : Value).ownBlock) (.slice Ao21 t515.length co21) t515) ∧ Aside0 (Kd.N k35 35 wc w.heap.size (fun k_ => some k_ ≠ ((.slice Ao14 t502.length co14) : Value).ownBlock ∧ some k_ ≠ ((.slice Ao19 t509.length co19) : Value).ownBlock ∧ some k_ ≠ ((.slice Ao20 t512.length co20) : Value).ownBlock ∧ some k_ ≠ ((.slice Ao21 t515.length co21) : Value).ownBlock ∧ k_ ≠ gb490 ∧ k_ ≠ gb523) (.slice Ao22 t518.length co22) t518) ∧ Aside0 (wc.heap[gb490]? = some (.cells #[.bool t491, .bool t492, (.slice Ao11 t493.length co11), (.slice Ao12 t496.length co12), (.slice Ao13 t499.length co13), (.slice Ao14 t502.length co14), .bool t505, .bool t506] 25 (0, 0))) ∧ Aside0 (wc.heap[gb523]? = some (.cells #[.bool t507, .bool t508, (.slice Ao19 t509.length co19), (.slice Ao20 t512.length co20), (.slice Ao21 t515.length co21), (.slice Ao22 t518.length co22), .bool t521, .bool t522] 25 (0, 0))) ∧ Aside0 (Below w.heap.size w wc))
  case first =>
    have H := HC6.out
    clear HC6
    replace H := Option.bind_eq_some_iff.mp H
    obtain ⟨t524, A230, H⟩ := H
    have A23 := Aside0.mk A230
    clear A230
    replace H := Option.bind_eq_some_iff.mp H
    obtain ⟨t525, A240, H⟩ := H
    have A24 := Aside0.mk A240
    clear A240
    by_cases c25 : t524 = t525
    · rw [if_pos c25] at H
      have c25b0 : (t524 == t525) = true := beq_iff_eq.mpr c25
      have c25b1 : (t524 != t525) = false := bne_eq_false_iff_eq.mpr c25
      clear c25
      (first | rw [c25b0] | (simp only [i64_w, i32_w]; rw [c25b0]) | skip)
      replace H := Option.bind_eq_some_iff.mp H
      obtain ⟨t526, A260, H⟩ := H
      have A26 := Aside0.mk A260
      clear A260
      replace H := Option.bind_eq_some_iff.mp H
      obtain ⟨t527, A270, H⟩ := H
      have A27 := Aside0.mk A270
      clear A270
      by_cases c28 : (t526 != t527) = true
      · rw [if_pos c28] at H
        have c28b0 : (t526 != t527) = true := c28
        (try (have c28b1 : decide (t526 = t527) = false := by simpa using c28))
        (try (have c28b2 : (t526 == t527) = false := by simpa using c28))
        (try (have c28b3 : ¬ (t526 = t527) := by simpa using c28))
        clear c28
        have H' := Aside0.mk H
        clear H
        try go_wp2
        have n0_ : Aside0 (Kd.V Kd.string 9 ((((((((w16.setCell ⟨gb523, 0, none⟩ (.bool t507)).setCell ⟨gb523, 1, none⟩ (.bool t508)).setCell ⟨gb523, 2, none⟩ (.slice Ao19 t509.length co19)).setCell ⟨gb523, 3, none⟩ (.slice Ao20 t512.length co20)).setCell ⟨gb523, 4, none⟩ (.slice Ao21 t515.length co21)).setCell ⟨gb523, 5, none⟩ (.slice Ao22 t518.length co22)).setCell ⟨gb523, 6, none⟩ (.bool t521)).setCell ⟨gb523, 7, none⟩ (.bool t522)) w.heap.size (fun k_ => some k_ ≠ (.slice Ao14 t502.length co14 : Value).ownBlock ∧ some k_ ≠ (.slice Ao19 t509.length co19 : Value).ownBlock ∧ some k_ ≠ (.slice Ao20 t512.length co20 : Value).ownBlock ∧ some k_ ≠ (.slice Ao21 t515.length co21 : Value).ownBlock ∧ some k_ ≠ (.slice Ao22 t518.length co22 : Value).ownBlock ∧ k_ ≠ gb490 ∧ k_ ≠ gb523) (.slice Ao11 t493.length co11) t493) := ⟨by (with_reducible repeat (first | apply Kd.V_alloc | apply Kd.V_drewN | apply Kd.V_drew)); exact Kd.V_mono (Kd.V_far (p := ⟨gb523, 7, none⟩) (Kd.V_far (p := ⟨gb523, 6, none⟩) (Kd.V_far (p := ⟨gb523, 5, none⟩) (Kd.V_far (p := ⟨gb523, 4, none⟩) (Kd.V_far (p := ⟨gb523, 3, none⟩) (Kd.V_far (p := ⟨gb523, 2, none⟩) (Kd.V_far (p := ⟨gb523, 1, none⟩) (Kd.V_far (p := ⟨gb523, 0, none⟩) (Kd.V_mono HO495.out (fun k_ hk => (⟨hk, hk.2⟩ : _ ∧ k_ ≠ gb523))) (fun _ hk => hk.2) (.bool t507)) (fun _ hk => hk.2) (.bool t508)) (fun _ hk => hk.2) (.slice Ao19 t509.length co19)) (fun _ hk => hk.2) (.slice Ao20 t512.length co20)) (fun _ hk => hk.2) (.slice Ao21 t515.length co21)) (fun _ hk => hk.2) (.slice Ao22 t518.length co22)) (fun _ hk => hk.2) (.bool t521)) (fun _ hk => hk.2) (.bool t522)) (fun _ hk => ⟨hk.1.1.1.1.1.1.1, ⟨hk.1.1.1.1.1.2, ⟨hk.1.1.1.1.2, ⟨hk.1.1.1.2, ⟨hk.1.1.2, ⟨hk.1.1.1.1.1.1.2, hk.1.2⟩⟩⟩⟩⟩⟩)⟩
        have n1_ : Aside0 (Kd.V Kd.string 9 ((((((((w16.setCell ⟨gb523, 0, none⟩ (.bool t507)).setCell ⟨gb523, 1, none⟩ (.bool t508)).setCell ⟨gb523, 2, none⟩ (.slice Ao19 t509.length co19)).setCell ⟨gb523, 3, none⟩ (.slice Ao20 t512.length co20)).setCell ⟨gb523, 4, none⟩ (.slice Ao21 t515.length co21)).setCell ⟨gb523, 5, none⟩ (.slice Ao22 t518.length co22)).setCell ⟨gb523, 6, none⟩ (.bool t521)).setCell ⟨gb523, 7, none⟩ (.bool t522)) w.heap.size (fun k_ => some k_ ≠ (.slice Ao14 t502.length co14 : Value).ownBlock ∧ some k_ ≠ (.slice Ao19 t509.length co19 : Value).ownBlock ∧ some k_ ≠ (.slice Ao20 t512.length co20 : Value).ownBlock ∧ some k_ ≠ (.slice Ao21 t515.length co21 : Value).ownBlock ∧ some k_ ≠ (.slice Ao22 t518.length co22 : Value).ownBlock ∧ k_ ≠ gb490 ∧ k_ ≠ gb523) (.slice Ao12 t496.length co12) t496) := ⟨by (with_reducible repeat (first | apply Kd.V_alloc | apply Kd.V_drewN | apply Kd.V_drew)); exact Kd.V_mono (Kd.V_far (p := ⟨gb523, 7, none⟩) (Kd.V_far (p := ⟨gb523, 6, none⟩) (Kd.V_far (p := ⟨gb523, 5, none⟩) (Kd.V_far (p := ⟨gb523, 4, none⟩) (Kd.V_far (p := ⟨gb523, 3, none⟩) (Kd.V_far (p := ⟨gb523, 2, none⟩) (Kd.V_far (p := ⟨gb523, 1, none⟩) (Kd.V_far (p := ⟨gb523, 0, none⟩) (Kd.V_mono HO498.out (fun k_ hk => (⟨hk, hk.2⟩ : _ ∧ k_ ≠ gb523))) (fun _ hk => hk.2) (.bool t507)) (fun _ hk => hk.2) (.bool t508)) (fun _ hk => hk.2) (.slice Ao19 t509.length co19)) (fun _ hk => hk.2) (.slice Ao20 t512.length co20)) (fun _ hk => hk.2) (.slice Ao21 t515.length co21)) (fun _ hk => hk.2) (.slice Ao22 t518.length co22)) (fun _ hk => hk.2) (.bool t521)) (fun _ hk => hk.2) (.bool t522)) (fun _ hk => ⟨hk.1.1.1.1.1.1.1, ⟨hk.1.1.1.1.1.2, ⟨hk.1.1.1.1.2, ⟨hk.1.1.1.2, ⟨hk.1.1.2, ⟨hk.1.1.1.1.1.1.2, hk.1.2⟩⟩⟩⟩⟩⟩)⟩
        have n2_ : Aside0 (Kd.V Kd.string 9 ((((((((w16.setCell ⟨gb523, 0, none⟩ (.bool t507)).setCell ⟨gb523, 1, none⟩ (.bool t508)).setCell ⟨gb523, 2, none⟩ (.slice Ao19 t509.length co19)).setCell ⟨gb523, 3, none⟩ (.slice Ao20 t512.length co20)).setCell ⟨gb523, 4, none⟩ (.slice Ao21 t515.length co21)).setCell ⟨gb523, 5, none⟩ (.slice Ao22 t518.length co22)).setCell ⟨gb523, 6, none⟩ (.bool t521)).setCell ⟨gb523, 7, none⟩ (.bool t522)) w.heap.size (fun k_ => some k_ ≠ (.slice Ao14 t502.length co14 : Value).ownBlock ∧ some k_ ≠ (.slice Ao19 t509.length co19 : Value).ownBlock ∧ some k_ ≠ (.slice Ao20 t512.length co20 : Value).ownBlock ∧ some k_ ≠ (.slice Ao21 t515.length co21 : Value).ownBlock ∧ some k_ ≠ (.slice Ao22 t518.length co22 : Value).ownBlock ∧ k_ ≠ gb490 ∧ k_ ≠ gb523) (.slice Ao13 t499.length co13) t499) := ⟨by (with_reducible repeat (first | apply Kd.V_alloc | apply Kd.V_drewN | apply Kd.V_drew)); exact Kd.V_mono (Kd.V_far (p := ⟨gb523, 7, none⟩) (Kd.V_far (p := ⟨gb523, 6, none⟩) (Kd.V_far (p := ⟨gb523, 5, none⟩) (Kd.V_far (p := ⟨gb523, 4, none⟩) (Kd.V_far (p := ⟨gb523, 3, none⟩) (Kd.V_far (p := ⟨gb523, 2, none⟩) (Kd.V_far (p := ⟨gb523, 1, none⟩) (Kd.V_far (p := ⟨gb523, 0, none⟩) (Kd.V_mono HO501.out (fun k_ hk => (⟨hk, hk.2⟩ : _ ∧ k_ ≠ gb523))) (fun _ hk => hk.2) (.bool t507)) (fun _ hk => hk.2) (.bool t508)) (fun _ hk => hk.2) (.slice Ao19 t509.length co19)) (fun _ hk => hk.2) (.slice Ao20 t512.length co20)) (fun _ hk => hk.2) (.slice Ao21 t515.length co21)) (fun _ hk => hk.2) (.slice Ao22 t518.length co22)) (fun _ hk => hk.2) (.bool t521)) (fun _ hk => hk.2) (.bool t522)) (fun _ hk => ⟨hk.1.1.1.1.1.1.1, ⟨hk.1.1.1.1.1.2, ⟨hk.1.1.1.1.2, ⟨hk.1.1.1.2, ⟨hk.1.1.2, ⟨hk.1.1.1.1.1.1.2, hk.1.2⟩⟩⟩⟩⟩⟩)⟩
        have n3_ : Aside0 (Kd.N k35 35 ((((((((w16.setCell ⟨gb523, 0, none⟩ (.bool t507)).setCell ⟨gb523, 1, none⟩ (.bool t508)).setCell ⟨gb523, 2, none⟩ (.slice Ao19 t509.length co19)).setCell ⟨gb523, 3, none⟩ (.slice Ao20 t512.length co20)).setCell ⟨gb523, 4, none⟩ (.slice Ao21 t515.length co21)).setCell ⟨gb523, 5, none⟩ (.slice Ao22 t518.length co22)).setCell ⟨gb523, 6, none⟩ (.bool t521)).setCell ⟨gb523, 7, none⟩ (.bool t522)) w.heap.size (fun k_ => some k_ ≠ (.slice Ao19 t509.length co19 : Value).ownBlock ∧ some k_ ≠ (.slice Ao20 t512.length co20 : Value).ownBlock ∧ some k_ ≠ (.slice Ao21 t515.length co21 : Value).ownBlock ∧ some k_ ≠ (.slice Ao22 t518.length co22 : Value).ownBlock ∧ k_ ≠ gb490 ∧ k_ ≠ gb523) (.slice Ao14 t502.length co14) t502) := ⟨by (with_reducible repeat (first | apply Kd.N_alloc | apply Kd.N_drewN | apply Kd.N_drew)); exact Kd.N_mono (Kd.N_far (p := ⟨gb523, 7, none⟩) (Kd.N_far (p := ⟨gb523, 6, none⟩) (Kd.N_far (p := ⟨gb523, 5, none⟩) (Kd.N_far (p := ⟨gb523, 4, none⟩) (Kd.N_far (p := ⟨gb523, 3, none⟩) (Kd.N_far (p := ⟨gb523, 2, none⟩) (Kd.N_far (p := ⟨gb523, 1, none⟩) (Kd.N_far (p := ⟨gb523, 0, none⟩) (Kd.N_mono HO504.out (fun k_ hk => (⟨hk, hk.2⟩ : _ ∧ k_ ≠ gb523))) (fun _ hk => hk.2) (.bool t507)) (fun _ hk => hk.2) (.bool t508)) (fun _ hk => hk.2) (.slice Ao19 t509.length co19)) (fun _ hk => hk.2) (.slice Ao20 t512.length co20)) (fun _ hk => hk.2) (.slice Ao21 t515.length co21)) (fun _ hk => hk.2) (.slice Ao22 t518.length co22)) (fun _ hk => hk.2) (.bool t521)) (fun _ hk => hk.2) (.bool t522)) (fun _ hk => ⟨hk.1.1.1.1.1.2, ⟨hk.1.1.1.1.2, ⟨hk.1.1.1.2, ⟨hk.1.1.2, ⟨hk.1.1.1.1.1.1, hk.1.2⟩⟩⟩⟩⟩)⟩
        have n4_ : Aside0 (Kd.R Kd.string 9 ((((((((w16.setCell ⟨gb523, 0, none⟩ (.bool t507)).setCell ⟨gb523, 1, none⟩ (.bool t508)).setCell ⟨gb523, 2, none⟩ (.slice Ao19 t509.length co19)).setCell ⟨gb523, 3, none⟩ (.slice Ao20 t512.length co20)).setCell ⟨gb523, 4, none⟩ (.slice Ao21 t515.length co21)).setCell ⟨gb523, 5, none⟩ (.slice Ao22 t518.length co22)).setCell ⟨gb523, 6, none⟩ (.bool t521)).setCell ⟨gb523, 7, none⟩ (.bool t522)) w.heap.size (fun k_ => some k_ ≠ (.slice Ao20 t512.length co20 : Value).ownBlock ∧ some k_ ≠ (.slice Ao21 t515.length co21 : Value).ownBlock) (.slice Ao19 t509.length co19) t509) := ⟨by (with_reducible repeat (first | apply Kd.R_alloc | apply Kd.R_drewN | apply Kd.R_drew)); exact Kd.R_mono (Kd.R_far (p := ⟨gb523, 7, none⟩) (Kd.R_far (p := ⟨gb523, 6, none⟩) (Kd.R_far (p := ⟨gb523, 5, none⟩) (Kd.R_far (p := ⟨gb523, 4, none⟩) (Kd.R_far (p := ⟨gb523, 3, none⟩) (Kd.R_far (p := ⟨gb523, 2, none⟩) (Kd.R_far (p := ⟨gb523, 1, none⟩) (Kd.R_far (p := ⟨gb523, 0, none⟩) (Kd.R_types HO511.out BK523.out (by decide)) (fun _ hk => hk.2) (.bool t507)) (fun _ hk => hk.2) (.bool t508)) (fun _ hk => hk.2) (.slice Ao19 t509.length co19)) (fun _ hk => hk.2) (.slice Ao20 t512.length co20)) (fun _ hk => hk.2) (.slice Ao21 t515.length co21)) (fun _ hk => hk.2) (.slice Ao22 t518.length co22)) (fun _ hk => hk.2) (.bool t521)) (fun _ hk => hk.2) (.bool t522)) (fun _ hk => ⟨hk.1.1, hk.1.2⟩)⟩
        have n5_ : Aside0 (Kd.R Kd.string 9 ((((((((w16.setCell ⟨gb523, 0, none⟩ (.bool t507)).setCell ⟨gb523, 1, none⟩ (.bool t508)).setCell ⟨gb523, 2, none⟩ (.slice Ao19 t509.length co19)).setCell ⟨gb523, 3, none⟩ (.slice Ao20 t512.length co20)).setCell ⟨gb523, 4, none⟩ (.slice Ao21 t515.length co21)).setCell ⟨gb523, 5, none⟩ (.slice Ao22 t518.length co22)).setCell ⟨gb523, 6, none⟩ (.bool t521)).setCell ⟨gb523, 7, none⟩ (.bool t522)) w.heap.size (fun k_ => some k_ ≠ (.slice Ao19 t509.length co19 : Value).ownBlock ∧ some k_ ≠ (.slice Ao21 t515.length co21 : Value).ownBlock) (.slice Ao20 t512.length co20) t512) := ⟨by (with_reducible repeat (first | apply Kd.R_alloc | apply Kd.R_drewN | apply Kd.R_drew)); exact Kd.R_mono (Kd.R_far (p := ⟨gb523, 7, none⟩) (Kd.R_far (p := ⟨gb523, 6, none⟩) (Kd.R_far (p := ⟨gb523, 5, none⟩) (Kd.R_far (p := ⟨gb523, 4, none⟩) (Kd.R_far (p := ⟨gb523, 3, none⟩) (Kd.R_far (p := ⟨gb523, 2, none⟩) (Kd.R_far (p := ⟨gb523, 1, none⟩) (Kd.R_far (p := ⟨gb523, 0, none⟩) (Kd.R_types HO514.out BK523.out (by decide)) (fun _ hk => hk.2) (.bool t507)) (fun _ hk => hk.2) (.bool t508)) (fun _ hk => hk.2) (.slice Ao19 t509.length co19)) (fun _ hk => hk.2) (.slice Ao20 t512.length co20)) (fun _ hk => hk.2) (.slice Ao21 t515.length co21)) (fun _ hk => hk.2) (.slice Ao22 t518.length co22)) (fun _ hk => hk.2) (.bool t521)) (fun _ hk => hk.2) (.bool t522)) (fun _ hk => ⟨hk.1.1, hk.1.2⟩)⟩
        have n6_ : Aside0 (Kd.R Kd.string 9 ((((((((w16.setCell ⟨gb523, 0, none⟩ (.bool t507)).setCell ⟨gb523, 1, none⟩ (.bool t508)).setCell ⟨gb523, 2, none⟩ (.slice Ao19 t509.length co19)).setCell ⟨gb523, 3, none⟩ (.slice Ao20 t512.length co20)).setCell ⟨gb523, 4, none⟩ (.slice Ao21 t515.length co21)).setCell ⟨gb523, 5, none⟩ (.slice Ao22 t518.length co22)).setCell ⟨gb523, 6, none⟩ (.bool t521)).setCell ⟨gb523, 7, none⟩ (.bool t522)) w.heap.size (fun k_ => some k_ ≠ (.slice Ao19 t509.length co19 : Value).ownBlock ∧ some k_ ≠ (.slice Ao20 t512.length co20 : Value).ownBlock) (.slice Ao21 t515.length co21) t515) := ⟨by (with_reducible repeat (first | apply Kd.R_alloc | apply Kd.R_drewN | apply Kd.R_drew)); exact Kd.R_mono (Kd.R_far (p := ⟨gb523, 7, none⟩) (Kd.R_far (p := ⟨gb523, 6, none⟩) (Kd.R_far (p := ⟨gb523, 5, none⟩) (Kd.R_far (p := ⟨gb523, 4, none⟩) (Kd.R_far (p := ⟨gb523, 3, none⟩) (Kd.R_far (p := ⟨gb523, 2, none⟩) (Kd.R_far (p := ⟨gb523, 1, none⟩) (Kd.R_far (p := ⟨gb523, 0, none⟩) (Kd.R_types HO517.out BK523.out (by decide)) (fun _ hk => hk.2) (.bool t507)) (fun _ hk => hk.2) (.bool t508)) (fun _ hk => hk.2) (.slice Ao19 t509.length co19)) (fun _ hk => hk.2) (.slice Ao20 t512.length co20)) (fun _ hk => hk.2) (.slice Ao21 t515.length co21)) (fun _ hk => hk.2) (.slice Ao22 t518.length co22)) (fun _ hk => hk.2) (.bool t521)) (fun _ hk => hk.2) (.bool t522)) (fun _ hk => ⟨hk.1.1, hk.1.2⟩)⟩
        have n7_ : Aside0 (Kd.N k35 35 ((((((((w16.setCell ⟨gb523, 0, none⟩ (.bool t507)).setCell ⟨gb523, 1, none⟩ (.bool t508)).setCell ⟨gb523, 2, none⟩ (.slice Ao19 t509.length co19)).setCell ⟨gb523, 3, none⟩ (.slice Ao20 t512.length co20)).setCell ⟨gb523, 4, none⟩ (.slice Ao21 t515.length co21)).setCell ⟨gb523, 5, none⟩ (.slice Ao22 t518.length co22)).setCell ⟨gb523, 6, none⟩ (.bool t521)).setCell ⟨gb523, 7, none⟩ (.bool t522)) w.heap.size (fun k_ => some k_ ≠ (.slice Ao14 t502.length co14 : Value).ownBlock ∧ some k_ ≠ (.slice Ao19 t509.length co19 : Value).ownBlock ∧ some k_ ≠ (.slice Ao20 t512.length co20 : Value).ownBlock ∧ some k_ ≠ (.slice Ao21 t515.length co21 : Value).ownBlock ∧ k_ ≠ gb490 ∧ k_ ≠ gb523) (.slice Ao22 t518.length co22) t518) := ⟨by (with_reducible repeat (first | apply Kd.N_alloc | apply Kd.N_drewN | apply Kd.N_drew)); exact Kd.N_mono (Kd.N_far (p := ⟨gb523, 7, none⟩) (Kd.N_far (p := ⟨gb523, 6, none⟩) (Kd.N_far (p := ⟨gb523, 5, none⟩) (Kd.N_far (p := ⟨gb523, 4, none⟩) (Kd.N_far (p := ⟨gb523, 3, none⟩) (Kd.N_far (p := ⟨gb523, 2, none⟩) (Kd.N_far (p := ⟨gb523, 1, none⟩) (Kd.N_far (p := ⟨gb523, 0, none⟩) (Kd.N_mono HO520.out (fun k_ hk => (⟨hk, hk.2⟩ : _ ∧ k_ ≠ gb523))) (fun _ hk => hk.2) (.bool t507)) (fun _ hk => hk.2) (.bool t508)) (fun _ hk => hk.2) (.slice Ao19 t509.length co19)) (fun _ hk => hk.2) (.slice Ao20 t512.length co20)) (fun _ hk => hk.2) (.slice Ao21 t515.length co21)) (fun _ hk => hk.2) (.slice Ao22 t518.length co22)) (fun _ hk => hk.2) (.bool t521)) (fun _ hk => hk.2) (.bool t522)) (fun _ hk => ⟨hk.1.1.2.2.2.1, ⟨hk.1.1.1, ⟨hk.1.1.2.1, ⟨hk.1.1.2.2.1, ⟨hk.1.1.2.2.2.2, hk.1.2⟩⟩⟩⟩⟩)⟩
        have n8_ : Aside0 (((((((((w16.setCell ⟨gb523, 0, none⟩ (.bool t507)).setCell ⟨gb523, 1, none⟩ (.bool t508)).setCell ⟨gb523, 2, none⟩ (.slice Ao19 t509.length co19)).setCell ⟨gb523, 3, none⟩ (.slice Ao20 t512.length co20)).setCell ⟨gb523, 4, none⟩ (.slice Ao21 t515.length co21)).setCell ⟨gb523, 5, none⟩ (.slice Ao22 t518.length co22)).setCell ⟨gb523, 6, none⟩ (.bool t521)).setCell ⟨gb523, 7, none⟩ (.bool t522)).heap[gb490]? = some (.cells #[.bool t491, .bool t492, .slice Ao11 t493.length co11, .slice Ao12 t496.length co12, .slice Ao13 t499.length co13, .slice Ao14 t502.length co14, .bool t505, .bool t506] 25 (0, 0))) := ⟨by (with_reducible repeat (first | refine blk_drewN ?_ _ | refine blk_drew ?_ | refine blk_alloc ?_ _)); refine blk_far ?_ NB490_523.out _; (with_reducible repeat (first | refine blk_drewN ?_ _ | refine blk_drew ?_ | refine blk_alloc ?_ _)); refine blk_far ?_ NB490_523.out _; (with_reducible repeat (first | refine blk_drewN ?_ _ | refine blk_drew ?_ | refine blk_alloc ?_ _)); refine blk_far ?_ NB490_523.out _; (with_reducible repeat (first | refine blk_drewN ?_ _ | refine blk_drew ?_ | refine blk_alloc ?_ _)); refine blk_far ?_ NB490_523.out _; (with_reducible repeat (first | refine blk_drewN ?_ _ | refine blk_drew ?_ | refine blk_alloc ?_ _)); refine blk_far ?_ NB490_523.out _; (with_reducible repeat (first | refine blk_drewN ?_ _ | refine blk_drew ?_ | refine blk_alloc ?_ _)); refine blk_far ?_ NB490_523.out _; (with_reducible repeat (first | refine blk_drewN ?_ _ | refine blk_drew ?_ | refine blk_alloc ?_ _)); refine blk_far ?_ NB490_523.out _; (with_reducible repeat (first | refine blk_drewN ?_ _ | refine blk_drew ?_ | refine blk_alloc ?_ _)); refine blk_far ?_ NB490_523.out _; (with_reducible repeat (first | refine blk_drewN ?_ _ | refine blk_drew ?_ | refine blk_alloc ?_ _)); exact BK490.out⟩
        have n9_ : Aside0 (((((((((w16.setCell ⟨gb523, 0, none⟩ (.bool t507)).setCell ⟨gb523, 1, none⟩ (.bool t508)).setCell ⟨gb523, 2, none⟩ (.slice Ao19 t509.length co19)).setCell ⟨gb523, 3, none⟩ (.slice Ao20 t512.length co20)).setCell ⟨gb523, 4, none⟩ (.slice Ao21 t515.length co21)).setCell ⟨gb523, 5, none⟩ (.slice Ao22 t518.length co22)).setCell ⟨gb523, 6, none⟩ (.bool t521)).setCell ⟨gb523, 7, none⟩ (.bool t522)).heap[gb523]? = some (.cells #[.bool t507, .bool t508, .slice Ao19 t509.length co19, .slice Ao20 t512.length co20, .slice Ao21 t515.length co21, .slice Ao22 t518.length co22, .bool t521, .bool t522] 25 (0, 0))) := ⟨by (with_reducible repeat (first | refine blk_drewN ?_ _ | refine blk_drew ?_ | refine blk_alloc ?_ _)); refine blk_put (cs := #[.bool t507, .bool t508, .slice Ao19 t509.length co19, .slice Ao20 t512.length co20, .slice Ao21 t515.length co21, .slice Ao22 t518.length co22, .bool t521, .bool false]) ?_ 7 _ rfl; (with_reducible repeat (first | refine blk_drewN ?_ _ | refine blk_drew ?_ | refine blk_alloc ?_ _)); refine blk_put (cs := #[.bool t507, .bool t508, .slice Ao19 t509.length co19, .slice Ao20 t512.length co20, .slice Ao21 t515.length co21, .slice Ao22 t518.length co22, .bool false, .bool false]) ?_ 6 _ rfl; (with_reducible repeat (first | refine blk_drewN ?_ _ | refine blk_drew ?_ | refine blk_alloc ?_ _)); refine blk_put (cs := #[.bool t507, .bool t508, .slice Ao19 t509.length co19, .slice Ao20 t512.length co20, .slice Ao21 t515.length co21, .slice none 0 0, .bool false, .bool false]) ?_ 5 _ rfl; (with_reducible repeat (first | refine blk_drewN ?_ _ | refine blk_drew ?_ | refine blk_alloc ?_ _)); refine blk_put (cs := #[.bool t507, .bool t508, .slice Ao19 t509.length co19, .slice Ao20 t512.length co20, .slice none 0 0, .slice none 0 0, .bool false, .bool false]) ?_ 4 _ rfl; (with_reducible repeat (first | refine blk_drewN ?_ _ | refine blk_drew ?_ | refine blk_alloc ?_ _)); refine blk_put (cs := #[.bool t507, .bool t508, .slice Ao19 t509.length co19, .slice none 0 0, .slice none 0 0, .slice none 0 0, .bool false, .bool false]) ?_ 3 _ rfl; (with_reducible repeat (first | refine blk_drewN ?_ _ | refine blk_drew ?_ | refine blk_alloc ?_ _)); refine blk_put (cs := #[.bool t507, .bool t508, .slice none 0 0, .slice none 0 0, .slice none 0 0, .slice none 0 0, .bool false, .bool false]) ?_ 2 _ rfl; (with_reducible repeat (first | refine blk_drewN ?_ _ | refine blk_drew ?_ | refine blk_alloc ?_ _)); refine blk_put (cs := #[.bool t507, .bool false, .slice none 0 0, .slice none 0 0, .slice none 0 0, .slice none 0 0, .bool false, .bool false]) ?_ 1 _ rfl; (with_reducible repeat (first | refine blk_drewN ?_ _ | refine blk_drew ?_ | refine blk_alloc ?_ _)); refine blk_put (cs := #[.bool false, .bool false, .slice none 0 0, .slice none 0 0, .slice none 0 0, .slice none 0 0, .bool false, .bool false]) ?_ 0 _ rfl; (with_reducible repeat (first | refine blk_drewN ?_ _ | refine blk_drew ?_ | refine blk_alloc ?_ _)); exact BK523.out⟩
        have n10_ : Aside0 (Below w.heap.size w ((((((((w16.setCell ⟨gb523, 0, none⟩ (.bool t507)).setCell ⟨gb523, 1, none⟩ (.bool t508)).setCell ⟨gb523, 2, none⟩ (.slice Ao19 t509.length co19)).setCell ⟨gb523, 3, none⟩ (.slice Ao20 t512.length co20)).setCell ⟨gb523, 4, none⟩ (.slice Ao21 t515.length co21)).setCell ⟨gb523, 5, none⟩ (.slice Ao22 t518.length co22)).setCell ⟨gb523, 6, none⟩ (.bool t521)).setCell ⟨gb523, 7, none⟩ (.bool t522))) := ⟨by repeat (first | (with_reducible first | exact HB.out | apply below_alloc | apply pw_below_drewN | apply below_drew1 | refine below_set ?_ GE490.out | refine below_set ?_ GE523.out) | exact HB.out)⟩
        (try clear HO495)
        (try clear HO498)
        (try clear HO501)
        (try clear HO504)
        (try clear HO511)
        (try clear HO514)
        (try clear HO517)
        (try clear HO520)
        (try clear BK490)
        (try clear BK523)
        (try clear HB)
        generalize ((((((((w16.setCell ⟨gb523, 0, none⟩ (.bool t507)).setCell ⟨gb523, 1, none⟩ (.bool t508)).setCell ⟨gb523, 2, none⟩ (.slice Ao19 t509.length co19)).setCell ⟨gb523, 3, none⟩ (.slice Ao20 t512.length co20)).setCell ⟨gb523, 4, none⟩ (.slice Ao21 t515.length co21)).setCell ⟨gb523, 5, none⟩ (.slice Ao22 t518.length co22)).setCell ⟨gb523, 6, none⟩ (.bool t521)).setCell ⟨gb523, 7, none⟩ (.bool t522)) = w29 at n0_ n1_ n2_ n3_ n4_ n5_ n6_ n7_ n8_ n9_ n10_ ⊢
        have HO495 := n0_
        have HO498 := n1_
        have HO501 := n2_
        have HO504 := n3_
        have HO511 := n4_
        have HO514 := n5_
        have HO517 := n6_
        have HO520 := n7_
        have BK490 := n8_
        have BK523 := n9_
        have HB := n10_
        clear n0_ n1_ n2_ n3_ n4_ n5_ n6_ n7_ n8_ n9_ n10_
        have n0_ := Aside0.mk (Kd.V_drew HO495.out)
        have n1_ := Aside0.mk (Kd.V_drew HO498.out)
        have n2_ := Aside0.mk (Kd.V_drew HO501.out)
        have n3_ := Aside0.mk (Kd.N_drew HO504.out)
        have n4_ := Aside0.mk (Kd.R_drew HO511.out)
        have n5_ := Aside0.mk (Kd.R_drew HO514.out)
        have n6_ := Aside0.mk (Kd.R_drew HO517.out)
        have n7_ := Aside0.mk (Kd.N_drew HO520.out)
        have n8_ := Aside0.mk (blk_drew BK490.out)
        have n9_ := Aside0.mk (blk_drew BK523.out)
        have n10_ := Aside0.mk (below_drew1 HB.out)
        clear HO495
        clear HO498
        clear HO501
        clear HO504
        clear HO511
        clear HO514
        clear HO517
        clear HO520
        clear BK490
        clear BK523
        clear HB
        have HO495 := n0_
        have HO498 := n1_
        have HO501 := n2_
        have HO504 := n3_
        have HO511 := n4_
        have HO514 := n5_
        have HO517 := n6_
        have HO520 := n7_
        have BK490 := n8_
        have BK523 := n9_
        have HB := n10_
        clear n0_ n1_ n2_ n3_ n4_ n5_ n6_ n7_ n8_ n9_ n10_
        refine start_ (n := 25) (S := fun w' => w'.cell? ⟨gb490, 0, none⟩ = some (.bool t491) ∧ w'.cell? ⟨gb490, 1, none⟩ = some (.bool t492) ∧ w'.cell? ⟨gb490, 2, none⟩ = some (.slice Ao11 t493.length co11) ∧ w'.cell? ⟨gb490, 3, none⟩ = some (.slice Ao12 t496.length co12) ∧ w'.cell? ⟨gb490, 4, none⟩ = some (.slice Ao13 t499.length co13) ∧ w'.cell? ⟨gb490, 5, none⟩ = some (.slice Ao14 t502.length co14) ∧ w'.cell? ⟨gb490, 6, none⟩ = some (.bool t505) ∧ w'.cell? ⟨gb490, 7, none⟩ = some (.bool t506) ∧ w'.cell? ⟨gb523, 0, none⟩ = some (.bool t507) ∧ w'.cell? ⟨gb523, 1, none⟩ = some (.bool t508) ∧ w'.cell? ⟨gb523, 2, none⟩ = some (.slice Ao19 t509.length co19) ∧ w'.cell? ⟨gb523, 3, none⟩ = some (.slice Ao20 t512.length co20) ∧ w'.cell? ⟨gb523, 4, none⟩ = some (.slice Ao21 t515.length co21) ∧ w'.cell? ⟨gb523, 5, none⟩ = some (.slice Ao22 t518.length co22) ∧ w'.cell? ⟨gb523, 6, none⟩ = some (.bool t521) ∧ w'.cell? ⟨gb523, 7, none⟩ = some (.bool t522)) (ds := []) #[false, false, false, false, false, false, false, false, false, false, false, false, false, false, false, false, false, false, false, false, false, false, false, false, false] (by kernel_rfl) rfl rfl ⟨(blk_cell BK490.out 0).trans rfl, (blk_cell BK490.out 1).trans rfl, (blk_cell BK490.out 2).trans rfl, (blk_cell BK490.out 3).trans rfl, (blk_cell BK490.out 4).trans rfl, (blk_cell BK490.out 5).trans rfl, (blk_cell BK490.out 6).trans rfl, (blk_cell BK490.out 7).trans rfl, (blk_cell BK523.out 0).trans rfl, (blk_cell BK523.out 1).trans rfl, (blk_cell BK523.out 2).trans rfl, (blk_cell BK523.out 3).trans rfl, (blk_cell BK523.out 4).trans rfl, (blk_cell BK523.out 5).trans rfl, (blk_cell BK523.out 6).trans rfl, (blk_cell BK523.out 7).trans rfl⟩ (fun hHeld => ?_); refine with_tabW boltinglaw12_ConfigCanon.tab3 boltinglaw12_ConfigCanon.bits3 (fun HT_ HW_ => ?_)
        generalize w29.drew = w30 at HO495 HO498 HO501 HO504 HO511 HO514 HO517 HO520 BK490 BK523 HB hHeld ⊢
        refine pure_ (i := 1) (N := some 13) (v := ?_) (a' := ?_) #[false, true, false, false, false, false, false, false, false, false, false, false, false, false, false, false, false, false, false, false, false, false, false, false, false] rfl rfl (any_of HT_.out (by kernel_rfl)) (fun _ _ _ h => h) (Or.inl ⟨by rfl, ?_⟩) ?_ ?_
        rotate_left
        · intro w'
          go_simp
          with_reducible rfl
        rotate_left
        · simp only [Act.put, List.setIfInBounds_toArray, List.set_cons_zero, List.set_cons_succ, i64_w, i32_w]
          rfl
        refine pure_ (i := 4) (N := some 16) (v := ?_) (a' := ?_) #[false, true, false, false, true, false, false, false, false, false, false, false, false, false, false, false, false, false, false, false, false, false, false, false, false] rfl rfl (any_of HT_.out (by kernel_rfl)) (fun _ _ _ h => h) (Or.inl ⟨by rfl, ?_⟩) ?_ ?_
        rotate_left
        · intro w'
          go_simp
          with_reducible rfl
        rotate_left
        · simp only [Act.put, List.setIfInBounds_toArray, List.set_cons_zero, List.set_cons_succ, i64_w, i32_w]
          rfl
        refine take_ (i := 0) (N := some 12) (v := ?_) (a' := ?_) #[true, true, false, false, true, false, false, false, false, false, false, false, false, false, false, false, false, false, false, false, false, false, false, false, false] rfl rfl (take_ofW HT_.out HW_.out (by kernel_rfl)) (fun _ _ _ h => h) (Or.inl ⟨by rfl, ?_⟩) hHeld ?_ ?_
        rotate_left
        · rintro w' ⟨s0, s1, s2, s3, s4, s5, s6, s7, s8, s9, s10, s11, s12, s13, s14, s15⟩
          go_simp
          with_reducible rfl
        rotate_left
        · simp only [Act.put, List.setIfInBounds_toArray, List.set_cons_zero, List.set_cons_succ, i64_w, i32_w]
          rfl
        refine take_ (i := 3) (N := some 15) (v := ?_) (a' := ?_) #[true, true, false, true, true, false, false, false, false, false, false, false, false, false, false, false, false, false, false, false, false, false, false, false, false] rfl rfl (take_ofW HT_.out HW_.out (by kernel_rfl)) (fun _ _ _ h => h) (Or.inl ⟨by rfl, ?_⟩) hHeld ?_ ?_
        rotate_left
        · rintro w' ⟨s0, s1, s2, s3, s4, s5, s6, s7, s8, s9, s10, s11, s12, s13, s14, s15⟩
          go_simp
          with_reducible rfl
        rotate_left
        · simp only [Act.put, List.setIfInBounds_toArray, List.set_cons_zero, List.set_cons_succ, i64_w, i32_w]
          rfl
        refine one_ (i := 2) (N := some 14) #[true, true, true, true, true, false, false, false, false, false, false, false, false, false, false, false, false, false, false, false, false, false, false, false, false] rfl rfl (one_of HT_.out (by kernel_rfl)) (by decide) (fun K hK => ?_)
        refine goes_ Try.func13 (by kernel_rfl) rfl #[.agg #[.bool t491, .bool t492, .slice Ao11 t493.length co11, .slice Ao12 t496.length co12, .slice Ao13 t499.length co13, .slice Ao14 t502.length co14, .bool t505, .bool t506], .string a1] (by rfl) rfl rfl (by (try simp only [List.map_toArray, List.map_cons, List.map_nil]); first | done | rfl | (simp only [List.length_drop, List.length_take]; rfl)) ?_
        with_reducible refine (config_Element.calls k t491 t492 _ _ t493 _ _ t496 _ _ t499 _ _ t502 t505 t506 a1 t524 _ ?side1 ?side2 ?side3 ?side4 ?side5 ?side6 ?side7 ?side8 A23.out).mono ?_
        (case side1 => repeat (first | exact (Kd.V_reads' HO495.out).2.2 | (with_reducible refine Kd.C_alloc ?_ _) | (with_reducible refine Kd.C_drewN ?_ _) | (with_reducible refine Kd.C_drew ?_)))
        (case side2 => exact (Kd.V_reads' HO495.out).2.1)
        (case side3 => repeat (first | exact (Kd.V_reads' HO498.out).2.2 | (with_reducible refine Kd.C_alloc ?_ _) | (with_reducible refine Kd.C_drewN ?_ _) | (with_reducible refine Kd.C_drew ?_)))
        (case side4 => exact (Kd.V_reads' HO498.out).2.1)
        (case side5 => repeat (first | exact (Kd.V_reads' HO501.out).2.2 | (with_reducible refine Kd.C_alloc ?_ _) | (with_reducible refine Kd.C_drewN ?_ _) | (with_reducible refine Kd.C_drew ?_)))
        (case side6 => exact (Kd.V_reads' HO501.out).2.1)
        (case side7 => repeat (first | exact (Kd.N_reads' HO504.out).2.2 | (with_reducible refine Kd.C_alloc ?_ _) | (with_reducible refine Kd.C_drewN ?_ _) | (with_reducible refine Kd.C_drew ?_)))
        (case side8 => exact (Kd.N_reads' HO504.out).2.1)
        rintro e w31 ⟨rfl, hb⟩
        refine ⟨_, rfl, ?_⟩
        have n0_ := Aside0.mk (Kd.V_below (by (with_reducible repeat (first | apply Kd.V_alloc | apply Kd.V_drewN | apply Kd.V_drew)); exact HO495.out) hb)
        have n1_ := Aside0.mk (Kd.V_below (by (with_reducible repeat (first | apply Kd.V_alloc | apply Kd.V_drewN | apply Kd.V_drew)); exact HO498.out) hb)
        have n2_ := Aside0.mk (Kd.V_below (by (with_reducible repeat (first | apply Kd.V_alloc | apply Kd.V_drewN | apply Kd.V_drew)); exact HO501.out) hb)
        have n3_ := Aside0.mk (Kd.N_below (by (with_reducible repeat (first | apply Kd.N_alloc | apply Kd.N_drewN | apply Kd.N_drew)); exact HO504.out) hb)
        have n4_ := Aside0.mk (Kd.R_below (by (with_reducible repeat (first | apply Kd.R_alloc | apply Kd.R_drewN | apply Kd.R_drew)); exact HO511.out) hb)
        have n5_ := Aside0.mk (Kd.R_below (by (with_reducible repeat (first | apply Kd.R_alloc | apply Kd.R_drewN | apply Kd.R_drew)); exact HO514.out) hb)
        have n6_ := Aside0.mk (Kd.R_below (by (with_reducible repeat (first | apply Kd.R_alloc | apply Kd.R_drewN | apply Kd.R_drew)); exact HO517.out) hb)
        have n7_ := Aside0.mk (Kd.N_below (by (with_reducible repeat (first | apply Kd.N_alloc | apply Kd.N_drewN | apply Kd.N_drew)); exact HO520.out) hb)
        have n8_ := Aside0.mk (blk_below (g := gb490) (o := .cells #[.bool t491, .bool t492, .slice Ao11 t493.length co11, .slice Ao12 t496.length co12, .slice Ao13 t499.length co13, .slice Ao14 t502.length co14, .bool t505, .bool t506] 25 (0, 0)) (by (with_reducible repeat (first | refine blk_drewN ?_ _ | refine blk_drew ?_ | refine blk_alloc ?_ _)); exact BK490.out) hb)
        have n9_ := Aside0.mk (blk_below (g := gb523) (o := .cells #[.bool t507, .bool t508, .slice Ao19 t509.length co19, .slice Ao20 t512.length co20, .slice Ao21 t515.length co21, .slice Ao22 t518.length co22, .bool t521, .bool t522] 25 (0, 0)) (by (with_reducible repeat (first | refine blk_drewN ?_ _ | refine blk_drew ?_ | refine blk_alloc ?_ _)); exact BK523.out) hb)
        have n10_ := Aside0.mk (below_step (by repeat (first | (with_reducible first | exact HB.out | apply below_alloc | apply pw_below_drewN | apply below_drew1 | refine below_set ?_ GE490.out | refine below_set ?_ GE523.out) | exact HB.out)) hb)
        clear HO495
        clear HO498
        clear HO501
        clear HO504
        clear HO511
        clear HO514
        clear HO517
        clear HO520
        clear BK490
        clear BK523
        clear HB
        have HO495 := n0_
        have HO498 := n1_
        have HO501 := n2_
        have HO504 := n3_
        have HO511 := n4_
        have HO514 := n5_
        have HO517 := n6_
        have HO520 := n7_
        have BK490 := n8_
        have BK523 := n9_
        have HB := n10_
        clear n0_ n1_ n2_ n3_ n4_ n5_ n6_ n7_ n8_ n9_ n10_
        (try clear hb)
        (try clear hb2)
        (try clear hk)
        (try clear hi)
        refine hK.out _ _ ⟨(blk_cell BK490.out 0).trans rfl, (blk_cell BK490.out 1).trans rfl, (blk_cell BK490.out 2).trans rfl, (blk_cell BK490.out 3).trans rfl, (blk_cell BK490.out 4).trans rfl, (blk_cell BK490.out 5).trans rfl, (blk_cell BK490.out 6).trans rfl, (blk_cell BK490.out 7).trans rfl, (blk_cell BK523.out 0).trans rfl, (blk_cell BK523.out 1).trans rfl, (blk_cell BK523.out 2).trans rfl, (blk_cell BK523.out 3).trans rfl, (blk_cell BK523.out 4).trans rfl, (blk_cell BK523.out 5).trans rfl, (blk_cell BK523.out 6).trans rfl, (blk_cell BK523.out 7).trans rfl⟩ (fun hHeld => ?_)
        clear hK K
        refine norm_ (a' := ?_) ?_ ?_
        rotate_left
        · show Act.put _ (some 14) _ = _
          simp only [Act.put, List.setIfInBounds_toArray, List.set_cons_zero, List.set_cons_succ, i64_w, i32_w]
          rfl
        refine one_ (i := 5) (N := some 17) #[true, true, true, true, true, true, false, false, false, false, false, false, false, false, false, false, false, false, false, false, false, false, false, false, false] rfl rfl (one_of HT_.out (by kernel_rfl)) (by decide) (fun K hK => ?_)
        refine goes_ Try.func13 (by kernel_rfl) rfl #[.agg #[.bool t507, .bool t508, .slice Ao19 t509.length co19, .slice Ao20 t512.length co20, .slice Ao21 t515.length co21, .slice Ao22 t518.length co22, .bool t521, .bool t522], .string a1] (by rfl) rfl rfl (by (try simp only [List.map_toArray, List.map_cons, List.map_nil]); first | done | rfl | (simp only [List.length_drop, List.length_take]; rfl)) ?_
        with_reducible refine (config_Element.calls k t507 t508 _ _ t509 _ _ t512 _ _ t515 _ _ t518 t521 t522 a1 t525 _ ?side1 ?side2 ?side3 ?side4 ?side5 ?side6 ?side7 ?side8 A24.out).mono ?_
        (case side1 => repeat (first | exact (Kd.R_reads' HO511.out).2.2 | (with_reducible refine Kd.C_alloc ?_ _) | (with_reducible refine Kd.C_drewN ?_ _) | (with_reducible refine Kd.C_drew ?_)))
        (case side2 => exact (Kd.R_reads' HO511.out).2.1)
        (case side3 => repeat (first | exact (Kd.R_reads' HO514.out).2.2 | (with_reducible refine Kd.C_alloc ?_ _) | (with_reducible refine Kd.C_drewN ?_ _) | (with_reducible refine Kd.C_drew ?_)))
        (case side4 => exact (Kd.R_reads' HO514.out).2.1)
        (case side5 => repeat (first | exact (Kd.R_reads' HO517.out).2.2 | (with_reducible refine Kd.C_alloc ?_ _) | (with_reducible refine Kd.C_drewN ?_ _) | (with_reducible refine Kd.C_drew ?_)))
        (case side6 => exact (Kd.R_reads' HO517.out).2.1)
        (case side7 => repeat (first | exact (Kd.N_reads' HO520.out).2.2 | (with_reducible refine Kd.C_alloc ?_ _) | (with_reducible refine Kd.C_drewN ?_ _) | (with_reducible refine Kd.C_drew ?_)))
        (case side8 => exact (Kd.N_reads' HO520.out).2.1)
        rintro e w32 ⟨rfl, hb⟩
        refine ⟨_, rfl, ?_⟩
        have n0_ := Aside0.mk (Kd.V_below (by (with_reducible repeat (first | apply Kd.V_alloc | apply Kd.V_drewN | apply Kd.V_drew)); exact HO495.out) hb)
        have n1_ := Aside0.mk (Kd.V_below (by (with_reducible repeat (first | apply Kd.V_alloc | apply Kd.V_drewN | apply Kd.V_drew)); exact HO498.out) hb)
        have n2_ := Aside0.mk (Kd.V_below (by (with_reducible repeat (first | apply Kd.V_alloc | apply Kd.V_drewN | apply Kd.V_drew)); exact HO501.out) hb)
        have n3_ := Aside0.mk (Kd.N_below (by (with_reducible repeat (first | apply Kd.N_alloc | apply Kd.N_drewN | apply Kd.N_drew)); exact HO504.out) hb)
        have n4_ := Aside0.mk (Kd.R_below (by (with_reducible repeat (first | apply Kd.R_alloc | apply Kd.R_drewN | apply Kd.R_drew)); exact HO511.out) hb)
        have n5_ := Aside0.mk (Kd.R_below (by (with_reducible repeat (first | apply Kd.R_alloc | apply Kd.R_drewN | apply Kd.R_drew)); exact HO514.out) hb)
        have n6_ := Aside0.mk (Kd.R_below (by (with_reducible repeat (first | apply Kd.R_alloc | apply Kd.R_drewN | apply Kd.R_drew)); exact HO517.out) hb)
        have n7_ := Aside0.mk (Kd.N_below (by (with_reducible repeat (first | apply Kd.N_alloc | apply Kd.N_drewN | apply Kd.N_drew)); exact HO520.out) hb)
        have n8_ := Aside0.mk (blk_below (g := gb490) (o := .cells #[.bool t491, .bool t492, .slice Ao11 t493.length co11, .slice Ao12 t496.length co12, .slice Ao13 t499.length co13, .slice Ao14 t502.length co14, .bool t505, .bool t506] 25 (0, 0)) (by (with_reducible repeat (first | refine blk_drewN ?_ _ | refine blk_drew ?_ | refine blk_alloc ?_ _)); exact BK490.out) hb)
        have n9_ := Aside0.mk (blk_below (g := gb523) (o := .cells #[.bool t507, .bool t508, .slice Ao19 t509.length co19, .slice Ao20 t512.length co20, .slice Ao21 t515.length co21, .slice Ao22 t518.length co22, .bool t521, .bool t522] 25 (0, 0)) (by (with_reducible repeat (first | refine blk_drewN ?_ _ | refine blk_drew ?_ | refine blk_alloc ?_ _)); exact BK523.out) hb)
        have n10_ := Aside0.mk (below_step (by repeat (first | (with_reducible first | exact HB.out | apply below_alloc | apply pw_below_drewN | apply below_drew1 | refine below_set ?_ GE490.out | refine below_set ?_ GE523.out) | exact HB.out)) hb)
        clear HO495
        clear HO498
        clear HO501
        clear HO504
        clear HO511
        clear HO514
        clear HO517
        clear HO520
        clear BK490
        clear BK523
        clear HB
        have HO495 := n0_
        have HO498 := n1_
        have HO501 := n2_
        have HO504 := n3_
        have HO511 := n4_
        have HO514 := n5_
        have HO517 := n6_
        have HO520 := n7_
        have BK490 := n8_
        have BK523 := n9_
        have HB := n10_
        clear n0_ n1_ n2_ n3_ n4_ n5_ n6_ n7_ n8_ n9_ n10_
        (try clear hb)
        (try clear hb2)
        (try clear hk)
        (try clear hi)
        refine hK.out _ _ ⟨(blk_cell BK490.out 0).trans rfl, (blk_cell BK490.out 1).trans rfl, (blk_cell BK490.out 2).trans rfl, (blk_cell BK490.out 3).trans rfl, (blk_cell BK490.out 4).trans rfl, (blk_cell BK490.out 5).trans rfl, (blk_cell BK490.out 6).trans rfl, (blk_cell BK490.out 7).trans rfl, (blk_cell BK523.out 0).trans rfl, (blk_cell BK523.out 1).trans rfl, (blk_cell BK523.out 2).trans rfl, (blk_cell BK523.out 3).trans rfl, (blk_cell BK523.out 4).trans rfl, (blk_cell BK523.out 5).trans rfl, (blk_cell BK523.out 6).trans rfl, (blk_cell BK523.out 7).trans rfl⟩ (fun hHeld => ?_)
        clear hK K
        refine norm_ (a' := ?_) ?_ ?_
        rotate_left
        · show Act.put _ (some 17) _ = _
          simp only [Act.put, List.setIfInBounds_toArray, List.set_cons_zero, List.set_cons_succ, i64_w, i32_w]
          rfl
        refine pure_ (i := 6) (N := some 18) (v := ?_) (a' := ?_) #[true, true, true, true, true, true, true, false, false, false, false, false, false, false, false, false, false, false, false, false, false, false, false, false, false] rfl rfl (any_of HT_.out (by kernel_rfl)) (fun _ _ _ h => h) (Or.inl ⟨by rfl, ?_⟩) ?_ ?_
        rotate_left
        · intro w'
          go_simp
          with_reducible rfl
        rotate_left
        · simp only [Act.put, List.setIfInBounds_toArray, List.set_cons_zero, List.set_cons_succ, i64_w, i32_w]
          rfl
        refine pure_ (i := 7) (N := some 19) (v := ?_) (a' := ?_) #[true, true, true, true, true, true, true, true, false, false, false, false, false, false, false, false, false, false, false, false, false, false, false, false, false] rfl rfl (any_of HT_.out (by kernel_rfl)) (fun _ _ _ h => h) (Or.inl ⟨by rfl, ?_⟩) ?_ ?_
        rotate_left
        · intro w'
          go_simp
          with_reducible rfl
        rotate_left
        · simp only [Act.put, List.setIfInBounds_toArray, List.set_cons_zero, List.set_cons_succ, i64_w, i32_w]
          rfl
        refine pure_ (i := 9) (N := some 21) (v := ?_) (a' := ?_) #[true, true, true, true, true, true, true, true, false, true, false, false, false, false, false, false, false, false, false, false, false, false, false, false, false] rfl rfl (any_of HT_.out (by kernel_rfl)) (fun _ _ _ h => h) (Or.inl ⟨by rfl, ?_⟩) ?_ ?_
        rotate_left
        · intro w'
          go_simp
          with_reducible rfl
        rotate_left
        · simp only [Act.put, List.setIfInBounds_toArray, List.set_cons_zero, List.set_cons_succ, i64_w, i32_w]
          rfl
        refine pure_ (i := 10) (N := some 22) (v := ?_) (a' := ?_) #[true, true, true, true, true, true, true, true, false, true, true, false, false, false, false, false, false, false, false, false, false, false, false, false, false] rfl rfl (any_of HT_.out (by kernel_rfl)) (fun _ _ _ h => h) (Or.inl ⟨by rfl, ?_⟩) ?_ ?_
        rotate_left
        · intro w'
          go_simp
          with_reducible rfl
        rotate_left
        · simp only [Act.put, List.setIfInBounds_toArray, List.set_cons_zero, List.set_cons_succ, i64_w, i32_w]
          rfl
        refine pure_ (i := 13) (N := some 25) (v := ?_) (a' := ?_) #[true, true, true, true, true, true, true, true, false, true, true, false, false, true, false, false, false, false, false, false, false, false, false, false, false] rfl rfl (any_of HT_.out (by kernel_rfl)) (fun _ _ _ h => h) (Or.inl ⟨by rfl, ?_⟩) ?_ ?_
        rotate_left
        · intro w'
          go_simp
          with_reducible rfl
        rotate_left
        · simp only [Act.put, List.setIfInBounds_toArray, List.set_cons_zero, List.set_cons_succ, i64_w, i32_w]
          rfl
        refine pure_ (i := 14) (N := some 26) (v := ?_) (a' := ?_) #[true, true, true, true, true, true, true, true, false, true, true, false, false, true, true, false, false, false, false, false, false, false, false, false, false] rfl rfl (any_of HT_.out (by kernel_rfl)) (fun _ _ _ h => h) (Or.inl ⟨by rfl, ?_⟩) ?_ ?_
        rotate_left
        · intro w'
          go_simp
          with_reducible rfl
        rotate_left
        · simp only [Act.put, List.setIfInBounds_toArray, List.set_cons_zero, List.set_cons_succ, i64_w, i32_w]
          rfl
        refine take_ (i := 8) (N := some 20) (v := ?_) (a' := ?_) #[true, true, true, true, true, true, true, true, true, true, true, false, false, true, true, false, false, false, false, false, false, false, false, false, false] rfl rfl (take_ofW HT_.out HW_.out (by kernel_rfl)) (fun _ _ _ h => h) (Or.inl ⟨by rfl, ?_⟩) hHeld ?_ ?_
        rotate_left
        · rintro w' ⟨s0, s1, s2, s3, s4, s5, s6, s7, s8, s9, s10, s11, s12, s13, s14, s15⟩
          go_simp
          with_reducible rfl
        rotate_left
        · simp only [Act.put, List.setIfInBounds_toArray, List.set_cons_zero, List.set_cons_succ, i64_w, i32_w]
          rfl
        refine take_ (i := 12) (N := some 24) (v := ?_) (a' := ?_) #[true, true, true, true, true, true, true, true, true, true, true, false, true, true, true, false, false, false, false, false, false, false, false, false, false] rfl rfl (take_ofW HT_.out HW_.out (by kernel_rfl)) (fun _ _ _ h => h) (Or.inl ⟨by rfl, ?_⟩) hHeld ?_ ?_
        rotate_left
        · rintro w' ⟨s0, s1, s2, s3, s4, s5, s6, s7, s8, s9, s10, s11, s12, s13, s14, s15⟩
          go_simp
          with_reducible rfl
        rotate_left
        · simp only [Act.put, List.setIfInBounds_toArray, List.set_cons_zero, List.set_cons_succ, i64_w, i32_w]
          rfl
        refine one_ (i := 11) (N := some 23) #[true, true, true, true, true, true, true, true, true, true, true, true, true, true, true, false, false, false, false, false, false, false, false, false, false] rfl rfl (one_of HT_.out (by kernel_rfl)) (by decide) (fun K hK => ?_)
        refine goes_ Try.func15 (by kernel_rfl) rfl #[.agg #[.bool t491, .bool t492, .slice Ao11 t493.length co11, .slice Ao12 t496.length co12, .slice Ao13 t499.length co13, .slice Ao14 t502.length co14, .bool t505, .bool t506], .string a1, .string a2] (by rfl) rfl rfl (by (try simp only [List.map_toArray, List.map_cons, List.map_nil]); first | done | rfl | (simp only [List.length_drop, List.length_take]; rfl)) ?_
        with_reducible refine (config_Attr.calls t491 t492 _ _ t493 _ _ t496 _ _ t499 _ _ t502 t505 t506 a1 a2 t526 _ ?side1 ?side2 ?side3 ?side4 ?side5 ?side6 ?side7 ?side8 A26.out).mono ?_
        (case side1 => repeat (first | exact (Kd.V_reads' HO495.out).2.2 | (with_reducible refine Kd.C_alloc ?_ _) | (with_reducible refine Kd.C_drewN ?_ _) | (with_reducible refine Kd.C_drew ?_)))
        (case side2 => exact (Kd.V_reads' HO495.out).2.1)
        (case side3 => repeat (first | exact (Kd.V_reads' HO498.out).2.2 | (with_reducible refine Kd.C_alloc ?_ _) | (with_reducible refine Kd.C_drewN ?_ _) | (with_reducible refine Kd.C_drew ?_)))
        (case side4 => exact (Kd.V_reads' HO498.out).2.1)
        (case side5 => repeat (first | exact (Kd.V_reads' HO501.out).2.2 | (with_reducible refine Kd.C_alloc ?_ _) | (with_reducible refine Kd.C_drewN ?_ _) | (with_reducible refine Kd.C_drew ?_)))
        (case side6 => exact (Kd.V_reads' HO501.out).2.1)
        (case side7 => repeat (first | exact (Kd.N_reads' HO504.out).2.2 | (with_reducible refine Kd.C_alloc ?_ _) | (with_reducible refine Kd.C_drewN ?_ _) | (with_reducible refine Kd.C_drew ?_)))
        (case side8 => exact (Kd.N_reads' HO504.out).2.1)
        rintro e w33 ⟨rfl, hb⟩
        refine ⟨_, rfl, ?_⟩
        have n0_ := Aside0.mk (Kd.V_below (by (with_reducible repeat (first | apply Kd.V_alloc | apply Kd.V_drewN | apply Kd.V_drew)); exact HO495.out) hb)
        have n1_ := Aside0.mk (Kd.V_below (by (with_reducible repeat (first | apply Kd.V_alloc | apply Kd.V_drewN | apply Kd.V_drew)); exact HO498.out) hb)
        have n2_ := Aside0.mk (Kd.V_below (by (with_reducible repeat (first | apply Kd.V_alloc | apply Kd.V_drewN | apply Kd.V_drew)); exact HO501.out) hb)
        have n3_ := Aside0.mk (Kd.N_below (by (with_reducible repeat (first | apply Kd.N_alloc | apply Kd.N_drewN | apply Kd.N_drew)); exact HO504.out) hb)
        have n4_ := Aside0.mk (Kd.R_below (by (with_reducible repeat (first | apply Kd.R_alloc | apply Kd.R_drewN | apply Kd.R_drew)); exact HO511.out) hb)
        have n5_ := Aside0.mk (Kd.R_below (by (with_reducible repeat (first | apply Kd.R_alloc | apply Kd.R_drewN | apply Kd.R_drew)); exact HO514.out) hb)
        have n6_ := Aside0.mk (Kd.R_below (by (with_reducible repeat (first | apply Kd.R_alloc | apply Kd.R_drewN | apply Kd.R_drew)); exact HO517.out) hb)
        have n7_ := Aside0.mk (Kd.N_below (by (with_reducible repeat (first | apply Kd.N_alloc | apply Kd.N_drewN | apply Kd.N_drew)); exact HO520.out) hb)
        have n8_ := Aside0.mk (blk_below (g := gb490) (o := .cells #[.bool t491, .bool t492, .slice Ao11 t493.length co11, .slice Ao12 t496.length co12, .slice Ao13 t499.length co13, .slice Ao14 t502.length co14, .bool t505, .bool t506] 25 (0, 0)) (by (with_reducible repeat (first | refine blk_drewN ?_ _ | refine blk_drew ?_ | refine blk_alloc ?_ _)); exact BK490.out) hb)
        have n9_ := Aside0.mk (blk_below (g := gb523) (o := .cells #[.bool t507, .bool t508, .slice Ao19 t509.length co19, .slice Ao20 t512.length co20, .slice Ao21 t515.length co21, .slice Ao22 t518.length co22, .bool t521, .bool t522] 25 (0, 0)) (by (with_reducible repeat (first | refine blk_drewN ?_ _ | refine blk_drew ?_ | refine blk_alloc ?_ _)); exact BK523.out) hb)
        have n10_ := Aside0.mk (below_step (by repeat (first | (with_reducible first | exact HB.out | apply below_alloc | apply pw_below_drewN | apply below_drew1 | refine below_set ?_ GE490.out | refine below_set ?_ GE523.out) | exact HB.out)) hb)
        clear HO495
        clear HO498
        clear HO501
        clear HO504
        clear HO511
        clear HO514
        clear HO517
        clear HO520
        clear BK490
        clear BK523
        clear HB
        have HO495 := n0_
        have HO498 := n1_
        have HO501 := n2_
        have HO504 := n3_
        have HO511 := n4_
        have HO514 := n5_
        have HO517 := n6_
        have HO520 := n7_
        have BK490 := n8_
        have BK523 := n9_
        have HB := n10_
        clear n0_ n1_ n2_ n3_ n4_ n5_ n6_ n7_ n8_ n9_ n10_
        (try clear hb)
        (try clear hb2)
        (try clear hk)
        (try clear hi)
        refine hK.out _ _ ⟨(blk_cell BK490.out 0).trans rfl, (blk_cell BK490.out 1).trans rfl, (blk_cell BK490.out 2).trans rfl, (blk_cell BK490.out 3).trans rfl, (blk_cell BK490.out 4).trans rfl, (blk_cell BK490.out 5).trans rfl, (blk_cell BK490.out 6).trans rfl, (blk_cell BK490.out 7).trans rfl, (blk_cell BK523.out 0).trans rfl, (blk_cell BK523.out 1).trans rfl, (blk_cell BK523.out 2).trans rfl, (blk_cell BK523.out 3).trans rfl, (blk_cell BK523.out 4).trans rfl, (blk_cell BK523.out 5).trans rfl, (blk_cell BK523.out 6).trans rfl, (blk_cell BK523.out 7).trans rfl⟩ (fun hHeld => ?_)
        clear hK K
        refine norm_ (a' := ?_) ?_ ?_
        rotate_left
        · show Act.put _ (some 23) _ = _
          simp only [Act.put, List.setIfInBounds_toArray, List.set_cons_zero, List.set_cons_succ, i64_w, i32_w]
          rfl
        refine one_ (i := 15) (N := some 27) #[true, true, true, true, true, true, true, true, true, true, true, true, true, true, true, true, false, false, false, false, false, false, false, false, false] rfl rfl (one_of HT_.out (by kernel_rfl)) (by decide) (fun K hK => ?_)
        refine goes_ Try.func15 (by kernel_rfl) rfl #[.agg #[.bool t507, .bool t508, .slice Ao19 t509.length co19, .slice Ao20 t512.length co20, .slice Ao21 t515.length co21, .slice Ao22 t518.length co22, .bool t521, .bool t522], .string a1, .string a2] (by rfl) rfl rfl (by (try simp only [List.map_toArray, List.map_cons, List.map_nil]); first | done | rfl | (simp only [List.length_drop, List.length_take]; rfl)) ?_
        with_reducible refine (config_Attr.calls t507 t508 _ _ t509 _ _ t512 _ _ t515 _ _ t518 t521 t522 a1 a2 t527 _ ?side1 ?side2 ?side3 ?side4 ?side5 ?side6 ?side7 ?side8 A27.out).mono ?_
        (case side1 => repeat (first | exact (Kd.R_reads' HO511.out).2.2 | (with_reducible refine Kd.C_alloc ?_ _) | (with_reducible refine Kd.C_drewN ?_ _) | (with_reducible refine Kd.C_drew ?_)))
        (case side2 => exact (Kd.R_reads' HO511.out).2.1)
        (case side3 => repeat (first | exact (Kd.R_reads' HO514.out).2.2 | (with_reducible refine Kd.C_alloc ?_ _) | (with_reducible refine Kd.C_drewN ?_ _) | (with_reducible refine Kd.C_drew ?_)))
        (case side4 => exact (Kd.R_reads' HO514.out).2.1)
        (case side5 => repeat (first | exact (Kd.R_reads' HO517.out).2.2 | (with_reducible refine Kd.C_alloc ?_ _) | (with_reducible refine Kd.C_drewN ?_ _) | (with_reducible refine Kd.C_drew ?_)))
        (case side6 => exact (Kd.R_reads' HO517.out).2.1)
        (case side7 => repeat (first | exact (Kd.N_reads' HO520.out).2.2 | (with_reducible refine Kd.C_alloc ?_ _) | (with_reducible refine Kd.C_drewN ?_ _) | (with_reducible refine Kd.C_drew ?_)))
        (case side8 => exact (Kd.N_reads' HO520.out).2.1)
        rintro e w34 ⟨rfl, hb⟩
        refine ⟨_, rfl, ?_⟩
        have n0_ := Aside0.mk (Kd.V_below (by (with_reducible repeat (first | apply Kd.V_alloc | apply Kd.V_drewN | apply Kd.V_drew)); exact HO495.out) hb)
        have n1_ := Aside0.mk (Kd.V_below (by (with_reducible repeat (first | apply Kd.V_alloc | apply Kd.V_drewN | apply Kd.V_drew)); exact HO498.out) hb)
        have n2_ := Aside0.mk (Kd.V_below (by (with_reducible repeat (first | apply Kd.V_alloc | apply Kd.V_drewN | apply Kd.V_drew)); exact HO501.out) hb)
        have n3_ := Aside0.mk (Kd.N_below (by (with_reducible repeat (first | apply Kd.N_alloc | apply Kd.N_drewN | apply Kd.N_drew)); exact HO504.out) hb)
        have n4_ := Aside0.mk (Kd.R_below (by (with_reducible repeat (first | apply Kd.R_alloc | apply Kd.R_drewN | apply Kd.R_drew)); exact HO511.out) hb)
        have n5_ := Aside0.mk (Kd.R_below (by (with_reducible repeat (first | apply Kd.R_alloc | apply Kd.R_drewN | apply Kd.R_drew)); exact HO514.out) hb)
        have n6_ := Aside0.mk (Kd.R_below (by (with_reducible repeat (first | apply Kd.R_alloc | apply Kd.R_drewN | apply Kd.R_drew)); exact HO517.out) hb)
        have n7_ := Aside0.mk (Kd.N_below (by (with_reducible repeat (first | apply Kd.N_alloc | apply Kd.N_drewN | apply Kd.N_drew)); exact HO520.out) hb)
        have n8_ := Aside0.mk (blk_below (g := gb490) (o := .cells #[.bool t491, .bool t492, .slice Ao11 t493.length co11, .slice Ao12 t496.length co12, .slice Ao13 t499.length co13, .slice Ao14 t502.length co14, .bool t505, .bool t506] 25 (0, 0)) (by (with_reducible repeat (first | refine blk_drewN ?_ _ | refine blk_drew ?_ | refine blk_alloc ?_ _)); exact BK490.out) hb)
        have n9_ := Aside0.mk (blk_below (g := gb523) (o := .cells #[.bool t507, .bool t508, .slice Ao19 t509.length co19, .slice Ao20 t512.length co20, .slice Ao21 t515.length co21, .slice Ao22 t518.length co22, .bool t521, .bool t522] 25 (0, 0)) (by (with_reducible repeat (first | refine blk_drewN ?_ _ | refine blk_drew ?_ | refine blk_alloc ?_ _)); exact BK523.out) hb)
        have n10_ := Aside0.mk (below_step (by repeat (first | (with_reducible first | exact HB.out | apply below_alloc | apply pw_below_drewN | apply below_drew1 | refine below_set ?_ GE490.out | refine below_set ?_ GE523.out) | exact HB.out)) hb)
        clear HO495
        clear HO498
        clear HO501
        clear HO504
        clear HO511
        clear HO514
        clear HO517
        clear HO520
        clear BK490
        clear BK523
        clear HB
        have HO495 := n0_
        have HO498 := n1_
        have HO501 := n2_
        have HO504 := n3_
        have HO511 := n4_
        have HO514 := n5_
        have HO517 := n6_
        have HO520 := n7_
        have BK490 := n8_
        have BK523 := n9_
        have HB := n10_
        clear n0_ n1_ n2_ n3_ n4_ n5_ n6_ n7_ n8_ n9_ n10_
        (try clear hb)
        (try clear hb2)
        (try clear hk)
        (try clear hi)
        refine hK.out _ _ ⟨(blk_cell BK490.out 0).trans rfl, (blk_cell BK490.out 1).trans rfl, (blk_cell BK490.out 2).trans rfl, (blk_cell BK490.out 3).trans rfl, (blk_cell BK490.out 4).trans rfl, (blk_cell BK490.out 5).trans rfl, (blk_cell BK490.out 6).trans rfl, (blk_cell BK490.out 7).trans rfl, (blk_cell BK523.out 0).trans rfl, (blk_cell BK523.out 1).trans rfl, (blk_cell BK523.out 2).trans rfl, (blk_cell BK523.out 3).trans rfl, (blk_cell BK523.out 4).trans rfl, (blk_cell BK523.out 5).trans rfl, (blk_cell BK523.out 6).trans rfl, (blk_cell BK523.out 7).trans rfl⟩ (fun hHeld => ?_)
        clear hK K
        refine norm_ (a' := ?_) ?_ ?_
        rotate_left
        · show Act.put _ (some 27) _ = _
          simp only [Act.put, List.setIfInBounds_toArray, List.set_cons_zero, List.set_cons_succ, i64_w, i32_w]
          rfl
        refine pure_ (i := 16) (N := some 28) (v := ?_) (a' := ?_) #[true, true, true, true, true, true, true, true, true, true, true, true, true, true, true, true, true, false, false, false, false, false, false, false, false] rfl rfl (any_of HT_.out (by kernel_rfl)) (fun _ _ _ h => h) (Or.inl ⟨by rfl, ?_⟩) ?_ ?_
        rotate_left
        · intro w'
          go_simp
          with_reducible rfl
        rotate_left
        · simp only [Act.put, List.setIfInBounds_toArray, List.set_cons_zero, List.set_cons_succ, i64_w, i32_w]
          rfl
        refine pure_ (i := 17) (N := some 29) (v := ?_) (a' := ?_) #[true, true, true, true, true, true, true, true, true, true, true, true, true, true, true, true, true, true, false, false, false, false, false, false, false] rfl rfl (any_of HT_.out (by kernel_rfl)) (fun _ _ _ h => h) (Or.inl ⟨by rfl, ?_⟩) ?_ ?_
        rotate_left
        · intro w'
          go_simp
          with_reducible rfl
        rotate_left
        · simp only [Act.put, List.setIfInBounds_toArray, List.set_cons_zero, List.set_cons_succ, i64_w, i32_w]
          rfl
        refine pure_ (i := 18) (N := some 30) (v := ?_) (a' := ?_) #[true, true, true, true, true, true, true, true, true, true, true, true, true, true, true, true, true, true, true, false, false, false, false, false, false] rfl rfl (any_of HT_.out (by kernel_rfl)) (fun _ _ _ h => h) (Or.inl ⟨by rfl, ?_⟩) ?_ ?_
        rotate_left
        · intro w'
          go_simp
          with_reducible rfl
        rotate_left
        · simp only [Act.put, List.setIfInBounds_toArray, List.set_cons_zero, List.set_cons_succ, i64_w, i32_w]
          rfl
        refine pure_ (i := 19) (N := some 31) (v := undef) (a' := ?_) #[true, true, true, true, true, true, true, true, true, true, true, true, true, true, true, true, true, true, true, true, false, false, false, false, false] rfl rfl (any_of HT_.out (by kernel_rfl)) (fun _ _ _ h => h) (Or.inr ⟨by rfl, rfl⟩) ?_ ?_
        rotate_left
        · simp only [Act.put, List.setIfInBounds_toArray, List.set_cons_zero, List.set_cons_succ, i64_w, i32_w]
          rfl
        refine pure_ (i := 20) (N := some 32) (v := undef) (a' := ?_) #[true, true, true, true, true, true, true, true, true, true, true, true, true, true, true, true, true, true, true, true, true, false, false, false, false] rfl rfl (any_of HT_.out (by kernel_rfl)) (fun _ _ _ h => h) (Or.inr ⟨by rfl, rfl⟩) ?_ ?_
        rotate_left
        · simp only [Act.put, List.setIfInBounds_toArray, List.set_cons_zero, List.set_cons_succ, i64_w, i32_w]
          rfl
        refine pure_ (i := 21) (N := some 33) (v := undef) (a' := ?_) #[true, true, true, true, true, true, true, true, true, true, true, true, true, true, true, true, true, true, true, true, true, true, false, false, false] rfl rfl (any_of HT_.out (by kernel_rfl)) (fun _ _ _ h => h) (Or.inr ⟨by rfl, rfl⟩) ?_ ?_
        rotate_left
        · simp only [Act.put, List.setIfInBounds_toArray, List.set_cons_zero, List.set_cons_succ, i64_w, i32_w]
          rfl
        refine pure_ (i := 22) (N := some 34) (v := undef) (a' := ?_) #[true, true, true, true, true, true, true, true, true, true, true, true, true, true, true, true, true, true, true, true, true, true, true, false, false] rfl rfl (any_of HT_.out (by kernel_rfl)) (fun _ _ _ h => h) (Or.inr ⟨by rfl, rfl⟩) ?_ ?_
        rotate_left
        · simp only [Act.put, List.setIfInBounds_toArray, List.set_cons_zero, List.set_cons_succ, i64_w, i32_w]
          rfl
        refine pure_ (i := 23) (N := some 35) (v := undef) (a' := ?_) #[true, true, true, true, true, true, true, true, true, true, true, true, true, true, true, true, true, true, true, true, true, true, true, true, false] rfl rfl (any_of HT_.out (by kernel_rfl)) (fun _ _ _ h => h) (Or.inr ⟨by rfl, rfl⟩) ?_ ?_
        rotate_left
        · simp only [Act.put, List.setIfInBounds_toArray, List.set_cons_zero, List.set_cons_succ, i64_w, i32_w]
          rfl
        refine pure_ (i := 24) (N := some 36) (v := ?_) (a' := ?_) #[true, true, true, true, true, true, true, true, true, true, true, true, true, true, true, true, true, true, true, true, true, true, true, true, true] rfl rfl (any_of HT_.out (by kernel_rfl)) (fun _ _ _ h => h) (Or.inl ⟨by rfl, ?_⟩) ?_ ?_
        rotate_left
        · intro w'
          go_simp
          with_reducible rfl
        rotate_left
        · simp only [Act.put, List.setIfInBounds_toArray, List.set_cons_zero, List.set_cons_succ, i64_w, i32_w]
          rfl
        refine done_ (done_of HT_.out (by kernel_rfl)) ?_
        try go_wp2
        go_meet
        case rel => exact ⟨_, (true), (by first | rfl | (simp; done) | (simp [*]; done)), H', ⟨by first | omega | exact Nat.le_refl _⟩, ⟨by (with_reducible repeat (first | apply Kd.V_alloc | apply Kd.V_drewN | apply Kd.V_drew)); exact HO495.out⟩, ⟨by (with_reducible repeat (first | apply Kd.V_alloc | apply Kd.V_drewN | apply Kd.V_drew)); exact HO498.out⟩, ⟨by (with_reducible repeat (first | apply Kd.V_alloc | apply Kd.V_drewN | apply Kd.V_drew)); exact HO501.out⟩, ⟨by (with_reducible repeat (first | apply Kd.N_alloc | apply Kd.N_drewN | apply Kd.N_drew)); exact HO504.out⟩, ⟨by (with_reducible repeat (first | apply Kd.R_alloc | apply Kd.R_drewN | apply Kd.R_drew)); exact HO511.out⟩, ⟨by (with_reducible repeat (first | apply Kd.R_alloc | apply Kd.R_drewN | apply Kd.R_drew)); exact HO514.out⟩, ⟨by (with_reducible repeat (first | apply Kd.R_alloc | apply Kd.R_drewN | apply Kd.R_drew)); exact HO517.out⟩, ⟨by (with_reducible repeat (first | apply Kd.N_alloc | apply Kd.N_drewN | apply Kd.N_drew)); exact HO520.out⟩, ⟨by (with_reducible repeat (first | refine blk_drewN ?_ _ | refine blk_drew ?_ | refine blk_alloc ?_ _)); exact BK490.out⟩, ⟨by (with_reducible repeat (first | refine blk_drewN ?_ _ | refine blk_drew ?_ | refine blk_alloc ?_ _)); exact BK523.out⟩, ⟨by repeat (first | (with_reducible first | exact HB.out | apply below_alloc | apply pw_below_drewN | apply below_drew1 | refine below_set ?_ GE490.out | refine below_set ?_ GE523.out) | exact HB.out)⟩⟩
      · rw [if_neg c28] at H
        have c28b0 : (t526 != t527) = false := by simpa using c28
        (try (have c28b1 : decide (t526 = t527) = true := by simpa using c28))
        (try (have c28b2 : (t526 == t527) = true := by simpa using c28))
        clear c28
        replace H := Option.bind_eq_some_iff.mp H
        obtain ⟨⟨t528, t529, t530, t533, t536, t539, t542, t543⟩, A350, H⟩ := H
        try dsimp only at H
        have A35 := Aside0.mk A350
        clear A350
        replace H := Option.bind_eq_some_iff.mp H
        obtain ⟨t544, A360, H⟩ := H
        have A36 := Aside0.mk A360
        clear A360
        have H' := Aside0.mk H
        clear H
        try go_wp2
        have n0_ : Aside0 (Kd.V Kd.string 9 ((((((((w16.setCell ⟨gb523, 0, none⟩ (.bool t507)).setCell ⟨gb523, 1, none⟩ (.bool t508)).setCell ⟨gb523, 2, none⟩ (.slice Ao19 t509.length co19)).setCell ⟨gb523, 3, none⟩ (.slice Ao20 t512.length co20)).setCell ⟨gb523, 4, none⟩ (.slice Ao21 t515.length co21)).setCell ⟨gb523, 5, none⟩ (.slice Ao22 t518.length co22)).setCell ⟨gb523, 6, none⟩ (.bool t521)).setCell ⟨gb523, 7, none⟩ (.bool t522)) w.heap.size (fun k_ => some k_ ≠ (.slice Ao14 t502.length co14 : Value).ownBlock ∧ some k_ ≠ (.slice Ao19 t509.length co19 : Value).ownBlock ∧ some k_ ≠ (.slice Ao20 t512.length co20 : Value).ownBlock ∧ some k_ ≠ (.slice Ao21 t515.length co21 : Value).ownBlock ∧ some k_ ≠ (.slice Ao22 t518.length co22 : Value).ownBlock ∧ k_ ≠ gb490 ∧ k_ ≠ gb523) (.slice Ao11 t493.length co11) t493) := ⟨by (with_reducible repeat (first | apply Kd.V_alloc | apply Kd.V_drewN | apply Kd.V_drew)); exact Kd.V_mono (Kd.V_far (p := ⟨gb523, 7, none⟩) (Kd.V_far (p := ⟨gb523, 6, none⟩) (Kd.V_far (p := ⟨gb523, 5, none⟩) (Kd.V_far (p := ⟨gb523, 4, none⟩) (Kd.V_far (p := ⟨gb523, 3, none⟩) (Kd.V_far (p := ⟨gb523, 2, none⟩) (Kd.V_far (p := ⟨gb523, 1, none⟩) (Kd.V_far (p := ⟨gb523, 0, none⟩) (Kd.V_mono HO495.out (fun k_ hk => (⟨hk, hk.2⟩ : _ ∧ k_ ≠ gb523))) (fun _ hk => hk.2) (.bool t507)) (fun _ hk => hk.2) (.bool t508)) (fun _ hk => hk.2) (.slice Ao19 t509.length co19)) (fun _ hk => hk.2) (.slice Ao20 t512.length co20)) (fun _ hk => hk.2) (.slice Ao21 t515.length co21)) (fun _ hk => hk.2) (.slice Ao22 t518.length co22)) (fun _ hk => hk.2) (.bool t521)) (fun _ hk => hk.2) (.bool t522)) (fun _ hk => ⟨hk.1.1.1.1.1.1.1, ⟨hk.1.1.1.1.1.2, ⟨hk.1.1.1.1.2, ⟨hk.1.1.1.2, ⟨hk.1.1.2, ⟨hk.1.1.1.1.1.1.2, hk.1.2⟩⟩⟩⟩⟩⟩)⟩
        have n1_ : Aside0 (Kd.V Kd.string 9 ((((((((w16.setCell ⟨gb523, 0, none⟩ (.bool t507)).setCell ⟨gb523, 1, none⟩ (.bool t508)).setCell ⟨gb523, 2, none⟩ (.slice Ao19 t509.length co19)).setCell ⟨gb523, 3, none⟩ (.slice Ao20 t512.length co20)).setCell ⟨gb523, 4, none⟩ (.slice Ao21 t515.length co21)).setCell ⟨gb523, 5, none⟩ (.slice Ao22 t518.length co22)).setCell ⟨gb523, 6, none⟩ (.bool t521)).setCell ⟨gb523, 7, none⟩ (.bool t522)) w.heap.size (fun k_ => some k_ ≠ (.slice Ao14 t502.length co14 : Value).ownBlock ∧ some k_ ≠ (.slice Ao19 t509.length co19 : Value).ownBlock ∧ some k_ ≠ (.slice Ao20 t512.length co20 : Value).ownBlock ∧ some k_ ≠ (.slice Ao21 t515.length co21 : Value).ownBlock ∧ some k_ ≠ (.slice Ao22 t518.length co22 : Value).ownBlock ∧ k_ ≠ gb490 ∧ k_ ≠ gb523) (.slice Ao12 t496.length co12) t496) := ⟨by (with_reducible repeat (first | apply Kd.V_alloc | apply Kd.V_drewN | apply Kd.V_drew)); exact Kd.V_mono (Kd.V_far (p := ⟨gb523, 7, none⟩) (Kd.V_far (p := ⟨gb523, 6, none⟩) (Kd.V_far (p := ⟨gb523, 5, none⟩) (Kd.V_far (p := ⟨gb523, 4, none⟩) (Kd.V_far (p := ⟨gb523, 3, none⟩) (Kd.V_far (p := ⟨gb523, 2, none⟩) (Kd.V_far (p := ⟨gb523, 1, none⟩) (Kd.V_far (p := ⟨gb523, 0, none⟩) (Kd.V_mono HO498.out (fun k_ hk => (⟨hk, hk.2⟩ : _ ∧ k_ ≠ gb523))) (fun _ hk => hk.2) (.bool t507)) (fun _ hk => hk.2) (.bool t508)) (fun _ hk => hk.2) (.slice Ao19 t509.length co19)) (fun _ hk => hk.2) (.slice Ao20 t512.length co20)) (fun _ hk => hk.2) (.slice Ao21 t515.length co21)) (fun _ hk => hk.2) (.slice Ao22 t518.length co22)) (fun _ hk => hk.2) (.bool t521)) (fun _ hk => hk.2) (.bool t522)) (fun _ hk => ⟨hk.1.1.1.1.1.1.1, ⟨hk.1.1.1.1.1.2, ⟨hk.1.1.1.1.2, ⟨hk.1.1.1.2, ⟨hk.1.1.2, ⟨hk.1.1.1.1.1.1.2, hk.1.2⟩⟩⟩⟩⟩⟩)⟩
        have n2_ : Aside0 (Kd.V Kd.string 9 ((((((((w16.setCell ⟨gb523, 0, none⟩ (.bool t507)).setCell ⟨gb523, 1, none⟩ (.bool t508)).setCell ⟨gb523, 2, none⟩ (.slice Ao19 t509.length co19)).setCell ⟨gb523, 3, none⟩ (.slice Ao20 t512.length co20)).setCell ⟨gb523, 4, none⟩ (.slice Ao21 t515.length co21)).setCell ⟨gb523, 5, none⟩ (.slice Ao22 t518.length co22)).setCell ⟨gb523, 6, none⟩ (.bool t521)).setCell ⟨gb523, 7, none⟩ (.bool t522)) w.heap.size (fun k_ => some k_ ≠ (.slice Ao14 t502.length co14 : Value).ownBlock ∧ some k_ ≠ (.slice Ao19 t509.length co19 : Value).ownBlock ∧ some k_ ≠ (.slice Ao20 t512.length co20 : Value).ownBlock ∧ some k_ ≠ (.slice Ao21 t515.length co21 : Value).ownBlock ∧ some k_ ≠ (.slice Ao22 t518.length co22 : Value).ownBlock ∧ k_ ≠ gb490 ∧ k_ ≠ gb523) (.slice Ao13 t499.length co13) t499) := ⟨by (with_reducible repeat (first | apply Kd.V_alloc | apply Kd.V_drewN | apply Kd.V_drew)); exact Kd.V_mono (Kd.V_far (p := ⟨gb523, 7, none⟩) (Kd.V_far (p := ⟨gb523, 6, none⟩) (Kd.V_far (p := ⟨gb523, 5, none⟩) (Kd.V_far (p := ⟨gb523, 4, none⟩) (Kd.V_far (p := ⟨gb523, 3, none⟩) (Kd.V_far (p := ⟨gb523, 2, none⟩) (Kd.V_far (p := ⟨gb523, 1, none⟩) (Kd.V_far (p := ⟨gb523, 0, none⟩) (Kd.V_mono HO501.out (fun k_ hk => (⟨hk, hk.2⟩ : _ ∧ k_ ≠ gb523))) (fun _ hk => hk.2) (.bool t507)) (fun _ hk => hk.2) (.bool t508)) (fun _ hk => hk.2) (.slice Ao19 t509.length co19)) (fun _ hk => hk.2) (.slice Ao20 t512.length co20)) (fun _ hk => hk.2) (.slice Ao21 t515.length co21)) (fun _ hk => hk.2) (.slice Ao22 t518.length co22)) (fun _ hk => hk.2) (.bool t521)) (fun _ hk => hk.2) (.bool t522)) (fun _ hk => ⟨hk.1.1.1.1.1.1.1, ⟨hk.1.1.1.1.1.2, ⟨hk.1.1.1.1.2, ⟨hk.1.1.1.2, ⟨hk.1.1.2, ⟨hk.1.1.1.1.1.1.2, hk.1.2⟩⟩⟩⟩⟩⟩)⟩
        have n3_ : Aside0 (Kd.N k35 35 ((((((((w16.setCell ⟨gb523, 0, none⟩ (.bool t507)).setCell ⟨gb523, 1, none⟩ (.bool t508)).setCell ⟨gb523, 2, none⟩ (.slice Ao19 t509.length co19)).setCell ⟨gb523, 3, none⟩ (.slice Ao20 t512.length co20)).setCell ⟨gb523, 4, none⟩ (.slice Ao21 t515.length co21)).setCell ⟨gb523, 5, none⟩ (.slice Ao22 t518.length co22)).setCell ⟨gb523, 6, none⟩ (.bool t521)).setCell ⟨gb523, 7, none⟩ (.bool t522)) w.heap.size (fun k_ => some k_ ≠ (.slice Ao19 t509.length co19 : Value).ownBlock ∧ some k_ ≠ (.slice Ao20 t512.length co20 : Value).ownBlock ∧ some k_ ≠ (.slice Ao21 t515.length co21 : Value).ownBlock ∧ some k_ ≠ (.slice Ao22 t518.length co22 : Value).ownBlock ∧ k_ ≠ gb490 ∧ k_ ≠ gb523) (.slice Ao14 t502.length co14) t502) := ⟨by (with_reducible repeat (first | apply Kd.N_alloc | apply Kd.N_drewN | apply Kd.N_drew)); exact Kd.N_mono (Kd.N_far (p := ⟨gb523, 7, none⟩) (Kd.N_far (p := ⟨gb523, 6, none⟩) (Kd.N_far (p := ⟨gb523, 5, none⟩) (Kd.N_far (p := ⟨gb523, 4, none⟩) (Kd.N_far (p := ⟨gb523, 3, none⟩) (Kd.N_far (p := ⟨gb523, 2, none⟩) (Kd.N_far (p := ⟨gb523, 1, none⟩) (Kd.N_far (p := ⟨gb523, 0, none⟩) (Kd.N_mono HO504.out (fun k_ hk => (⟨hk, hk.2⟩ : _ ∧ k_ ≠ gb523))) (fun _ hk => hk.2) (.bool t507)) (fun _ hk => hk.2) (.bool t508)) (fun _ hk => hk.2) (.slice Ao19 t509.length co19)) (fun _ hk => hk.2) (.slice Ao20 t512.length co20)) (fun _ hk => hk.2) (.slice Ao21 t515.length co21)) (fun _ hk => hk.2) (.slice Ao22 t518.length co22)) (fun _ hk => hk.2) (.bool t521)) (fun _ hk => hk.2) (.bool t522)) (fun _ hk => ⟨hk.1.1.1.1.1.2, ⟨hk.1.1.1.1.2, ⟨hk.1.1.1.2, ⟨hk.1.1.2, ⟨hk.1.1.1.1.1.1, hk.1.2⟩⟩⟩⟩⟩)⟩
        have n4_ : Aside0 (Kd.R Kd.string 9 ((((((((w16.setCell ⟨gb523, 0, none⟩ (.bool t507)).setCell ⟨gb523, 1, none⟩ (.bool t508)).setCell ⟨gb523, 2, none⟩ (.slice Ao19 t509.length co19)).setCell ⟨gb523, 3, none⟩ (.slice Ao20 t512.length co20)).setCell ⟨gb523, 4, none⟩ (.slice Ao21 t515.length co21)).setCell ⟨gb523, 5, none⟩ (.slice Ao22 t518.length co22)).setCell ⟨gb523, 6, none⟩ (.bool t521)).setCell ⟨gb523, 7, none⟩ (.bool t522)) w.heap.size (fun k_ => some k_ ≠ (.slice Ao20 t512.length co20 : Value).ownBlock ∧ some k_ ≠ (.slice Ao21 t515.length co21 : Value).ownBlock) (.slice Ao19 t509.length co19) t509) := ⟨by (with_reducible repeat (first | apply Kd.R_alloc | apply Kd.R_drewN | apply Kd.R_drew)); exact Kd.R_mono (Kd.R_far (p := ⟨gb523, 7, none⟩) (Kd.R_far (p := ⟨gb523, 6, none⟩) (Kd.R_far (p := ⟨gb523, 5, none⟩) (Kd.R_far (p := ⟨gb523, 4, none⟩) (Kd.R_far (p := ⟨gb523, 3, none⟩) (Kd.R_far (p := ⟨gb523, 2, none⟩) (Kd.R_far (p := ⟨gb523, 1, none⟩) (Kd.R_far (p := ⟨gb523, 0, none⟩) (Kd.R_types HO511.out BK523.out (by decide)) (fun _ hk => hk.2) (.bool t507)) (fun _ hk => hk.2) (.bool t508)) (fun _ hk => hk.2) (.slice Ao19 t509.length co19)) (fun _ hk => hk.2) (.slice Ao20 t512.length co20)) (fun _ hk => hk.2) (.slice Ao21 t515.length co21)) (fun _ hk => hk.2) (.slice Ao22 t518.length co22)) (fun _ hk => hk.2) (.bool t521)) (fun _ hk => hk.2) (.bool t522)) (fun _ hk => ⟨hk.1.1, hk.1.2⟩)⟩
        have n5_ : Aside0 (Kd.R Kd.string 9 ((((((((w16.setCell ⟨gb523, 0, none⟩ (.bool t507)).setCell ⟨gb523, 1, none⟩ (.bool t508)).setCell ⟨gb523, 2, none⟩ (.slice Ao19 t509.length co19)).setCell ⟨gb523, 3, none⟩ (.slice Ao20 t512.length co20)).setCell ⟨gb523, 4, none⟩ (.slice Ao21 t515.length co21)).setCell ⟨gb523, 5, none⟩ (.slice Ao22 t518.length co22)).setCell ⟨gb523, 6, none⟩ (.bool t521)).setCell ⟨gb523, 7, none⟩ (.bool t522)) w.heap.size (fun k_ => some k_ ≠ (.slice Ao19 t509.length co19 : Value).ownBlock ∧ some k_ ≠ (.slice Ao21 t515.length co21 : Value).ownBlock) (.slice Ao20 t512.length co20) t512) := ⟨by (with_reducible repeat (first | apply Kd.R_alloc | apply Kd.R_drewN | apply Kd.R_drew)); exact Kd.R_mono (Kd.R_far (p := ⟨gb523, 7, none⟩) (Kd.R_far (p := ⟨gb523, 6, none⟩) (Kd.R_far (p := ⟨gb523, 5, none⟩) (Kd.R_far (p := ⟨gb523, 4, none⟩) (Kd.R_far (p := ⟨gb523, 3, none⟩) (Kd.R_far (p := ⟨gb523, 2, none⟩) (Kd.R_far (p := ⟨gb523, 1, none⟩) (Kd.R_far (p := ⟨gb523, 0, none⟩) (Kd.R_types HO514.out BK523.out (by decide)) (fun _ hk => hk.2) (.bool t507)) (fun _ hk => hk.2) (.bool t508)) (fun _ hk => hk.2) (.slice Ao19 t509.length co19)) (fun _ hk => hk.2) (.slice Ao20 t512.length co20)) (fun _ hk => hk.2) (.slice Ao21 t515.length co21)) (fun _ hk => hk.2) (.slice Ao22 t518.length co22)) (fun _ hk => hk.2) (.bool t521)) (fun _ hk => hk.2) (.bool t522)) (fun _ hk => ⟨hk.1.1, hk.1.2⟩)⟩
        have n6_ : Aside0 (Kd.R Kd.string 9 ((((((((w16.setCell ⟨gb523, 0, none⟩ (.bool t507)).setCell ⟨gb523, 1, none⟩ (.bool t508)).setCell ⟨gb523, 2, none⟩ (.slice Ao19 t509.length co19)).setCell ⟨gb523, 3, none⟩ (.slice Ao20 t512.length co20)).setCell ⟨gb523, 4, none⟩ (.slice Ao21 t515.length co21)).setCell ⟨gb523, 5, none⟩ (.slice Ao22 t518.length co22)).setCell ⟨gb523, 6, none⟩ (.bool t521)).setCell ⟨gb523, 7, none⟩ (.bool t522)) w.heap.size (fun k_ => some k_ ≠ (.slice Ao19 t509.length co19 : Value).ownBlock ∧ some k_ ≠ (.slice Ao20 t512.length co20 : Value).ownBlock) (.slice Ao21 t515.length co21) t515) := ⟨by (with_reducible repeat (first | apply Kd.R_alloc | apply Kd.R_drewN | apply Kd.R_drew)); exact Kd.R_mono (Kd.R_far (p := ⟨gb523, 7, none⟩) (Kd.R_far (p := ⟨gb523, 6, none⟩) (Kd.R_far (p := ⟨gb523, 5, none⟩) (Kd.R_far (p := ⟨gb523, 4, none⟩) (Kd.R_far (p := ⟨gb523, 3, none⟩) (Kd.R_far (p := ⟨gb523, 2, none⟩) (Kd.R_far (p := ⟨gb523, 1, none⟩) (Kd.R_far (p := ⟨gb523, 0, none⟩) (Kd.R_types HO517.out BK523.out (by decide)) (fun _ hk => hk.2) (.bool t507)) (fun _ hk => hk.2) (.bool t508)) (fun _ hk => hk.2) (.slice Ao19 t509.length co19)) (fun _ hk => hk.2) (.slice Ao20 t512.length co20)) (fun _ hk => hk.2) (.slice Ao21 t515.length co21)) (fun _ hk => hk.2) (.slice Ao22 t518.length co22)) (fun _ hk => hk.2) (.bool t521)) (fun _ hk => hk.2) (.bool t522)) (fun _ hk => ⟨hk.1.1, hk.1.2⟩)⟩
        have n7_ : Aside0 (Kd.N k35 35 ((((((((w16.setCell ⟨gb523, 0, none⟩ (.bool t507)).setCell ⟨gb523, 1, none⟩ (.bool t508)).setCell ⟨gb523, 2, none⟩ (.slice Ao19 t509.length co19)).setCell ⟨gb523, 3, none⟩ (.slice Ao20 t512.length co20)).setCell ⟨gb523, 4, none⟩ (.slice Ao21 t515.length co21)).setCell ⟨gb523, 5, none⟩ (.slice Ao22 t518.length co22)).setCell ⟨gb523, 6, none⟩ (.bool t521)).setCell ⟨gb523, 7, none⟩ (.bool t522)) w.heap.size (fun k_ => some k_ ≠ (.slice Ao14 t502.length co14 : Value).ownBlock ∧ some k_ ≠ (.slice Ao19 t509.length co19 : Value).ownBlock ∧ some k_ ≠ (.slice Ao20 t512.length co20 : Value).ownBlock ∧ some k_ ≠ (.slice Ao21 t515.length co21 : Value).ownBlock ∧ k_ ≠ gb490 ∧ k_ ≠ gb523) (.slice Ao22 t518.length co22) t518) := ⟨by (with_reducible repeat (first | apply Kd.N_alloc | apply Kd.N_drewN | apply Kd.N_drew)); exact Kd.N_mono (Kd.N_far (p := ⟨gb523, 7, none⟩) (Kd.N_far (p := ⟨gb523, 6, none⟩) (Kd.N_far (p := ⟨gb523, 5, none⟩) (Kd.N_far (p := ⟨gb523, 4, none⟩) (Kd.N_far (p := ⟨gb523, 3, none⟩) (Kd.N_far (p := ⟨gb523, 2, none⟩) (Kd.N_far (p := ⟨gb523, 1, none⟩) (Kd.N_far (p := ⟨gb523, 0, none⟩) (Kd.N_mono HO520.out (fun k_ hk => (⟨hk, hk.2⟩ : _ ∧ k_ ≠ gb523))) (fun _ hk => hk.2) (.bool t507)) (fun _ hk => hk.2) (.bool t508)) (fun _ hk => hk.2) (.slice Ao19 t509.length co19)) (fun _ hk => hk.2) (.slice Ao20 t512.length co20)) (fun _ hk => hk.2) (.slice Ao21 t515.length co21)) (fun _ hk => hk.2) (.slice Ao22 t518.length co22)) (fun _ hk => hk.2) (.bool t521)) (fun _ hk => hk.2) (.bool t522)) (fun _ hk => ⟨hk.1.1.2.2.2.1, ⟨hk.1.1.1, ⟨hk.1.1.2.1, ⟨hk.1.1.2.2.1, ⟨hk.1.1.2.2.2.2, hk.1.2⟩⟩⟩⟩⟩)⟩
        have n8_ : Aside0 (((((((((w16.setCell ⟨gb523, 0, none⟩ (.bool t507)).setCell ⟨gb523, 1, none⟩ (.bool t508)).setCell ⟨gb523, 2, none⟩ (.slice Ao19 t509.length co19)).setCell ⟨gb523, 3, none⟩ (.slice Ao20 t512.length co20)).setCell ⟨gb523, 4, none⟩ (.slice Ao21 t515.length co21)).setCell ⟨gb523, 5, none⟩ (.slice Ao22 t518.length co22)).setCell ⟨gb523, 6, none⟩ (.bool t521)).setCell ⟨gb523, 7, none⟩ (.bool t522)).heap[gb490]? = some (.cells #[.bool t491, .bool t492, .slice Ao11 t493.length co11, .slice Ao12 t496.length co12, .slice Ao13 t499.length co13, .slice Ao14 t502.length co14, .bool t505, .bool t506] 25 (0, 0))) := ⟨by (with_reducible repeat (first | refine blk_drewN ?_ _ | refine blk_drew ?_ | refine blk_alloc ?_ _)); refine blk_far ?_ NB490_523.out _; (with_reducible repeat (first | refine blk_drewN ?_ _ | refine blk_drew ?_ | refine blk_alloc ?_ _)); refine blk_far ?_ NB490_523.out _; (with_reducible repeat (first | refine blk_drewN ?_ _ | refine blk_drew ?_ | refine blk_alloc ?_ _)); refine blk_far ?_ NB490_523.out _; (with_reducible repeat (first | refine blk_drewN ?_ _ | refine blk_drew ?_ | refine blk_alloc ?_ _)); refine blk_far ?_ NB490_523.out _; (with_reducible repeat (first | refine blk_drewN ?_ _ | refine blk_drew ?_ | refine blk_alloc ?_ _)); refine blk_far ?_ NB490_523.out _; (with_reducible repeat (first | refine blk_drewN ?_ _ | refine blk_drew ?_ | refine blk_alloc ?_ _)); refine blk_far ?_ NB490_523.out _; (with_reducible repeat (first | refine blk_drewN ?_ _ | refine blk_drew ?_ | refine blk_alloc ?_ _)); refine blk_far ?_ NB490_523.out _; (with_reducible repeat (first | refine blk_drewN ?_ _ | refine blk_drew ?_ | refine blk_alloc ?_ _)); refine blk_far ?_ NB490_523.out _; (with_reducible repeat (first | refine blk_drewN ?_ _ | refine blk_drew ?_ | refine blk_alloc ?_ _)); exact BK490.out⟩
        have n9_ : Aside0 (((((((((w16.setCell ⟨gb523, 0, none⟩ (.bool t507)).setCell ⟨gb523, 1, none⟩ (.bool t508)).setCell ⟨gb523, 2, none⟩ (.slice Ao19 t509.length co19)).setCell ⟨gb523, 3, none⟩ (.slice Ao20 t512.length co20)).setCell ⟨gb523, 4, none⟩ (.slice Ao21 t515.length co21)).setCell ⟨gb523, 5, none⟩ (.slice Ao22 t518.length co22)).setCell ⟨gb523, 6, none⟩ (.bool t521)).setCell ⟨gb523, 7, none⟩ (.bool t522)).heap[gb523]? = some (.cells #[.bool t507, .bool t508, .slice Ao19 t509.length co19, .slice Ao20 t512.length co20, .slice Ao21 t515.length co21, .slice Ao22 t518.length co22, .bool t521, .bool t522] 25 (0, 0))) := ⟨by (with_reducible repeat (first | refine blk_drewN ?_ _ | refine blk_drew ?_ | refine blk_alloc ?_ _)); refine blk_put (cs := #[.bool t507, .bool t508, .slice Ao19 t509.length co19, .slice Ao20 t512.length co20, .slice Ao21 t515.length co21, .slice Ao22 t518.length co22, .bool t521, .bool false]) ?_ 7 _ rfl; (with_reducible repeat (first | refine blk_drewN ?_ _ | refine blk_drew ?_ | refine blk_alloc ?_ _)); refine blk_put (cs := #[.bool t507, .bool t508, .slice Ao19 t509.length co19, .slice Ao20 t512.length co20, .slice Ao21 t515.length co21, .slice Ao22 t518.length co22, .bool false, .bool false]) ?_ 6 _ rfl; (with_reducible repeat (first | refine blk_drewN ?_ _ | refine blk_drew ?_ | refine blk_alloc ?_ _)); refine blk_put (cs := #[.bool t507, .bool t508, .slice Ao19 t509.length co19, .slice Ao20 t512.length co20, .slice Ao21 t515.length co21, .slice none 0 0, .bool false, .bool false]) ?_ 5 _ rfl; (with_reducible repeat (first | refine blk_drewN ?_ _ | refine blk_drew ?_ | refine blk_alloc ?_ _)); refine blk_put (cs := #[.bool t507, .bool t508, .slice Ao19 t509.length co19, .slice Ao20 t512.length co20, .slice none 0 0, .slice none 0 0, .bool false, .bool false]) ?_ 4 _ rfl; (with_reducible repeat (first | refine blk_drewN ?_ _ | refine blk_drew ?_ | refine blk_alloc ?_ _)); refine blk_put (cs := #[.bool t507, .bool t508, .slice Ao19 t509.length co19, .slice none 0 0, .slice none 0 0, .slice none 0 0, .bool false, .bool false]) ?_ 3 _ rfl; (with_reducible repeat (first | refine blk_drewN ?_ _ | refine blk_drew ?_ | refine blk_alloc ?_ _)); refine blk_put (cs := #[.bool t507, .bool t508, .slice none 0 0, .slice none 0 0, .slice none 0 0, .slice none 0 0, .bool false, .bool false]) ?_ 2 _ rfl; (with_reducible repeat (first | refine blk_drewN ?_ _ | refine blk_drew ?_ | refine blk_alloc ?_ _)); refine blk_put (cs := #[.bool t507, .bool false, .slice none 0 0, .slice none 0 0, .slice none 0 0, .slice none 0 0, .bool false, .bool false]) ?_ 1 _ rfl; (with_reducible repeat (first | refine blk_drewN ?_ _ | refine blk_drew ?_ | refine blk_alloc ?_ _)); refine blk_put (cs := #[.bool false, .bool false, .slice none 0 0, .slice none 0 0, .slice none 0 0, .slice none 0 0, .bool false, .bool false]) ?_ 0 _ rfl; (with_reducible repeat (first | refine blk_drewN ?_ _ | refine blk_drew ?_ | refine blk_alloc ?_ _)); exact BK523.out⟩
        have n10_ : Aside0 (Below w.heap.size w ((((((((w16.setCell ⟨gb523, 0, none⟩ (.bool t507)).setCell ⟨gb523, 1, none⟩ (.bool t508)).setCell ⟨gb523, 2, none⟩ (.slice Ao19 t509.length co19)).setCell ⟨gb523, 3, none⟩ (.slice Ao20 t512.length co20)).setCell ⟨gb523, 4, none⟩ (.slice Ao21 t515.length co21)).setCell ⟨gb523, 5, none⟩ (.slice Ao22 t518.length co22)).setCell ⟨gb523, 6, none⟩ (.bool t521)).setCell ⟨gb523, 7, none⟩ (.bool t522))) := ⟨by repeat (first | (with_reducible first | exact HB.out | apply below_alloc | apply pw_below_drewN | apply below_drew1 | refine below_set ?_ GE490.out | refine below_set ?_ GE523.out) | exact HB.out)⟩
        (try clear HO495)
        (try clear HO498)
        (try clear HO501)
        (try clear HO504)
        (try clear HO511)
        (try clear HO514)
        (try clear HO517)
        (try clear HO520)
        (try clear BK490)
        (try clear BK523)
        (try clear HB)
        generalize ((((((((w16.setCell ⟨gb523, 0, none⟩ (.bool t507)).setCell ⟨gb523, 1, none⟩ (.bool t508)).setCell ⟨gb523, 2, none⟩ (.slice Ao19 t509.length co19)).setCell ⟨gb523, 3, none⟩ (.slice Ao20 t512.length co20)).setCell ⟨gb523, 4, none⟩ (.slice Ao21 t515.length co21)).setCell ⟨gb523, 5, none⟩ (.slice Ao22 t518.length co22)).setCell ⟨gb523, 6, none⟩ (.bool t521)).setCell ⟨gb523, 7, none⟩ (.bool t522)) = w37 at n0_ n1_ n2_ n3_ n4_ n5_ n6_ n7_ n8_ n9_ n10_ ⊢
        have HO495 := n0_
        have HO498 := n1_
        have HO501 := n2_
        have HO504 := n3_
        have HO511 := n4_
        have HO514 := n5_
        have HO517 := n6_
        have HO520 := n7_
        have BK490 := n8_
        have BK523 := n9_
        have HB := n10_
        clear n0_ n1_ n2_ n3_ n4_ n5_ n6_ n7_ n8_ n9_ n10_
        have n0_ := Aside0.mk (Kd.V_drew HO495.out)
        have n1_ := Aside0.mk (Kd.V_drew HO498.out)
        have n2_ := Aside0.mk (Kd.V_drew HO501.out)
        have n3_ := Aside0.mk (Kd.N_drew HO504.out)
        have n4_ := Aside0.mk (Kd.R_drew HO511.out)
        have n5_ := Aside0.mk (Kd.R_drew HO514.out)
        have n6_ := Aside0.mk (Kd.R_drew HO517.out)
        have n7_ := Aside0.mk (Kd.N_drew HO520.out)
        have n8_ := Aside0.mk (blk_drew BK490.out)
        have n9_ := Aside0.mk (blk_drew BK523.out)
        have n10_ := Aside0.mk (below_drew1 HB.out)
        clear HO495
        clear HO498
        clear HO501
        clear HO504
        clear HO511
        clear HO514
        clear HO517
        clear HO520
        clear BK490
        clear BK523
        clear HB
        have HO495 := n0_
        have HO498 := n1_
        have HO501 := n2_
        have HO504 := n3_
        have HO511 := n4_
        have HO514 := n5_
        have HO517 := n6_
        have HO520 := n7_
        have BK490 := n8_
        have BK523 := n9_
        have HB := n10_
        clear n0_ n1_ n2_ n3_ n4_ n5_ n6_ n7_ n8_ n9_ n10_
        refine start_ (n := 25) (S := fun w' => w'.cell? ⟨gb490, 0, none⟩ = some (.bool t491) ∧ w'.cell? ⟨gb490, 1, none⟩ = some (.bool t492) ∧ w'.cell? ⟨gb490, 2, none⟩ = some (.slice Ao11 t493.length co11) ∧ w'.cell? ⟨gb490, 3, none⟩ = some (.slice Ao12 t496.length co12) ∧ w'.cell? ⟨gb490, 4, none⟩ = some (.slice Ao13 t499.length co13) ∧ w'.cell? ⟨gb490, 5, none⟩ = some (.slice Ao14 t502.length co14) ∧ w'.cell? ⟨gb490, 6, none⟩ = some (.bool t505) ∧ w'.cell? ⟨gb490, 7, none⟩ = some (.bool t506) ∧ w'.cell? ⟨gb523, 0, none⟩ = some (.bool t507) ∧ w'.cell? ⟨gb523, 1, none⟩ = some (.bool t508) ∧ w'.cell? ⟨gb523, 2, none⟩ = some (.slice Ao19 t509.length co19) ∧ w'.cell? ⟨gb523, 3, none⟩ = some (.slice Ao20 t512.length co20) ∧ w'.cell? ⟨gb523, 4, none⟩ = some (.slice Ao21 t515.length co21) ∧ w'.cell? ⟨gb523, 5, none⟩ = some (.slice Ao22 t518.length co22) ∧ w'.cell? ⟨gb523, 6, none⟩ = some (.bool t521) ∧ w'.cell? ⟨gb523, 7, none⟩ = some (.bool t522)) (ds := []) #[false, false, false, false, false, false, false, false, false, false, false, false, false, false, false, false, false, false, false, false, false, false, false, false, false] (by kernel_rfl) rfl rfl ⟨(blk_cell BK490.out 0).trans rfl, (blk_cell BK490.out 1).trans rfl, (blk_cell BK490.out 2).trans rfl, (blk_cell BK490.out 3).trans rfl, (blk_cell BK490.out 4).trans rfl, (blk_cell BK490.out 5).trans rfl, (blk_cell BK490.out 6).trans rfl, (blk_cell BK490.out 7).trans rfl, (blk_cell BK523.out 0).trans rfl, (blk_cell BK523.out 1).trans rfl, (blk_cell BK523.out 2).trans rfl, (blk_cell BK523.out 3).trans rfl, (blk_cell BK523.out 4).trans rfl, (blk_cell BK523.out 5).trans rfl, (blk_cell BK523.out 6).trans rfl, (blk_cell BK523.out 7).trans rfl⟩ (fun hHeld => ?_); refine with_tabW boltinglaw12_ConfigCanon.tab3 boltinglaw12_ConfigCanon.bits3 (fun HT_ HW_ => ?_)
        generalize w37.drew = w38 at HO495 HO498 HO501 HO504 HO511 HO514 HO517 HO520 BK490 BK523 HB hHeld ⊢
        refine pure_ (i := 1) (N := some 13) (v := ?_) (a' := ?_) #[false, true, false, false, false, false, false, false, false, false, false, false, false, false, false, false, false, false, false, false, false, false, false, false, false] rfl rfl (any_of HT_.out (by kernel_rfl)) (fun _ _ _ h => h) (Or.inl ⟨by rfl, ?_⟩) ?_ ?_
        rotate_left
        · intro w'
          go_simp
          with_reducible rfl
        rotate_left
        · simp only [Act.put, List.setIfInBounds_toArray, List.set_cons_zero, List.set_cons_succ, i64_w, i32_w]
          rfl
        refine pure_ (i := 4) (N := some 16) (v := ?_) (a' := ?_) #[false, true, false, false, true, false, false, false, false, false, false, false, false, false, false, false, false, false, false, false, false, false, false, false, false] rfl rfl (any_of HT_.out (by kernel_rfl)) (fun _ _ _ h => h) (Or.inl ⟨by rfl, ?_⟩) ?_ ?_
        rotate_left
        · intro w'
          go_simp
          with_reducible rfl
        rotate_left
        · simp only [Act.put, List.setIfInBounds_toArray, List.set_cons_zero, List.set_cons_succ, i64_w, i32_w]
          rfl
        refine take_ (i := 0) (N := some 12) (v := ?_) (a' := ?_) #[true, true, false, false, true, false, false, false, false, false, false, false, false, false, false, false, false, false, false, false, false, false, false, false, false] rfl rfl (take_ofW HT_.out HW_.out (by kernel_rfl)) (fun _ _ _ h => h) (Or.inl ⟨by rfl, ?_⟩) hHeld ?_ ?_
        rotate_left
        · rintro w' ⟨s0, s1, s2, s3, s4, s5, s6, s7, s8, s9, s10, s11, s12, s13, s14, s15⟩
          go_simp
          with_reducible rfl
        rotate_left
        · simp only [Act.put, List.setIfInBounds_toArray, List.set_cons_zero, List.set_cons_succ, i64_w, i32_w]
          rfl
        refine take_ (i := 3) (N := some 15) (v := ?_) (a' := ?_) #[true, true, false, true, true, false, false, false, false, false, false, false, false, false, false, false, false, false, false, false, false, false, false, false, false] rfl rfl (take_ofW HT_.out HW_.out (by kernel_rfl)) (fun _ _ _ h => h) (Or.inl ⟨by rfl, ?_⟩) hHeld ?_ ?_
        rotate_left
        · rintro w' ⟨s0, s1, s2, s3, s4, s5, s6, s7, s8, s9, s10, s11, s12, s13, s14, s15⟩
          go_simp
          with_reducible rfl
        rotate_left
        · simp only [Act.put, List.setIfInBounds_toArray, List.set_cons_zero, List.set_cons_succ, i64_w, i32_w]
          rfl
        refine one_ (i := 2) (N := some 14) #[true, true, true, true, true, false, false, false, false, false, false, false, false, false, false, false, false, false, false, false, false, false, false, false, false] rfl rfl (one_of HT_.out (by kernel_rfl)) (by decide) (fun K hK => ?_)
        refine goes_ Try.func13 (by kernel_rfl) rfl #[.agg #[.bool t491, .bool t492, .slice Ao11 t493.length co11, .slice Ao12 t496.length co12, .slice Ao13 t499.length co13, .slice Ao14 t502.length co14, .bool t505, .bool t506], .string a1] (by rfl) rfl rfl (by (try simp only [List.map_toArray, List.map_cons, List.map_nil]); first | done | rfl | (simp only [List.length_drop, List.length_take]; rfl)) ?_
        with_reducible refine (config_Element.calls k t491 t492 _ _ t493 _ _ t496 _ _ t499 _ _ t502 t505 t506 a1 t524 _ ?side1 ?side2 ?side3 ?side4 ?side5 ?side6 ?side7 ?side8 A23.out).mono ?_
        (case side1 => repeat (first | exact (Kd.V_reads' HO495.out).2.2 | (with_reducible refine Kd.C_alloc ?_ _) | (with_reducible refine Kd.C_drewN ?_ _) | (with_reducible refine Kd.C_drew ?_)))
        (case side2 => exact (Kd.V_reads' HO495.out).2.1)
        (case side3 => repeat (first | exact (Kd.V_reads' HO498.out).2.2 | (with_reducible refine Kd.C_alloc ?_ _) | (with_reducible refine Kd.C_drewN ?_ _) | (with_reducible refine Kd.C_drew ?_)))
        (case side4 => exact (Kd.V_reads' HO498.out).2.1)
        (case side5 => repeat (first | exact (Kd.V_reads' HO501.out).2.2 | (with_reducible refine Kd.C_alloc ?_ _) | (with_reducible refine Kd.C_drewN ?_ _) | (with_reducible refine Kd.C_drew ?_)))
        (case side6 => exact (Kd.V_reads' HO501.out).2.1)
        (case side7 => repeat (first | exact (Kd.N_reads' HO504.out).2.2 | (with_reducible refine Kd.C_alloc ?_ _) | (with_reducible refine Kd.C_drewN ?_ _) | (with_reducible refine Kd.C_drew ?_)))
        (case side8 => exact (Kd.N_reads' HO504.out).2.1)
        rintro e w39 ⟨rfl, hb⟩
        refine ⟨_, rfl, ?_⟩
        have n0_ := Aside0.mk (Kd.V_below (by (with_reducible repeat (first | apply Kd.V_alloc | apply Kd.V_drewN | apply Kd.V_drew)); exact HO495.out) hb)
        have n1_ := Aside0.mk (Kd.V_below (by (with_reducible repeat (first | apply Kd.V_alloc | apply Kd.V_drewN | apply Kd.V_drew)); exact HO498.out) hb)
        have n2_ := Aside0.mk (Kd.V_below (by (with_reducible repeat (first | apply Kd.V_alloc | apply Kd.V_drewN | apply Kd.V_drew)); exact HO501.out) hb)
        have n3_ := Aside0.mk (Kd.N_below (by (with_reducible repeat (first | apply Kd.N_alloc | apply Kd.N_drewN | apply Kd.N_drew)); exact HO504.out) hb)
        have n4_ := Aside0.mk (Kd.R_below (by (with_reducible repeat (first | apply Kd.R_alloc | apply Kd.R_drewN | apply Kd.R_drew)); exact HO511.out) hb)
        have n5_ := Aside0.mk (Kd.R_below (by (with_reducible repeat (first | apply Kd.R_alloc | apply Kd.R_drewN | apply Kd.R_drew)); exact HO514.out) hb)
        have n6_ := Aside0.mk (Kd.R_below (by (with_reducible repeat (first | apply Kd.R_alloc | apply Kd.R_drewN | apply Kd.R_drew)); exact HO517.out) hb)
        have n7_ := Aside0.mk (Kd.N_below (by (with_reducible repeat (first | apply Kd.N_alloc | apply Kd.N_drewN | apply Kd.N_drew)); exact HO520.out) hb)
        have n8_ := Aside0.mk (blk_below (g := gb490) (o := .cells #[.bool t491, .bool t492, .slice Ao11 t493.length co11, .slice Ao12 t496.length co12, .slice Ao13 t499.length co13, .slice Ao14 t502.length co14, .bool t505, .bool t506] 25 (0, 0)) (by (with_reducible repeat (first | refine blk_drewN ?_ _ | refine blk_drew ?_ | refine blk_alloc ?_ _)); exact BK490.out) hb)
        have n9_ := Aside0.mk (blk_below (g := gb523) (o := .cells #[.bool t507, .bool t508, .slice Ao19 t509.length co19, .slice Ao20 t512.length co20, .slice Ao21 t515.length co21, .slice Ao22 t518.length co22, .bool t521, .bool t522] 25 (0, 0)) (by (with_reducible repeat (first | refine blk_drewN ?_ _ | refine blk_drew ?_ | refine blk_alloc ?_ _)); exact BK523.out) hb)
        have n10_ := Aside0.mk (below_step (by repeat (first | (with_reducible first | exact HB.out | apply below_alloc | apply pw_below_drewN | apply below_drew1 | refine below_set ?_ GE490.out | refine below_set ?_ GE523.out) | exact HB.out)) hb)
        clear HO495
        clear HO498
        clear HO501
        clear HO504
        clear HO511
        clear HO514
        clear HO517
        clear HO520
        clear BK490
        clear BK523
        clear HB
        have HO495 := n0_
        have HO498 := n1_
        have HO501 := n2_
        have HO504 := n3_
        have HO511 := n4_
        have HO514 := n5_
        have HO517 := n6_
        have HO520 := n7_
        have BK490 := n8_
        have BK523 := n9_
        have HB := n10_
        clear n0_ n1_ n2_ n3_ n4_ n5_ n6_ n7_ n8_ n9_ n10_
        (try clear hb)
        (try clear hb2)
        (try clear hk)
        (try clear hi)
        refine hK.out _ _ ⟨(blk_cell BK490.out 0).trans rfl, (blk_cell BK490.out 1).trans rfl, (blk_cell BK490.out 2).trans rfl, (blk_cell BK490.out 3).trans rfl, (blk_cell BK490.out 4).trans rfl, (blk_cell BK490.out 5).trans rfl, (blk_cell BK490.out 6).trans rfl, (blk_cell BK490.out 7).trans rfl, (blk_cell BK523.out 0).trans rfl, (blk_cell BK523.out 1).trans rfl, (blk_cell BK523.out 2).trans rfl, (blk_cell BK523.out 3).trans rfl, (blk_cell BK523.out 4).trans rfl, (blk_cell BK523.out 5).trans rfl, (blk_cell BK523.out 6).trans rfl, (blk_cell BK523.out 7).trans rfl⟩ (fun hHeld => ?_)
        clear hK K
        refine norm_ (a' := ?_) ?_ ?_
        rotate_left
        · show Act.put _ (some 14) _ = _
          simp only [Act.put, List.setIfInBounds_toArray, List.set_cons_zero, List.set_cons_succ, i64_w, i32_w]
          rfl
        refine one_ (i := 5) (N := some 17) #[true, true, true, true, true, true, false, false, false, false, false, false, false, false, false, false, false, false, false, false, false, false, false, false, false] rfl rfl (one_of HT_.out (by kernel_rfl)) (by decide) (fun K hK => ?_)
        refine goes_ Try.func13 (by kernel_rfl) rfl #[.agg #[.bool t507, .bool t508, .slice Ao19 t509.length co19, .slice Ao20 t512.length co20, .slice Ao21 t515.length co21, .slice Ao22 t518.length co22, .bool t521, .bool t522], .string a1] (by rfl) rfl rfl (by (try simp only [List.map_toArray, List.map_cons, List.map_nil]); first | done | rfl | (simp only [List.length_drop, List.length_take]; rfl)) ?_
        with_reducible refine (config_Element.calls k t507 t508 _ _ t509 _ _ t512 _ _ t515 _ _ t518 t521 t522 a1 t525 _ ?side1 ?side2 ?side3 ?side4 ?side5 ?side6 ?side7 ?side8 A24.out).mono ?_
        (case side1 => repeat (first | exact (Kd.R_reads' HO511.out).2.2 | (with_reducible refine Kd.C_alloc ?_ _) | (with_reducible refine Kd.C_drewN ?_ _) | (with_reducible refine Kd.C_drew ?_)))
        (case side2 => exact (Kd.R_reads' HO511.out).2.1)
        (case side3 => repeat (first | exact (Kd.R_reads' HO514.out).2.2 | (with_reducible refine Kd.C_alloc ?_ _) | (with_reducible refine Kd.C_drewN ?_ _) | (with_reducible refine Kd.C_drew ?_)))
        (case side4 => exact (Kd.R_reads' HO514.out).2.1)
        (case side5 => repeat (first | exact (Kd.R_reads' HO517.out).2.2 | (with_reducible refine Kd.C_alloc ?_ _) | (with_reducible refine Kd.C_drewN ?_ _) | (with_reducible refine Kd.C_drew ?_)))
        (case side6 => exact (Kd.R_reads' HO517.out).2.1)
        (case side7 => repeat (first | exact (Kd.N_reads' HO520.out).2.2 | (with_reducible refine Kd.C_alloc ?_ _) | (with_reducible refine Kd.C_drewN ?_ _) | (with_reducible refine Kd.C_drew ?_)))
        (case side8 => exact (Kd.N_reads' HO520.out).2.1)
        rintro e w40 ⟨rfl, hb⟩
        refine ⟨_, rfl, ?_⟩
        have n0_ := Aside0.mk (Kd.V_below (by (with_reducible repeat (first | apply Kd.V_alloc | apply Kd.V_drewN | apply Kd.V_drew)); exact HO495.out) hb)
        have n1_ := Aside0.mk (Kd.V_below (by (with_reducible repeat (first | apply Kd.V_alloc | apply Kd.V_drewN | apply Kd.V_drew)); exact HO498.out) hb)
        have n2_ := Aside0.mk (Kd.V_below (by (with_reducible repeat (first | apply Kd.V_alloc | apply Kd.V_drewN | apply Kd.V_drew)); exact HO501.out) hb)
        have n3_ := Aside0.mk (Kd.N_below (by (with_reducible repeat (first | apply Kd.N_alloc | apply Kd.N_drewN | apply Kd.N_drew)); exact HO504.out) hb)
        have n4_ := Aside0.mk (Kd.R_below (by (with_reducible repeat (first | apply Kd.R_alloc | apply Kd.R_drewN | apply Kd.R_drew)); exact HO511.out) hb)
        have n5_ := Aside0.mk (Kd.R_below (by (with_reducible repeat (first | apply Kd.R_alloc | apply Kd.R_drewN | apply Kd.R_drew)); exact HO514.out) hb)
        have n6_ := Aside0.mk (Kd.R_below (by (with_reducible repeat (first | apply Kd.R_alloc | apply Kd.R_drewN | apply Kd.R_drew)); exact HO517.out) hb)
        have n7_ := Aside0.mk (Kd.N_below (by (with_reducible repeat (first | apply Kd.N_alloc | apply Kd.N_drewN | apply Kd.N_drew)); exact HO520.out) hb)
        have n8_ := Aside0.mk (blk_below (g := gb490) (o := .cells #[.bool t491, .bool t492, .slice Ao11 t493.length co11, .slice Ao12 t496.length co12, .slice Ao13 t499.length co13, .slice Ao14 t502.length co14, .bool t505, .bool t506] 25 (0, 0)) (by (with_reducible repeat (first | refine blk_drewN ?_ _ | refine blk_drew ?_ | refine blk_alloc ?_ _)); exact BK490.out) hb)
        have n9_ := Aside0.mk (blk_below (g := gb523) (o := .cells #[.bool t507, .bool t508, .slice Ao19 t509.length co19, .slice Ao20 t512.length co20, .slice Ao21 t515.length co21, .slice Ao22 t518.length co22, .bool t521, .bool t522] 25 (0, 0)) (by (with_reducible repeat (first | refine blk_drewN ?_ _ | refine blk_drew ?_ | refine blk_alloc ?_ _)); exact BK523.out) hb)
        have n10_ := Aside0.mk (below_step (by repeat (first | (with_reducible first | exact HB.out | apply below_alloc | apply pw_below_drewN | apply below_drew1 | refine below_set ?_ GE490.out | refine below_set ?_ GE523.out) | exact HB.out)) hb)
        clear HO495
        clear HO498
        clear HO501
        clear HO504
        clear HO511
        clear HO514
        clear HO517
        clear HO520
        clear BK490
        clear BK523
        clear HB
        have HO495 := n0_
        have HO498 := n1_
        have HO501 := n2_
        have HO504 := n3_
        have HO511 := n4_
        have HO514 := n5_
        have HO517 := n6_
        have HO520 := n7_
        have BK490 := n8_
        have BK523 := n9_
        have HB := n10_
        clear n0_ n1_ n2_ n3_ n4_ n5_ n6_ n7_ n8_ n9_ n10_
        (try clear hb)
        (try clear hb2)
        (try clear hk)
        (try clear hi)
        refine hK.out _ _ ⟨(blk_cell BK490.out 0).trans rfl, (blk_cell BK490.out 1).trans rfl, (blk_cell BK490.out 2).trans rfl, (blk_cell BK490.out 3).trans rfl, (blk_cell BK490.out 4).trans rfl, (blk_cell BK490.out 5).trans rfl, (blk_cell BK490.out 6).trans rfl, (blk_cell BK490.out 7).trans rfl, (blk_cell BK523.out 0).trans rfl, (blk_cell BK523.out 1).trans rfl, (blk_cell BK523.out 2).trans rfl, (blk_cell BK523.out 3).trans rfl, (blk_cell BK523.out 4).trans rfl, (blk_cell BK523.out 5).trans rfl, (blk_cell BK523.out 6).trans rfl, (blk_cell BK523.out 7).trans rfl⟩ (fun hHeld => ?_)
        clear hK K
        refine norm_ (a' := ?_) ?_ ?_
        rotate_left
        · show Act.put _ (some 17) _ = _
          simp only [Act.put, List.setIfInBounds_toArray, List.set_cons_zero, List.set_cons_succ, i64_w, i32_w]
          rfl
        refine pure_ (i := 6) (N := some 18) (v := ?_) (a' := ?_) #[true, true, true, true, true, true, true, false, false, false, false, false, false, false, false, false, false, false, false, false, false, false, false, false, false] rfl rfl (any_of HT_.out (by kernel_rfl)) (fun _ _ _ h => h) (Or.inl ⟨by rfl, ?_⟩) ?_ ?_
        rotate_left
        · intro w'
          go_simp
          with_reducible rfl
        rotate_left
        · simp only [Act.put, List.setIfInBounds_toArray, List.set_cons_zero, List.set_cons_succ, i64_w, i32_w]
          rfl
        refine pure_ (i := 7) (N := some 19) (v := ?_) (a' := ?_) #[true, true, true, true, true, true, true, true, false, false, false, false, false, false, false, false, false, false, false, false, false, false, false, false, false] rfl rfl (any_of HT_.out (by kernel_rfl)) (fun _ _ _ h => h) (Or.inl ⟨by rfl, ?_⟩) ?_ ?_
        rotate_left
        · intro w'
          go_simp
          with_reducible rfl
        rotate_left
        · simp only [Act.put, List.setIfInBounds_toArray, List.set_cons_zero, List.set_cons_succ, i64_w, i32_w]
          rfl
        refine pure_ (i := 9) (N := some 21) (v := ?_) (a' := ?_) #[true, true, true, true, true, true, true, true, false, true, false, false, false, false, false, false, false, false, false, false, false, false, false, false, false] rfl rfl (any_of HT_.out (by kernel_rfl)) (fun _ _ _ h => h) (Or.inl ⟨by rfl, ?_⟩) ?_ ?_
        rotate_left
        · intro w'
          go_simp
          with_reducible rfl
        rotate_left
        · simp only [Act.put, List.setIfInBounds_toArray, List.set_cons_zero, List.set_cons_succ, i64_w, i32_w]
          rfl
        refine pure_ (i := 10) (N := some 22) (v := ?_) (a' := ?_) #[true, true, true, true, true, true, true, true, false, true, true, false, false, false, false, false, false, false, false, false, false, false, false, false, false] rfl rfl (any_of HT_.out (by kernel_rfl)) (fun _ _ _ h => h) (Or.inl ⟨by rfl, ?_⟩) ?_ ?_
        rotate_left
        · intro w'
          go_simp
          with_reducible rfl
        rotate_left
        · simp only [Act.put, List.setIfInBounds_toArray, List.set_cons_zero, List.set_cons_succ, i64_w, i32_w]
          rfl
        refine pure_ (i := 13) (N := some 25) (v := ?_) (a' := ?_) #[true, true, true, true, true, true, true, true, false, true, true, false, false, true, false, false, false, false, false, false, false, false, false, false, false] rfl rfl (any_of HT_.out (by kernel_rfl)) (fun _ _ _ h => h) (Or.inl ⟨by rfl, ?_⟩) ?_ ?_
        rotate_left
        · intro w'
          go_simp
          with_reducible rfl
        rotate_left
        · simp only [Act.put, List.setIfInBounds_toArray, List.set_cons_zero, List.set_cons_succ, i64_w, i32_w]
          rfl
        refine pure_ (i := 14) (N := some 26) (v := ?_) (a' := ?_) #[true, true, true, true, true, true, true, true, false, true, true, false, false, true, true, false, false, false, false, false, false, false, false, false, false] rfl rfl (any_of HT_.out (by kernel_rfl)) (fun _ _ _ h => h) (Or.inl ⟨by rfl, ?_⟩) ?_ ?_
        rotate_left
        · intro w'
          go_simp
          with_reducible rfl
        rotate_left
        · simp only [Act.put, List.setIfInBounds_toArray, List.set_cons_zero, List.set_cons_succ, i64_w, i32_w]
          rfl
        refine take_ (i := 8) (N := some 20) (v := ?_) (a' := ?_) #[true, true, true, true, true, true, true, true, true, true, true, false, false, true, true, false, false, false, false, false, false, false, false, false, false] rfl rfl (take_ofW HT_.out HW_.out (by kernel_rfl)) (fun _ _ _ h => h) (Or.inl ⟨by rfl, ?_⟩) hHeld ?_ ?_
        rotate_left
        · rintro w' ⟨s0, s1, s2, s3, s4, s5, s6, s7, s8, s9, s10, s11, s12, s13, s14, s15⟩
          go_simp
          with_reducible rfl
        rotate_left
        · simp only [Act.put, List.setIfInBounds_toArray, List.set_cons_zero, List.set_cons_succ, i64_w, i32_w]
          rfl
        refine take_ (i := 12) (N := some 24) (v := ?_) (a' := ?_) #[true, true, true, true, true, true, true, true, true, true, true, false, true, true, true, false, false, false, false, false, false, false, false, false, false] rfl rfl (take_ofW HT_.out HW_.out (by kernel_rfl)) (fun _ _ _ h => h) (Or.inl ⟨by rfl, ?_⟩) hHeld ?_ ?_
        rotate_left
        · rintro w' ⟨s0, s1, s2, s3, s4, s5, s6, s7, s8, s9, s10, s11, s12, s13, s14, s15⟩
          go_simp
          with_reducible rfl
        rotate_left
        · simp only [Act.put, List.setIfInBounds_toArray, List.set_cons_zero, List.set_cons_succ, i64_w, i32_w]
          rfl
        refine one_ (i := 11) (N := some 23) #[true, true, true, true, true, true, true, true, true, true, true, true, true, true, true, false, false, false, false, false, false, false, false, false, false] rfl rfl (one_of HT_.out (by kernel_rfl)) (by decide) (fun K hK => ?_)
        refine goes_ Try.func15 (by kernel_rfl) rfl #[.agg #[.bool t491, .bool t492, .slice Ao11 t493.length co11, .slice Ao12 t496.length co12, .slice Ao13 t499.length co13, .slice Ao14 t502.length co14, .bool t505, .bool t506], .string a1, .string a2] (by rfl) rfl rfl (by (try simp only [List.map_toArray, List.map_cons, List.map_nil]); first | done | rfl | (simp only [List.length_drop, List.length_take]; rfl)) ?_
        with_reducible refine (config_Attr.calls t491 t492 _ _ t493 _ _ t496 _ _ t499 _ _ t502 t505 t506 a1 a2 t526 _ ?side1 ?side2 ?side3 ?side4 ?side5 ?side6 ?side7 ?side8 A26.out).mono ?_
        (case side1 => repeat (first | exact (Kd.V_reads' HO495.out).2.2 | (with_reducible refine Kd.C_alloc ?_ _) | (with_reducible refine Kd.C_drewN ?_ _) | (with_reducible refine Kd.C_drew ?_)))
        (case side2 => exact (Kd.V_reads' HO495.out).2.1)
        (case side3 => repeat (first | exact (Kd.V_reads' HO498.out).2.2 | (with_reducible refine Kd.C_alloc ?_ _) | (with_reducible refine Kd.C_drewN ?_ _) | (with_reducible refine Kd.C_drew ?_)))
        (case side4 => exact (Kd.V_reads' HO498.out).2.1)
        (case side5 => repeat (first | exact (Kd.V_reads' HO501.out).2.2 | (with_reducible refine Kd.C_alloc ?_ _) | (with_reducible refine Kd.C_drewN ?_ _) | (with_reducible refine Kd.C_drew ?_)))
        (case side6 => exact (Kd.V_reads' HO501.out).2.1)
        (case side7 => repeat (first | exact (Kd.N_reads' HO504.out).2.2 | (with_reducible refine Kd.C_alloc ?_ _) | (with_reducible refine Kd.C_drewN ?_ _) | (with_reducible refine Kd.C_drew ?_)))
        (case side8 => exact (Kd.N_reads' HO504.out).2.1)
        rintro e w41 ⟨rfl, hb⟩
        refine ⟨_, rfl, ?_⟩
        have n0_ := Aside0.mk (Kd.V_below (by (with_reducible repeat (first | apply Kd.V_alloc | apply Kd.V_drewN | apply Kd.V_drew)); exact HO495.out) hb)
        have n1_ := Aside0.mk (Kd.V_below (by (with_reducible repeat (first | apply Kd.V_alloc | apply Kd.V_drewN | apply Kd.V_drew)); exact HO498.out) hb)
        have n2_ := Aside0.mk (Kd.V_below (by (with_reducible repeat (first | apply Kd.V_alloc | apply Kd.V_drewN | apply Kd.V_drew)); exact HO501.out) hb)
        have n3_ := Aside0.mk (Kd.N_below (by (with_reducible repeat (first | apply Kd.N_alloc | apply Kd.N_drewN | apply Kd.N_drew)); exact HO504.out) hb)
        have n4_ := Aside0.mk (Kd.R_below (by (with_reducible repeat (first | apply Kd.R_alloc | apply Kd.R_drewN | apply Kd.R_drew)); exact HO511.out) hb)
        have n5_ := Aside0.mk (Kd.R_below (by (with_reducible repeat (first | apply Kd.R_alloc | apply Kd.R_drewN | apply Kd.R_drew)); exact HO514.out) hb)
        have n6_ := Aside0.mk (Kd.R_below (by (with_reducible repeat (first | apply Kd.R_alloc | apply Kd.R_drewN | apply Kd.R_drew)); exact HO517.out) hb)
        have n7_ := Aside0.mk (Kd.N_below (by (with_reducible repeat (first | apply Kd.N_alloc | apply Kd.N_drewN | apply Kd.N_drew)); exact HO520.out) hb)
        have n8_ := Aside0.mk (blk_below (g := gb490) (o := .cells #[.bool t491, .bool t492, .slice Ao11 t493.length co11, .slice Ao12 t496.length co12, .slice Ao13 t499.length co13, .slice Ao14 t502.length co14, .bool t505, .bool t506] 25 (0, 0)) (by (with_reducible repeat (first | refine blk_drewN ?_ _ | refine blk_drew ?_ | refine blk_alloc ?_ _)); exact BK490.out) hb)
        have n9_ := Aside0.mk (blk_below (g := gb523) (o := .cells #[.bool t507, .bool t508, .slice Ao19 t509.length co19, .slice Ao20 t512.length co20, .slice Ao21 t515.length co21, .slice Ao22 t518.length co22, .bool t521, .bool t522] 25 (0, 0)) (by (with_reducible repeat (first | refine blk_drewN ?_ _ | refine blk_drew ?_ | refine blk_alloc ?_ _)); exact BK523.out) hb)
        have n10_ := Aside0.mk (below_step (by repeat (first | (with_reducible first | exact HB.out | apply below_alloc | apply pw_below_drewN | apply below_drew1 | refine below_set ?_ GE490.out | refine below_set ?_ GE523.out) | exact HB.out)) hb)
        clear HO495
        clear HO498
        clear HO501
        clear HO504
        clear HO511
        clear HO514
        clear HO517
        clear HO520
        clear BK490
        clear BK523
        clear HB
        have HO495 := n0_
        have HO498 := n1_
        have HO501 := n2_
        have HO504 := n3_
        have HO511 := n4_
        have HO514 := n5_
        have HO517 := n6_
        have HO520 := n7_
        have BK490 := n8_
        have BK523 := n9_
        have HB := n10_
        clear n0_ n1_ n2_ n3_ n4_ n5_ n6_ n7_ n8_ n9_ n10_
        (try clear hb)
        (try clear hb2)
        (try clear hk)
        (try clear hi)
        refine hK.out _ _ ⟨(blk_cell BK490.out 0).trans rfl, (blk_cell BK490.out 1).trans rfl, (blk_cell BK490.out 2).trans rfl, (blk_cell BK490.out 3).trans rfl, (blk_cell BK490.out 4).trans rfl, (blk_cell BK490.out 5).trans rfl, (blk_cell BK490.out 6).trans rfl, (blk_cell BK490.out 7).trans rfl, (blk_cell BK523.out 0).trans rfl, (blk_cell BK523.out 1).trans rfl, (blk_cell BK523.out 2).trans rfl, (blk_cell BK523.out 3).trans rfl, (blk_cell BK523.out 4).trans rfl, (blk_cell BK523.out 5).trans rfl, (blk_cell BK523.out 6).trans rfl, (blk_cell BK523.out 7).trans rfl⟩ (fun hHeld => ?_)
        clear hK K
        refine norm_ (a' := ?_) ?_ ?_
        rotate_left
        · show Act.put _ (some 23) _ = _
          simp only [Act.put, List.setIfInBounds_toArray, List.set_cons_zero, List.set_cons_succ, i64_w, i32_w]
          rfl
        refine one_ (i := 15) (N := some 27) #[true, true, true, true, true, true, true, true, true, true, true, true, true, true, true, true, false, false, false, false, false, false, false, false, false] rfl rfl (one_of HT_.out (by kernel_rfl)) (by decide) (fun K hK => ?_)
        refine goes_ Try.func15 (by kernel_rfl) rfl #[.agg #[.bool t507, .bool t508, .slice Ao19 t509.length co19, .slice Ao20 t512.length co20, .slice Ao21 t515.length co21, .slice Ao22 t518.length co22, .bool t521, .bool t522], .string a1, .string a2] (by rfl) rfl rfl (by (try simp only [List.map_toArray, List.map_cons, List.map_nil]); first | done | rfl | (simp only [List.length_drop, List.length_take]; rfl)) ?_
        with_reducible refine (config_Attr.calls t507 t508 _ _ t509 _ _ t512 _ _ t515 _ _ t518 t521 t522 a1 a2 t527 _ ?side1 ?side2 ?side3 ?side4 ?side5 ?side6 ?side7 ?side8 A27.out).mono ?_
        (case side1 => repeat (first | exact (Kd.R_reads' HO511.out).2.2 | (with_reducible refine Kd.C_alloc ?_ _) | (with_reducible refine Kd.C_drewN ?_ _) | (with_reducible refine Kd.C_drew ?_)))
        (case side2 => exact (Kd.R_reads' HO511.out).2.1)
        (case side3 => repeat (first | exact (Kd.R_reads' HO514.out).2.2 | (with_reducible refine Kd.C_alloc ?_ _) | (with_reducible refine Kd.C_drewN ?_ _) | (with_reducible refine Kd.C_drew ?_)))
        (case side4 => exact (Kd.R_reads' HO514.out).2.1)
        (case side5 => repeat (first | exact (Kd.R_reads' HO517.out).2.2 | (with_reducible refine Kd.C_alloc ?_ _) | (with_reducible refine Kd.C_drewN ?_ _) | (with_reducible refine Kd.C_drew ?_)))
        (case side6 => exact (Kd.R_reads' HO517.out).2.1)
        (case side7 => repeat (first | exact (Kd.N_reads' HO520.out).2.2 | (with_reducible refine Kd.C_alloc ?_ _) | (with_reducible refine Kd.C_drewN ?_ _) | (with_reducible refine Kd.C_drew ?_)))
        (case side8 => exact (Kd.N_reads' HO520.out).2.1)
        rintro e w42 ⟨rfl, hb⟩
        refine ⟨_, rfl, ?_⟩
        have n0_ := Aside0.mk (Kd.V_below (by (with_reducible repeat (first | apply Kd.V_alloc | apply Kd.V_drewN | apply Kd.V_drew)); exact HO495.out) hb)
        have n1_ := Aside0.mk (Kd.V_below (by (with_reducible repeat (first | apply Kd.V_alloc | apply Kd.V_drewN | apply Kd.V_drew)); exact HO498.out) hb)
        have n2_ := Aside0.mk (Kd.V_below (by (with_reducible repeat (first | apply Kd.V_alloc | apply Kd.V_drewN | apply Kd.V_drew)); exact HO501.out) hb)
        have n3_ := Aside0.mk (Kd.N_below (by (with_reducible repeat (first | apply Kd.N_alloc | apply Kd.N_drewN | apply Kd.N_drew)); exact HO504.out) hb)
        have n4_ := Aside0.mk (Kd.R_below (by (with_reducible repeat (first | apply Kd.R_alloc | apply Kd.R_drewN | apply Kd.R_drew)); exact HO511.out) hb)
        have n5_ := Aside0.mk (Kd.R_below (by (with_reducible repeat (first | apply Kd.R_alloc | apply Kd.R_drewN | apply Kd.R_drew)); exact HO514.out) hb)
        have n6_ := Aside0.mk (Kd.R_below (by (with_reducible repeat (first | apply Kd.R_alloc | apply Kd.R_drewN | apply Kd.R_drew)); exact HO517.out) hb)
        have n7_ := Aside0.mk (Kd.N_below (by (with_reducible repeat (first | apply Kd.N_alloc | apply Kd.N_drewN | apply Kd.N_drew)); exact HO520.out) hb)
        have n8_ := Aside0.mk (blk_below (g := gb490) (o := .cells #[.bool t491, .bool t492, .slice Ao11 t493.length co11, .slice Ao12 t496.length co12, .slice Ao13 t499.length co13, .slice Ao14 t502.length co14, .bool t505, .bool t506] 25 (0, 0)) (by (with_reducible repeat (first | refine blk_drewN ?_ _ | refine blk_drew ?_ | refine blk_alloc ?_ _)); exact BK490.out) hb)
        have n9_ := Aside0.mk (blk_below (g := gb523) (o := .cells #[.bool t507, .bool t508, .slice Ao19 t509.length co19, .slice Ao20 t512.length co20, .slice Ao21 t515.length co21, .slice Ao22 t518.length co22, .bool t521, .bool t522] 25 (0, 0)) (by (with_reducible repeat (first | refine blk_drewN ?_ _ | refine blk_drew ?_ | refine blk_alloc ?_ _)); exact BK523.out) hb)
        have n10_ := Aside0.mk (below_step (by repeat (first | (with_reducible first | exact HB.out | apply below_alloc | apply pw_below_drewN | apply below_drew1 | refine below_set ?_ GE490.out | refine below_set ?_ GE523.out) | exact HB.out)) hb)
        clear HO495
        clear HO498
        clear HO501
        clear HO504
        clear HO511
        clear HO514
        clear HO517
        clear HO520
        clear BK490
        clear BK523
        clear HB
        have HO495 := n0_
        have HO498 := n1_
        have HO501 := n2_
        have HO504 := n3_
        have HO511 := n4_
        have HO514 := n5_
        have HO517 := n6_
        have HO520 := n7_
        have BK490 := n8_
        have BK523 := n9_
        have HB := n10_
        clear n0_ n1_ n2_ n3_ n4_ n5_ n6_ n7_ n8_ n9_ n10_
        (try clear hb)
        (try clear hb2)
        (try clear hk)
        (try clear hi)
        refine hK.out _ _ ⟨(blk_cell BK490.out 0).trans rfl, (blk_cell BK490.out 1).trans rfl, (blk_cell BK490.out 2).trans rfl, (blk_cell BK490.out 3).trans rfl, (blk_cell BK490.out 4).trans rfl, (blk_cell BK490.out 5).trans rfl, (blk_cell BK490.out 6).trans rfl, (blk_cell BK490.out 7).trans rfl, (blk_cell BK523.out 0).trans rfl, (blk_cell BK523.out 1).trans rfl, (blk_cell BK523.out 2).trans rfl, (blk_cell BK523.out 3).trans rfl, (blk_cell BK523.out 4).trans rfl, (blk_cell BK523.out 5).trans rfl, (blk_cell BK523.out 6).trans rfl, (blk_cell BK523.out 7).trans rfl⟩ (fun hHeld => ?_)
        clear hK K
        refine norm_ (a' := ?_) ?_ ?_
        rotate_left
        · show Act.put _ (some 27) _ = _
          simp only [Act.put, List.setIfInBounds_toArray, List.set_cons_zero, List.set_cons_succ, i64_w, i32_w]
          rfl
        refine pure_ (i := 16) (N := some 28) (v := ?_) (a' := ?_) #[true, true, true, true, true, true, true, true, true, true, true, true, true, true, true, true, true, false, false, false, false, false, false, false, false] rfl rfl (any_of HT_.out (by kernel_rfl)) (fun _ _ _ h => h) (Or.inl ⟨by rfl, ?_⟩) ?_ ?_
        rotate_left
        · intro w'
          go_simp
          with_reducible rfl
        rotate_left
        · simp only [Act.put, List.setIfInBounds_toArray, List.set_cons_zero, List.set_cons_succ, i64_w, i32_w]
          rfl
        refine pure_ (i := 17) (N := some 29) (v := ?_) (a' := ?_) #[true, true, true, true, true, true, true, true, true, true, true, true, true, true, true, true, true, true, false, false, false, false, false, false, false] rfl rfl (any_of HT_.out (by kernel_rfl)) (fun _ _ _ h => h) (Or.inl ⟨by rfl, ?_⟩) ?_ ?_
        rotate_left
        · intro w'
          go_simp
          with_reducible rfl
        rotate_left
        · simp only [Act.put, List.setIfInBounds_toArray, List.set_cons_zero, List.set_cons_succ, i64_w, i32_w]
          rfl
        refine pure_ (i := 18) (N := some 30) (v := ?_) (a' := ?_) #[true, true, true, true, true, true, true, true, true, true, true, true, true, true, true, true, true, true, true, false, false, false, false, false, false] rfl rfl (any_of HT_.out (by kernel_rfl)) (fun _ _ _ h => h) (Or.inl ⟨by rfl, ?_⟩) ?_ ?_
        rotate_left
        · intro w'
          go_simp
          with_reducible rfl
        rotate_left
        · simp only [Act.put, List.setIfInBounds_toArray, List.set_cons_zero, List.set_cons_succ, i64_w, i32_w]
          rfl
        refine take_ (i := 19) (N := some 31) (v := ?_) (a' := ?_) #[true, true, true, true, true, true, true, true, true, true, true, true, true, true, true, true, true, true, true, true, false, false, false, false, false] rfl rfl (take_ofW HT_.out HW_.out (by kernel_rfl)) (fun _ _ _ h => h) (Or.inl ⟨by rfl, ?_⟩) hHeld ?_ ?_
        rotate_left
        · rintro w' ⟨s0, s1, s2, s3, s4, s5, s6, s7, s8, s9, s10, s11, s12, s13, s14, s15⟩
          go_simp
          with_reducible rfl
        rotate_left
        · simp only [Act.put, List.setIfInBounds_toArray, List.set_cons_zero, List.set_cons_succ, i64_w, i32_w]
          rfl
        refine take_ (i := 21) (N := some 33) (v := ?_) (a' := ?_) #[true, true, true, true, true, true, true, true, true, true, true, true, true, true, true, true, true, true, true, true, false, true, false, false, false] rfl rfl (take_ofW HT_.out HW_.out (by kernel_rfl)) (fun _ _ _ h => h) (Or.inl ⟨by rfl, ?_⟩) hHeld ?_ ?_
        rotate_left
        · rintro w' ⟨s0, s1, s2, s3, s4, s5, s6, s7, s8, s9, s10, s11, s12, s13, s14, s15⟩
          go_simp
          with_reducible rfl
        rotate_left
        · simp only [Act.put, List.setIfInBounds_toArray, List.set_cons_zero, List.set_cons_succ, i64_w, i32_w]
          rfl
        refine one_ (i := 20) (N := some 32) #[true, true, true, true, true, true, true, true, true, true, true, true, true, true, true, true, true, true, true, true, true, true, false, false, false] rfl rfl (one_of HT_.out (by kernel_rfl)) (by decide) (fun K hK => ?_)
        refine goes_ Try.func23 (by kernel_rfl) rfl #[.agg #[.bool t507, .bool t508, .slice Ao19 t509.length co19, .slice Ao20 t512.length co20, .slice Ao21 t515.length co21, .slice Ao22 t518.length co22, .bool t521, .bool t522]] (by rfl) rfl rfl (by (try simp only [List.map_toArray, List.map_cons, List.map_nil]); first | done | rfl | (simp only [List.length_drop, List.length_take]; rfl)) ?_
        with_reducible refine (config_Canon.calls t507 t508 _ _ t509 _ _ t512 _ _ t515 _ _ t518 t521 t522 t528 t529 t530 t533 t536 t539 t542 t543 _ ?side1 ?side2 ?side3 ?side4 ?side5 ?side6 ?side7 ?side8 A35.out).mono ?_
        (case side1 => repeat (first | exact (Kd.R_reads' HO511.out).2.2 | (with_reducible refine Kd.C_alloc ?_ _) | (with_reducible refine Kd.C_drewN ?_ _) | (with_reducible refine Kd.C_drew ?_)))
        (case side2 => exact (Kd.R_reads' HO511.out).2.1)
        (case side3 => repeat (first | exact (Kd.R_reads' HO514.out).2.2 | (with_reducible refine Kd.C_alloc ?_ _) | (with_reducible refine Kd.C_drewN ?_ _) | (with_reducible refine Kd.C_drew ?_)))
        (case side4 => exact (Kd.R_reads' HO514.out).2.1)
        (case side5 => repeat (first | exact (Kd.R_reads' HO517.out).2.2 | (with_reducible refine Kd.C_alloc ?_ _) | (with_reducible refine Kd.C_drewN ?_ _) | (with_reducible refine Kd.C_drew ?_)))
        (case side6 => exact (Kd.R_reads' HO517.out).2.1)
        (case side7 => repeat (first | exact (Kd.N_reads' HO520.out).2.2 | (with_reducible refine Kd.C_alloc ?_ _) | (with_reducible refine Kd.C_drewN ?_ _) | (with_reducible refine Kd.C_drew ?_)))
        (case side8 => exact (Kd.N_reads' HO520.out).2.1)
        rintro e w43 ⟨v531, v534, v537, v540, rfl, ho0, ho1, ho2, ho3, hb⟩
        refine ⟨_, rfl, ?_⟩
        have n0_ := Aside0.mk (Kd.V_mono (Kd.V_told (Kd.V_told (Kd.V_told (Kd.V_told (Kd.V_old (by (with_reducible repeat (first | apply Kd.V_alloc | apply Kd.V_drewN | apply Kd.V_drew)); exact HO495.out) hb) (Kd.R_base ho0)) (Kd.R_base ho1)) (Kd.R_base ho2)) (Kd.R_base ho3)) (fun _ h_ => h_.1))
        have n1_ := Aside0.mk (Kd.V_mono (Kd.V_told (Kd.V_told (Kd.V_told (Kd.V_told (Kd.V_old (by (with_reducible repeat (first | apply Kd.V_alloc | apply Kd.V_drewN | apply Kd.V_drew)); exact HO498.out) hb) (Kd.R_base ho0)) (Kd.R_base ho1)) (Kd.R_base ho2)) (Kd.R_base ho3)) (fun _ h_ => h_.1))
        have n2_ := Aside0.mk (Kd.V_mono (Kd.V_told (Kd.V_told (Kd.V_told (Kd.V_told (Kd.V_old (by (with_reducible repeat (first | apply Kd.V_alloc | apply Kd.V_drewN | apply Kd.V_drew)); exact HO501.out) hb) (Kd.R_base ho0)) (Kd.R_base ho1)) (Kd.R_base ho2)) (Kd.R_base ho3)) (fun _ h_ => h_.1))
        have n3_ := Aside0.mk (Kd.N_mono (Kd.N_told (Kd.N_told (Kd.N_told (Kd.N_told (Kd.N_old (by (with_reducible repeat (first | apply Kd.N_alloc | apply Kd.N_drewN | apply Kd.N_drew)); exact HO504.out) hb) (Kd.R_base ho0)) (Kd.R_base ho1)) (Kd.R_base ho2)) (Kd.R_base ho3)) (fun _ h_ => h_.1))
        have n4_ := Aside0.mk (Kd.R_mono (Kd.R_told (Kd.R_told (Kd.R_told (Kd.R_old (by (with_reducible repeat (first | apply Kd.R_alloc | apply Kd.R_drewN | apply Kd.R_drew)); exact HO511.out) hb) (Kd.R_base ho0)) (Kd.R_base ho1)) (Kd.R_base ho2)) (fun _ h_ => h_.1))
        have n5_ := Aside0.mk (Kd.R_mono (Kd.R_told (Kd.R_told (Kd.R_told (Kd.R_old (by (with_reducible repeat (first | apply Kd.R_alloc | apply Kd.R_drewN | apply Kd.R_drew)); exact HO514.out) hb) (Kd.R_base ho0)) (Kd.R_base ho1)) (Kd.R_base ho2)) (fun _ h_ => h_.1))
        have n6_ := Aside0.mk (Kd.R_mono (Kd.R_told (Kd.R_told (Kd.R_told (Kd.R_old (by (with_reducible repeat (first | apply Kd.R_alloc | apply Kd.R_drewN | apply Kd.R_drew)); exact HO517.out) hb) (Kd.R_base ho0)) (Kd.R_base ho1)) (Kd.R_base ho2)) (fun _ h_ => h_.1))
        have n7_ := Aside0.mk (Kd.N_mono (Kd.N_told (Kd.N_told (Kd.N_told (Kd.N_told (Kd.N_old (by (with_reducible repeat (first | apply Kd.N_alloc | apply Kd.N_drewN | apply Kd.N_drew)); exact HO520.out) hb) (Kd.R_base ho0)) (Kd.R_base ho1)) (Kd.R_base ho2)) (Kd.R_base ho3)) (fun _ h_ => h_.1))
        have n8_ := Aside0.mk (Kd.R_lower (Kd.R_new' (Kd.R_new' (Kd.R_new' ho0 (Kd.R_lt (by (with_reducible repeat (first | apply Kd.R_alloc | apply Kd.R_drewN | apply Kd.R_drew)); exact HO511.out))) (Kd.R_lt (by (with_reducible repeat (first | apply Kd.R_alloc | apply Kd.R_drewN | apply Kd.R_drew)); exact HO514.out))) (Kd.R_lt (by (with_reducible repeat (first | apply Kd.R_alloc | apply Kd.R_drewN | apply Kd.R_drew)); exact HO517.out))) (below_size (by repeat (first | (with_reducible first | exact HB.out | apply below_alloc | apply pw_below_drewN | apply below_drew1 | refine below_set ?_ GE490.out | refine below_set ?_ GE523.out) | exact HB.out))))
        have n9_ := Aside0.mk (Kd.R_lower (Kd.R_new' (Kd.R_new' (Kd.R_new' ho1 (Kd.R_lt (by (with_reducible repeat (first | apply Kd.R_alloc | apply Kd.R_drewN | apply Kd.R_drew)); exact HO511.out))) (Kd.R_lt (by (with_reducible repeat (first | apply Kd.R_alloc | apply Kd.R_drewN | apply Kd.R_drew)); exact HO514.out))) (Kd.R_lt (by (with_reducible repeat (first | apply Kd.R_alloc | apply Kd.R_drewN | apply Kd.R_drew)); exact HO517.out))) (below_size (by repeat (first | (with_reducible first | exact HB.out | apply below_alloc | apply pw_below_drewN | apply below_drew1 | refine below_set ?_ GE490.out | refine below_set ?_ GE523.out) | exact HB.out))))
        have n10_ := Aside0.mk (Kd.R_lower (Kd.R_new' (Kd.R_new' (Kd.R_new' ho2 (Kd.R_lt (by (with_reducible repeat (first | apply Kd.R_alloc | apply Kd.R_drewN | apply Kd.R_drew)); exact HO511.out))) (Kd.R_lt (by (with_reducible repeat (first | apply Kd.R_alloc | apply Kd.R_drewN | apply Kd.R_drew)); exact HO514.out))) (Kd.R_lt (by (with_reducible repeat (first | apply Kd.R_alloc | apply Kd.R_drewN | apply Kd.R_drew)); exact HO517.out))) (below_size (by repeat (first | (with_reducible first | exact HB.out | apply below_alloc | apply pw_below_drewN | apply below_drew1 | refine below_set ?_ GE490.out | refine below_set ?_ GE523.out) | exact HB.out))))
        have n11_ := Aside0.mk (Kd.N_lower (Kd.N_mono (ok' := fun k_ => some k_ ≠ (v531 : Value).ownBlock ∧ some k_ ≠ (v534 : Value).ownBlock ∧ some k_ ≠ (v537 : Value).ownBlock ∧ some k_ ≠ (.slice Ao14 t502.length co14 : Value).ownBlock ∧ some k_ ≠ (.slice Ao19 t509.length co19 : Value).ownBlock ∧ some k_ ≠ (.slice Ao20 t512.length co20 : Value).ownBlock ∧ some k_ ≠ (.slice Ao21 t515.length co21 : Value).ownBlock ∧ some k_ ≠ (.slice Ao22 t518.length co22 : Value).ownBlock ∧ k_ ≠ gb490 ∧ k_ ≠ gb523) (Kd.R_N (Kd.R_bound ho3)) (fun k_ hk_ => ⟨hk_.1.1, hk_.1.2.1, hk_.1.2.2, (Kd.fresh' (Kd.N_lt (by (with_reducible repeat (first | apply Kd.N_alloc | apply Kd.N_drewN | apply Kd.N_drew)); exact HO504.out)) k_ hk_.2.1), (Kd.fresh' (Kd.R_lt (by (with_reducible repeat (first | apply Kd.R_alloc | apply Kd.R_drewN | apply Kd.R_drew)); exact HO511.out)) k_ hk_.2.1), (Kd.fresh' (Kd.R_lt (by (with_reducible repeat (first | apply Kd.R_alloc | apply Kd.R_drewN | apply Kd.R_drew)); exact HO514.out)) k_ hk_.2.1), (Kd.fresh' (Kd.R_lt (by (with_reducible repeat (first | apply Kd.R_alloc | apply Kd.R_drewN | apply Kd.R_drew)); exact HO517.out)) k_ hk_.2.1), (Kd.fresh' (Kd.N_lt (by (with_reducible repeat (first | apply Kd.N_alloc | apply Kd.N_drewN | apply Kd.N_drew)); exact HO520.out)) k_ hk_.2.1), (Kd.freshB (g := gb490) (o := .cells #[.bool t491, .bool t492, .slice Ao11 t493.length co11, .slice Ao12 t496.length co12, .slice Ao13 t499.length co13, .slice Ao14 t502.length co14, .bool t505, .bool t506] 25 (0, 0)) (by (with_reducible repeat (first | refine blk_drewN ?_ _ | refine blk_drew ?_ | refine blk_alloc ?_ _)); exact BK490.out) k_ hk_.2.1), (Kd.freshB (g := gb523) (o := .cells #[.bool t507, .bool t508, .slice Ao19 t509.length co19, .slice Ao20 t512.length co20, .slice Ao21 t515.length co21, .slice Ao22 t518.length co22, .bool t521, .bool t522] 25 (0, 0)) (by (with_reducible repeat (first | refine blk_drewN ?_ _ | refine blk_drew ?_ | refine blk_alloc ?_ _)); exact BK523.out) k_ hk_.2.1)⟩)) (below_size (by repeat (first | (with_reducible first | exact HB.out | apply below_alloc | apply pw_below_drewN | apply below_drew1 | refine below_set ?_ GE490.out | refine below_set ?_ GE523.out) | exact HB.out))))
        have n12_ := Aside0.mk (blk_below (g := gb490) (o := .cells #[.bool t491, .bool t492, .slice Ao11 t493.length co11, .slice Ao12 t496.length co12, .slice Ao13 t499.length co13, .slice Ao14 t502.length co14, .bool t505, .bool t506] 25 (0, 0)) (by (with_reducible repeat (first | refine blk_drewN ?_ _ | refine blk_drew ?_ | refine blk_alloc ?_ _)); exact BK490.out) hb)
        have n13_ := Aside0.mk (blk_below (g := gb523) (o := .cells #[.bool t507, .bool t508, .slice Ao19 t509.length co19, .slice Ao20 t512.length co20, .slice Ao21 t515.length co21, .slice Ao22 t518.length co22, .bool t521, .bool t522] 25 (0, 0)) (by (with_reducible repeat (first | refine blk_drewN ?_ _ | refine blk_drew ?_ | refine blk_alloc ?_ _)); exact BK523.out) hb)
        have n14_ := Aside0.mk (below_step (by repeat (first | (with_reducible first | exact HB.out | apply below_alloc | apply pw_below_drewN | apply below_drew1 | refine below_set ?_ GE490.out | refine below_set ?_ GE523.out) | exact HB.out)) hb)
        clear HO495
        clear HO498
        clear HO501
        clear HO504
        clear HO511
        clear HO514
        clear HO517
        clear HO520
        clear BK490
        clear BK523
        clear HB
        have HO495 := n0_
        have HO498 := n1_
        have HO501 := n2_
        have HO504 := n3_
        have HO511 := n4_
        have HO514 := n5_
        have HO517 := n6_
        have HO520 := n7_
        have HO532 := n8_
        have HO535 := n9_
        have HO538 := n10_
        have HO541 := n11_
        have BK490 := n12_
        have BK523 := n13_
        have HB := n14_
        clear n0_ n1_ n2_ n3_ n4_ n5_ n6_ n7_ n8_ n9_ n10_ n11_ n12_ n13_ n14_
        (try clear hb)
        (try clear hb2)
        (try clear hk)
        (try clear hi)
        (try clear ho0)
        (try clear ho1)
        (try clear ho2)
        (try clear ho3)
        obtain ⟨Ao44, co44, eo44⟩ := Kd.R_slice HO532.out
        (first | subst eo44 | (injection eo44 with f1_ f2_ f3_; have f4_ := f1_.symm; have f5_ := f3_.symm; clear f1_ f2_ f3_; subst f4_; subst f5_))
        obtain ⟨Ao45, co45, eo45⟩ := Kd.R_slice HO535.out
        (first | subst eo45 | (injection eo45 with f1_ f2_ f3_; have f4_ := f1_.symm; have f5_ := f3_.symm; clear f1_ f2_ f3_; subst f4_; subst f5_))
        obtain ⟨Ao46, co46, eo46⟩ := Kd.R_slice HO538.out
        (first | subst eo46 | (injection eo46 with f1_ f2_ f3_; have f4_ := f1_.symm; have f5_ := f3_.symm; clear f1_ f2_ f3_; subst f4_; subst f5_))
        obtain ⟨Ao47, co47, eo47⟩ := Kd.N_slice HO541.out
        (first | subst eo47 | (injection eo47 with f1_ f2_ f3_; have f4_ := f1_.symm; have f5_ := f3_.symm; clear f1_ f2_ f3_; subst f4_; subst f5_))
        refine hK.out _ _ ⟨(blk_cell BK490.out 0).trans rfl, (blk_cell BK490.out 1).trans rfl, (blk_cell BK490.out 2).trans rfl, (blk_cell BK490.out 3).trans rfl, (blk_cell BK490.out 4).trans rfl, (blk_cell BK490.out 5).trans rfl, (blk_cell BK490.out 6).trans rfl, (blk_cell BK490.out 7).trans rfl, (blk_cell BK523.out 0).trans rfl, (blk_cell BK523.out 1).trans rfl, (blk_cell BK523.out 2).trans rfl, (blk_cell BK523.out 3).trans rfl, (blk_cell BK523.out 4).trans rfl, (blk_cell BK523.out 5).trans rfl, (blk_cell BK523.out 6).trans rfl, (blk_cell BK523.out 7).trans rfl⟩ (fun hHeld => ?_)
        clear hK K
        refine norm_ (a' := ?_) ?_ ?_
        rotate_left
        · show Act.put _ (some 32) _ = _
          simp only [Act.put, List.setIfInBounds_toArray, List.set_cons_zero, List.set_cons_succ, i64_w, i32_w]
          rfl
        refine one_ (i := 22) (N := some 34) #[true, true, true, true, true, true, true, true, true, true, true, true, true, true, true, true, true, true, true, true, true, true, true, false, false] rfl rfl (one_of HT_.out (by kernel_rfl)) (by decide) (fun K hK => ?_)
        refine goes_ Try.func24 (by kernel_rfl) rfl #[.agg #[.bool t528, .bool t529, .slice Ao44 t530.length co44, .slice Ao45 t533.length co45, .slice Ao46 t536.length co46, .slice Ao47 t539.length co47, .bool t542, .bool t543], .agg #[.bool t507, .bool t508, .slice Ao19 t509.length co19, .slice Ao20 t512.length co20, .slice Ao21 t515.length co21, .slice Ao22 t518.length co22, .bool t521, .bool t522]] (by rfl) rfl rfl (by (try simp only [List.map_toArray, List.map_cons, List.map_nil]); first | done | rfl | (simp only [List.length_drop, List.length_take]; rfl)) ?_
        with_reducible refine (boltingref12_Same.calls k t528 t529 _ _ t530 _ _ t533 _ _ t536 _ _ t539 t542 t543 t507 t508 _ _ t509 _ _ t512 _ _ t515 _ _ t518 t521 t522 t544 _ ?side1 ?side2 ?side3 ?side4 ?side5 ?side6 ?side7 ?side8 ?side9 ?side10 ?side11 ?side12 ?side13 ?side14 ?side15 ?side16 A36.out).mono ?_
        (case side1 => repeat (first | exact (Kd.R_reads' HO532.out).2.2 | (with_reducible refine Kd.C_alloc ?_ _) | (with_reducible refine Kd.C_drewN ?_ _) | (with_reducible refine Kd.C_drew ?_)))
        (case side2 => exact (Kd.R_reads' HO532.out).2.1)
        (case side3 => repeat (first | exact (Kd.R_reads' HO535.out).2.2 | (with_reducible refine Kd.C_alloc ?_ _) | (with_reducible refine Kd.C_drewN ?_ _) | (with_reducible refine Kd.C_drew ?_)))
        (case side4 => exact (Kd.R_reads' HO535.out).2.1)
        (case side5 => repeat (first | exact (Kd.R_reads' HO538.out).2.2 | (with_reducible refine Kd.C_alloc ?_ _) | (with_reducible refine Kd.C_drewN ?_ _) | (with_reducible refine Kd.C_drew ?_)))
        (case side6 => exact (Kd.R_reads' HO538.out).2.1)
        (case side7 => repeat (first | exact (Kd.N_reads' HO541.out).2.2 | (with_reducible refine Kd.C_alloc ?_ _) | (with_reducible refine Kd.C_drewN ?_ _) | (with_reducible refine Kd.C_drew ?_)))
        (case side8 => exact (Kd.N_reads' HO541.out).2.1)
        (case side9 => repeat (first | exact (Kd.R_reads' HO511.out).2.2 | (with_reducible refine Kd.C_alloc ?_ _) | (with_reducible refine Kd.C_drewN ?_ _) | (with_reducible refine Kd.C_drew ?_)))
        (case side10 => exact (Kd.R_reads' HO511.out).2.1)
        (case side11 => repeat (first | exact (Kd.R_reads' HO514.out).2.2 | (with_reducible refine Kd.C_alloc ?_ _) | (with_reducible refine Kd.C_drewN ?_ _) | (with_reducible refine Kd.C_drew ?_)))
        (case side12 => exact (Kd.R_reads' HO514.out).2.1)
        (case side13 => repeat (first | exact (Kd.R_reads' HO517.out).2.2 | (with_reducible refine Kd.C_alloc ?_ _) | (with_reducible refine Kd.C_drewN ?_ _) | (with_reducible refine Kd.C_drew ?_)))
        (case side14 => exact (Kd.R_reads' HO517.out).2.1)
        (case side15 => repeat (first | exact (Kd.N_reads' HO520.out).2.2 | (with_reducible refine Kd.C_alloc ?_ _) | (with_reducible refine Kd.C_drewN ?_ _) | (with_reducible refine Kd.C_drew ?_)))
        (case side16 => exact (Kd.N_reads' HO520.out).2.1)
        rintro e w48 ⟨rfl, hb⟩
        refine ⟨_, rfl, ?_⟩
        have n0_ := Aside0.mk (Kd.V_below (by (with_reducible repeat (first | apply Kd.V_alloc | apply Kd.V_drewN | apply Kd.V_drew)); exact HO495.out) hb)
        have n1_ := Aside0.mk (Kd.V_below (by (with_reducible repeat (first | apply Kd.V_alloc | apply Kd.V_drewN | apply Kd.V_drew)); exact HO498.out) hb)
        have n2_ := Aside0.mk (Kd.V_below (by (with_reducible repeat (first | apply Kd.V_alloc | apply Kd.V_drewN | apply Kd.V_drew)); exact HO501.out) hb)
        have n3_ := Aside0.mk (Kd.N_below (by (with_reducible repeat (first | apply Kd.N_alloc | apply Kd.N_drewN | apply Kd.N_drew)); exact HO504.out) hb)
        have n4_ := Aside0.mk (Kd.R_below (by (with_reducible repeat (first | apply Kd.R_alloc | apply Kd.R_drewN | apply Kd.R_drew)); exact HO511.out) hb)
        have n5_ := Aside0.mk (Kd.R_below (by (with_reducible repeat (first | apply Kd.R_alloc | apply Kd.R_drewN | apply Kd.R_drew)); exact HO514.out) hb)
        have n6_ := Aside0.mk (Kd.R_below (by (with_reducible repeat (first | apply Kd.R_alloc | apply Kd.R_drewN | apply Kd.R_drew)); exact HO517.out) hb)
        have n7_ := Aside0.mk (Kd.N_below (by (with_reducible repeat (first | apply Kd.N_alloc | apply Kd.N_drewN | apply Kd.N_drew)); exact HO520.out) hb)
        have n8_ := Aside0.mk (Kd.R_below (by (with_reducible repeat (first | apply Kd.R_alloc | apply Kd.R_drewN | apply Kd.R_drew)); exact HO532.out) hb)
        have n9_ := Aside0.mk (Kd.R_below (by (with_reducible repeat (first | apply Kd.R_alloc | apply Kd.R_drewN | apply Kd.R_drew)); exact HO535.out) hb)
        have n10_ := Aside0.mk (Kd.R_below (by (with_reducible repeat (first | apply Kd.R_alloc | apply Kd.R_drewN | apply Kd.R_drew)); exact HO538.out) hb)
        have n11_ := Aside0.mk (Kd.N_below (by (with_reducible repeat (first | apply Kd.N_alloc | apply Kd.N_drewN | apply Kd.N_drew)); exact HO541.out) hb)
        have n12_ := Aside0.mk (blk_below (g := gb490) (o := .cells #[.bool t491, .bool t492, .slice Ao11 t493.length co11, .slice Ao12 t496.length co12, .slice Ao13 t499.length co13, .slice Ao14 t502.length co14, .bool t505, .bool t506] 25 (0, 0)) (by (with_reducible repeat (first | refine blk_drewN ?_ _ | refine blk_drew ?_ | refine blk_alloc ?_ _)); exact BK490.out) hb)
        have n13_ := Aside0.mk (blk_below (g := gb523) (o := .cells #[.bool t507, .bool t508, .slice Ao19 t509.length co19, .slice Ao20 t512.length co20, .slice Ao21 t515.length co21, .slice Ao22 t518.length co22, .bool t521, .bool t522] 25 (0, 0)) (by (with_reducible repeat (first | refine blk_drewN ?_ _ | refine blk_drew ?_ | refine blk_alloc ?_ _)); exact BK523.out) hb)
        have n14_ := Aside0.mk (below_step (by repeat (first | (with_reducible first | exact HB.out | apply below_alloc | apply pw_below_drewN | apply below_drew1 | refine below_set ?_ GE490.out | refine below_set ?_ GE523.out) | exact HB.out)) hb)
        clear HO495
        clear HO498
        clear HO501
        clear HO504
        clear HO511
        clear HO514
        clear HO517
        clear HO520
        clear HO532
        clear HO535
        clear HO538
        clear HO541
        clear BK490
        clear BK523
        clear HB
        have HO495 := n0_
        have HO498 := n1_
        have HO501 := n2_
        have HO504 := n3_
        have HO511 := n4_
        have HO514 := n5_
        have HO517 := n6_
        have HO520 := n7_
        have HO532 := n8_
        have HO535 := n9_
        have HO538 := n10_
        have HO541 := n11_
        have BK490 := n12_
        have BK523 := n13_
        have HB := n14_
        clear n0_ n1_ n2_ n3_ n4_ n5_ n6_ n7_ n8_ n9_ n10_ n11_ n12_ n13_ n14_
        (try clear hb)
        (try clear hb2)
        (try clear hk)
        (try clear hi)
        refine hK.out _ _ ⟨(blk_cell BK490.out 0).trans rfl, (blk_cell BK490.out 1).trans rfl, (blk_cell BK490.out 2).trans rfl, (blk_cell BK490.out 3).trans rfl, (blk_cell BK490.out 4).trans rfl, (blk_cell BK490.out 5).trans rfl, (blk_cell BK490.out 6).trans rfl, (blk_cell BK490.out 7).trans rfl, (blk_cell BK523.out 0).trans rfl, (blk_cell BK523.out 1).trans rfl, (blk_cell BK523.out 2).trans rfl, (blk_cell BK523.out 3).trans rfl, (blk_cell BK523.out 4).trans rfl, (blk_cell BK523.out 5).trans rfl, (blk_cell BK523.out 6).trans rfl, (blk_cell BK523.out 7).trans rfl⟩ (fun hHeld => ?_)
        clear hK K
        refine norm_ (a' := ?_) ?_ ?_
        rotate_left
        · show Act.put _ (some 34) _ = _
          simp only [Act.put, List.setIfInBounds_toArray, List.set_cons_zero, List.set_cons_succ, i64_w, i32_w]
          rfl
        refine pure_ (i := 23) (N := some 35) (v := ?_) (a' := ?_) #[true, true, true, true, true, true, true, true, true, true, true, true, true, true, true, true, true, true, true, true, true, true, true, true, false] rfl rfl (any_of HT_.out (by kernel_rfl)) (fun _ _ _ h => h) (Or.inl ⟨by rfl, ?_⟩) ?_ ?_
        rotate_left
        · intro w'
          go_simp
          with_reducible rfl
        rotate_left
        · simp only [Act.put, List.setIfInBounds_toArray, List.set_cons_zero, List.set_cons_succ, i64_w, i32_w]
          rfl
        refine pure_ (i := 24) (N := some 36) (v := ?_) (a' := ?_) #[true, true, true, true, true, true, true, true, true, true, true, true, true, true, true, true, true, true, true, true, true, true, true, true, true] rfl rfl (any_of HT_.out (by kernel_rfl)) (fun _ _ _ h => h) (Or.inl ⟨by rfl, ?_⟩) ?_ ?_
        rotate_left
        · intro w'
          go_simp
          with_reducible rfl
        rotate_left
        · simp only [Act.put, List.setIfInBounds_toArray, List.set_cons_zero, List.set_cons_succ, i64_w, i32_w]
          rfl
        refine done_ (done_of HT_.out (by kernel_rfl)) ?_
        try go_wp2
        go_meet
        case rel => exact ⟨_, (!t544), (by first | rfl | (simp; done) | (simp [*]; done)), H', ⟨by first | omega | exact Nat.le_refl _⟩, ⟨by (with_reducible repeat (first | apply Kd.V_alloc | apply Kd.V_drewN | apply Kd.V_drew)); exact Kd.V_mono HO495.out (fun _ hk => ⟨hk.1.1.1.1.1, ⟨hk.1.1.1.1.2.1, ⟨hk.1.1.1.1.2.2.1, ⟨hk.1.1.1.1.2.2.2.1, ⟨hk.1.1.1.1.2.2.2.2.1, ⟨hk.1.1.1.1.2.2.2.2.2.1, hk.1.1.1.1.2.2.2.2.2.2⟩⟩⟩⟩⟩⟩)⟩, ⟨by (with_reducible repeat (first | apply Kd.V_alloc | apply Kd.V_drewN | apply Kd.V_drew)); exact Kd.V_mono HO498.out (fun _ hk => ⟨hk.1.1.1.1.1, ⟨hk.1.1.1.1.2.1, ⟨hk.1.1.1.1.2.2.1, ⟨hk.1.1.1.1.2.2.2.1, ⟨hk.1.1.1.1.2.2.2.2.1, ⟨hk.1.1.1.1.2.2.2.2.2.1, hk.1.1.1.1.2.2.2.2.2.2⟩⟩⟩⟩⟩⟩)⟩, ⟨by (with_reducible repeat (first | apply Kd.V_alloc | apply Kd.V_drewN | apply Kd.V_drew)); exact Kd.V_mono HO501.out (fun _ hk => ⟨hk.1.1.1.1.1, ⟨hk.1.1.1.1.2.1, ⟨hk.1.1.1.1.2.2.1, ⟨hk.1.1.1.1.2.2.2.1, ⟨hk.1.1.1.1.2.2.2.2.1, ⟨hk.1.1.1.1.2.2.2.2.2.1, hk.1.1.1.1.2.2.2.2.2.2⟩⟩⟩⟩⟩⟩)⟩, ⟨by (with_reducible repeat (first | apply Kd.N_alloc | apply Kd.N_drewN | apply Kd.N_drew)); exact Kd.N_mono HO504.out (fun _ hk => ⟨hk.1.1.1.1.1, ⟨hk.1.1.1.1.2.1, ⟨hk.1.1.1.1.2.2.1, ⟨hk.1.1.1.1.2.2.2.1, ⟨hk.1.1.1.1.2.2.2.2.1, hk.1.1.1.1.2.2.2.2.2⟩⟩⟩⟩⟩)⟩, ⟨by (with_reducible repeat (first | apply Kd.R_alloc | apply Kd.R_drewN | apply Kd.R_drew)); exact Kd.R_mono HO511.out (fun _ hk => ⟨hk.1.1.1.1, hk.1.1.1.2⟩)⟩, ⟨by (with_reducible repeat (first | apply Kd.R_alloc | apply Kd.R_drewN | apply Kd.R_drew)); exact Kd.R_mono HO514.out (fun _ hk => ⟨hk.1.1.1.1, hk.1.1.1.2⟩)⟩, ⟨by (with_reducible repeat (first | apply Kd.R_alloc | apply Kd.R_drewN | apply Kd.R_drew)); exact Kd.R_mono HO517.out (fun _ hk => ⟨hk.1.1.1.1, hk.1.1.1.2⟩)⟩, ⟨by (with_reducible repeat (first | apply Kd.N_alloc | apply Kd.N_drewN | apply Kd.N_drew)); exact Kd.N_mono HO520.out (fun _ hk => ⟨hk.1.1.1.1.1, ⟨hk.1.1.1.1.2.1, ⟨hk.1.1.1.1.2.2.1, ⟨hk.1.1.1.1.2.2.2.1, ⟨hk.1.1.1.1.2.2.2.2.1, hk.1.1.1.1.2.2.2.2.2⟩⟩⟩⟩⟩)⟩, ⟨by (with_reducible repeat (first | refine blk_drewN ?_ _ | refine blk_drew ?_ | refine blk_alloc ?_ _)); exact BK490.out⟩, ⟨by (with_reducible repeat (first | refine blk_drewN ?_ _ | refine blk_drew ?_ | refine blk_alloc ?_ _)); exact BK523.out⟩, ⟨by repeat (first | (with_reducible first | exact HB.out | apply below_alloc | apply pw_below_drewN | apply below_drew1 | refine below_set ?_ GE490.out | refine below_set ?_ GE523.out) | exact HB.out)⟩⟩
    · rw [if_neg c25] at H
      have c25b0 : (t524 == t525) = false := beq_eq_false_iff_ne.mpr c25
      have c25b1 : (t524 != t525) = true := bne_iff_ne.mpr c25
      (first | rw [c25b0] | (simp only [i64_w, i32_w]; rw [c25b0]) | skip)
      have H' := Aside0.mk H
      clear H
      try go_wp2
      have n0_ : Aside0 (Kd.V Kd.string 9 ((((((((w16.setCell ⟨gb523, 0, none⟩ (.bool t507)).setCell ⟨gb523, 1, none⟩ (.bool t508)).setCell ⟨gb523, 2, none⟩ (.slice Ao19 t509.length co19)).setCell ⟨gb523, 3, none⟩ (.slice Ao20 t512.length co20)).setCell ⟨gb523, 4, none⟩ (.slice Ao21 t515.length co21)).setCell ⟨gb523, 5, none⟩ (.slice Ao22 t518.length co22)).setCell ⟨gb523, 6, none⟩ (.bool t521)).setCell ⟨gb523, 7, none⟩ (.bool t522)) w.heap.size (fun k_ => some k_ ≠ (.slice Ao14 t502.length co14 : Value).ownBlock ∧ some k_ ≠ (.slice Ao19 t509.length co19 : Value).ownBlock ∧ some k_ ≠ (.slice Ao20 t512.length co20 : Value).ownBlock ∧ some k_ ≠ (.slice Ao21 t515.length co21 : Value).ownBlock ∧ some k_ ≠ (.slice Ao22 t518.length co22 : Value).ownBlock ∧ k_ ≠ gb490 ∧ k_ ≠ gb523) (.slice Ao11 t493.length co11) t493) := ⟨by (with_reducible repeat (first | apply Kd.V_alloc | apply Kd.V_drewN | apply Kd.V_drew)); exact Kd.V_mono (Kd.V_far (p := ⟨gb523, 7, none⟩) (Kd.V_far (p := ⟨gb523, 6, none⟩) (Kd.V_far (p := ⟨gb523, 5, none⟩) (Kd.V_far (p := ⟨gb523, 4, none⟩) (Kd.V_far (p := ⟨gb523, 3, none⟩) (Kd.V_far (p := ⟨gb523, 2, none⟩) (Kd.V_far (p := ⟨gb523, 1, none⟩) (Kd.V_far (p := ⟨gb523, 0, none⟩) (Kd.V_mono HO495.out (fun k_ hk => (⟨hk, hk.2⟩ : _ ∧ k_ ≠ gb523))) (fun _ hk => hk.2) (.bool t507)) (fun _ hk => hk.2) (.bool t508)) (fun _ hk => hk.2) (.slice Ao19 t509.length co19)) (fun _ hk => hk.2) (.slice Ao20 t512.length co20)) (fun _ hk => hk.2) (.slice Ao21 t515.length co21)) (fun _ hk => hk.2) (.slice Ao22 t518.length co22)) (fun _ hk => hk.2) (.bool t521)) (fun _ hk => hk.2) (.bool t522)) (fun _ hk => ⟨hk.1.1.1.1.1.1.1, ⟨hk.1.1.1.1.1.2, ⟨hk.1.1.1.1.2, ⟨hk.1.1.1.2, ⟨hk.1.1.2, ⟨hk.1.1.1.1.1.1.2, hk.1.2⟩⟩⟩⟩⟩⟩)⟩
      have n1_ : Aside0 (Kd.V Kd.string 9 ((((((((w16.setCell ⟨gb523, 0, none⟩ (.bool t507)).setCell ⟨gb523, 1, none⟩ (.bool t508)).setCell ⟨gb523, 2, none⟩ (.slice Ao19 t509.length co19)).setCell ⟨gb523, 3, none⟩ (.slice Ao20 t512.length co20)).setCell ⟨gb523, 4, none⟩ (.slice Ao21 t515.length co21)).setCell ⟨gb523, 5, none⟩ (.slice Ao22 t518.length co22)).setCell ⟨gb523, 6, none⟩ (.bool t521)).setCell ⟨gb523, 7, none⟩ (.bool t522)) w.heap.size (fun k_ => some k_ ≠ (.slice Ao14 t502.length co14 : Value).ownBlock ∧ some k_ ≠ (.slice Ao19 t509.length co19 : Value).ownBlock ∧ some k_ ≠ (.slice Ao20 t512.length co20 : Value).ownBlock ∧ some k_ ≠ (.slice Ao21 t515.length co21 : Value).ownBlock ∧ some k_ ≠ (.slice Ao22 t518.length co22 : Value).ownBlock ∧ k_ ≠ gb490 ∧ k_ ≠ gb523) (.slice Ao12 t496.length co12) t496) := ⟨by (with_reducible repeat (first | apply Kd.V_alloc | apply Kd.V_drewN | apply Kd.V_drew)); exact Kd.V_mono (Kd.V_far (p := ⟨gb523, 7, none⟩) (Kd.V_far (p := ⟨gb523, 6, none⟩) (Kd.V_far (p := ⟨gb523, 5, none⟩) (Kd.V_far (p := ⟨gb523, 4, none⟩) (Kd.V_far (p := ⟨gb523, 3, none⟩) (Kd.V_far (p := ⟨gb523, 2, none⟩) (Kd.V_far (p := ⟨gb523, 1, none⟩) (Kd.V_far (p := ⟨gb523, 0, none⟩) (Kd.V_mono HO498.out (fun k_ hk => (⟨hk, hk.2⟩ : _ ∧ k_ ≠ gb523))) (fun _ hk => hk.2) (.bool t507)) (fun _ hk => hk.2) (.bool t508)) (fun _ hk => hk.2) (.slice Ao19 t509.length co19)) (fun _ hk => hk.2) (.slice Ao20 t512.length co20)) (fun _ hk => hk.2) (.slice Ao21 t515.length co21)) (fun _ hk => hk.2) (.slice Ao22 t518.length co22)) (fun _ hk => hk.2) (.bool t521)) (fun _ hk => hk.2) (.bool t522)) (fun _ hk => ⟨hk.1.1.1.1.1.1.1, ⟨hk.1.1.1.1.1.2, ⟨hk.1.1.1.1.2, ⟨hk.1.1.1.2, ⟨hk.1.1.2, ⟨hk.1.1.1.1.1.1.2, hk.1.2⟩⟩⟩⟩⟩⟩)⟩
      have n2_ : Aside0 (Kd.V Kd.string 9 ((((((((w16.setCell ⟨gb523, 0, none⟩ (.bool t507)).setCell ⟨gb523, 1, none⟩ (.bool t508)).setCell ⟨gb523, 2, none⟩ (.slice Ao19 t509.length co19)).setCell ⟨gb523, 3, none⟩ (.slice Ao20 t512.length co20)).setCell ⟨gb523, 4, none⟩ (.slice Ao21 t515.length co21)).setCell ⟨gb523, 5, none⟩ (.slice Ao22 t518.length co22)).setCell ⟨gb523, 6, none⟩ (.bool t521)).setCell ⟨gb523, 7, none⟩ (.bool t522)) w.heap.size (fun k_ => some k_ ≠ (.slice Ao14 t502.length co14 : Value).ownBlock ∧ some k_ ≠ (.slice Ao19 t509.length co19 : Value).ownBlock ∧ some k_ ≠ (.slice Ao20 t512.length co20 : Value).ownBlock ∧ some k_ ≠ (.slice Ao21 t515.length co21 : Value).ownBlock ∧ some k_ ≠ (.slice Ao22 t518.length co22 : Value).ownBlock ∧ k_ ≠ gb490 ∧ k_ ≠ gb523) (.slice Ao13 t499.length co13) t499) := ⟨by (with_reducible repeat (first | apply Kd.V_alloc | apply Kd.V_drewN | apply Kd.V_drew)); exact Kd.V_mono (Kd.V_far (p := ⟨gb523, 7, none⟩) (Kd.V_far (p := ⟨gb523, 6, none⟩) (Kd.V_far (p := ⟨gb523, 5, none⟩) (Kd.V_far (p := ⟨gb523, 4, none⟩) (Kd.V_far (p := ⟨gb523, 3, none⟩) (Kd.V_far (p := ⟨gb523, 2, none⟩) (Kd.V_far (p := ⟨gb523, 1, none⟩) (Kd.V_far (p := ⟨gb523, 0, none⟩) (Kd.V_mono HO501.out (fun k_ hk => (⟨hk, hk.2⟩ : _ ∧ k_ ≠ gb523))) (fun _ hk => hk.2) (.bool t507)) (fun _ hk => hk.2) (.bool t508)) (fun _ hk => hk.2) (.slice Ao19 t509.length co19)) (fun _ hk => hk.2) (.slice Ao20 t512.length co20)) (fun _ hk => hk.2) (.slice Ao21 t515.length co21)) (fun _ hk => hk.2) (.slice Ao22 t518.length co22)) (fun _ hk => hk.2) (.bool t521)) (fun _ hk => hk.2) (.bool t522)) (fun _ hk => ⟨hk.1.1.1.1.1.1.1, ⟨hk.1.1.1.1.1.2, ⟨hk.1.1.1.1.2, ⟨hk.1.1.1.2, ⟨hk.1.1.2, ⟨hk.1.1.1.1.1.1.2, hk.1.2⟩⟩⟩⟩⟩⟩)⟩
      have n3_ : Aside0 (Kd.N k35 35 ((((((((w16.setCell ⟨gb523, 0, none⟩ (.bool t507)).setCell ⟨gb523, 1, none⟩ (.bool t508)).setCell ⟨gb523, 2, none⟩ (.slice Ao19 t509.length co19)).setCell ⟨gb523, 3, none⟩ (.slice Ao20 t512.length co20)).setCell ⟨gb523, 4, none⟩ (.slice Ao21 t515.length co21)).setCell ⟨gb523, 5, none⟩ (.slice Ao22 t518.length co22)).setCell ⟨gb523, 6, none⟩ (.bool t521)).setCell ⟨gb523, 7, none⟩ (.bool t522)) w.heap.size (fun k_ => some k_ ≠ (.slice Ao19 t509.length co19 : Value).ownBlock ∧ some k_ ≠ (.slice Ao20 t512.length co20 : Value).ownBlock ∧ some k_ ≠ (.slice Ao21 t515.length co21 : Value).ownBlock ∧ some k_ ≠ (.slice Ao22 t518.length co22 : Value).ownBlock ∧ k_ ≠ gb490 ∧ k_ ≠ gb523) (.slice Ao14 t502.length co14) t502) := ⟨by (with_reducible repeat (first | apply Kd.N_alloc | apply Kd.N_drewN | apply Kd.N_drew)); exact Kd.N_mono (Kd.N_far (p := ⟨gb523, 7, none⟩) (Kd.N_far (p := ⟨gb523, 6, none⟩) (Kd.N_far (p := ⟨gb523, 5, none⟩) (Kd.N_far (p := ⟨gb523, 4, none⟩) (Kd.N_far (p := ⟨gb523, 3, none⟩) (Kd.N_far (p := ⟨gb523, 2, none⟩) (Kd.N_far (p := ⟨gb523, 1, none⟩) (Kd.N_far (p := ⟨gb523, 0, none⟩) (Kd.N_mono HO504.out (fun k_ hk => (⟨hk, hk.2⟩ : _ ∧ k_ ≠ gb523))) (fun _ hk => hk.2) (.bool t507)) (fun _ hk => hk.2) (.bool t508)) (fun _ hk => hk.2) (.slice Ao19 t509.length co19)) (fun _ hk => hk.2) (.slice Ao20 t512.length co20)) (fun _ hk => hk.2) (.slice Ao21 t515.length co21)) (fun _ hk => hk.2) (.slice Ao22 t518.length co22)) (fun _ hk => hk.2) (.bool t521)) (fun _ hk => hk.2) (.bool t522)) (fun _ hk => ⟨hk.1.1.1.1.1.2, ⟨hk.1.1.1.1.2, ⟨hk.1.1.1.2, ⟨hk.1.1.2, ⟨hk.1.1.1.1.1.1, hk.1.2⟩⟩⟩⟩⟩)⟩
      have n4_ : Aside0 (Kd.R Kd.string 9 ((((((((w16.setCell ⟨gb523, 0, none⟩ (.bool t507)).setCell ⟨gb523, 1, none⟩ (.bool t508)).setCell ⟨gb523, 2, none⟩ (.slice Ao19 t509.length co19)).setCell ⟨gb523, 3, none⟩ (.slice Ao20 t512.length co20)).setCell ⟨gb523, 4, none⟩ (.slice Ao21 t515.length co21)).setCell ⟨gb523, 5, none⟩ (.slice Ao22 t518.length co22)).setCell ⟨gb523, 6, none⟩ (.bool t521)).setCell ⟨gb523, 7, none⟩ (.bool t522)) w.heap.size (fun k_ => some k_ ≠ (.slice Ao20 t512.length co20 : Value).ownBlock ∧ some k_ ≠ (.slice Ao21 t515.length co21 : Value).ownBlock) (.slice Ao19 t509.length co19) t509) := ⟨by (with_reducible repeat (first | apply Kd.R_alloc | apply Kd.R_drewN | apply Kd.R_drew)); exact Kd.R_mono (Kd.R_far (p := ⟨gb523, 7, none⟩) (Kd.R_far (p := ⟨gb523, 6, none⟩) (Kd.R_far (p := ⟨gb523, 5, none⟩) (Kd.R_far (p := ⟨gb523, 4, none⟩) (Kd.R_far (p := ⟨gb523, 3, none⟩) (Kd.R_far (p := ⟨gb523, 2, none⟩) (Kd.R_far (p := ⟨gb523, 1, none⟩) (Kd.R_far (p := ⟨gb523, 0, none⟩) (Kd.R_types HO511.out BK523.out (by decide)) (fun _ hk => hk.2) (.bool t507)) (fun _ hk => hk.2) (.bool t508)) (fun _ hk => hk.2) (.slice Ao19 t509.length co19)) (fun _ hk => hk.2) (.slice Ao20 t512.length co20)) (fun _ hk => hk.2) (.slice Ao21 t515.length co21)) (fun _ hk => hk.2) (.slice Ao22 t518.length co22)) (fun _ hk => hk.2) (.bool t521)) (fun _ hk => hk.2) (.bool t522)) (fun _ hk => ⟨hk.1.1, hk.1.2⟩)⟩
      have n5_ : Aside0 (Kd.R Kd.string 9 ((((((((w16.setCell ⟨gb523, 0, none⟩ (.bool t507)).setCell ⟨gb523, 1, none⟩ (.bool t508)).setCell ⟨gb523, 2, none⟩ (.slice Ao19 t509.length co19)).setCell ⟨gb523, 3, none⟩ (.slice Ao20 t512.length co20)).setCell ⟨gb523, 4, none⟩ (.slice Ao21 t515.length co21)).setCell ⟨gb523, 5, none⟩ (.slice Ao22 t518.length co22)).setCell ⟨gb523, 6, none⟩ (.bool t521)).setCell ⟨gb523, 7, none⟩ (.bool t522)) w.heap.size (fun k_ => some k_ ≠ (.slice Ao19 t509.length co19 : Value).ownBlock ∧ some k_ ≠ (.slice Ao21 t515.length co21 : Value).ownBlock) (.slice Ao20 t512.length co20) t512) := ⟨by (with_reducible repeat (first | apply Kd.R_alloc | apply Kd.R_drewN | apply Kd.R_drew)); exact Kd.R_mono (Kd.R_far (p := ⟨gb523, 7, none⟩) (Kd.R_far (p := ⟨gb523, 6, none⟩) (Kd.R_far (p := ⟨gb523, 5, none⟩) (Kd.R_far (p := ⟨gb523, 4, none⟩) (Kd.R_far (p := ⟨gb523, 3, none⟩) (Kd.R_far (p := ⟨gb523, 2, none⟩) (Kd.R_far (p := ⟨gb523, 1, none⟩) (Kd.R_far (p := ⟨gb523, 0, none⟩) (Kd.R_types HO514.out BK523.out (by decide)) (fun _ hk => hk.2) (.bool t507)) (fun _ hk => hk.2) (.bool t508)) (fun _ hk => hk.2) (.slice Ao19 t509.length co19)) (fun _ hk => hk.2) (.slice Ao20 t512.length co20)) (fun _ hk => hk.2) (.slice Ao21 t515.length co21)) (fun _ hk => hk.2) (.slice Ao22 t518.length co22)) (fun _ hk => hk.2) (.bool t521)) (fun _ hk => hk.2) (.bool t522)) (fun _ hk => ⟨hk.1.1, hk.1.2⟩)⟩
      have n6_ : Aside0 (Kd.R Kd.string 9 ((((((((w16.setCell ⟨gb523, 0, none⟩ (.bool t507)).setCell ⟨gb523, 1, none⟩ (.bool t508)).setCell ⟨gb523, 2, none⟩ (.slice Ao19 t509.length co19)).setCell ⟨gb523, 3, none⟩ (.slice Ao20 t512.length co20)).setCell ⟨gb523, 4, none⟩ (.slice Ao21 t515.length co21)).setCell ⟨gb523, 5, none⟩ (.slice Ao22 t518.length co22)).setCell ⟨gb523, 6, none⟩ (.bool t521)).setCell ⟨gb523, 7, none⟩ (.bool t522)) w.heap.size (fun k_ => some k_ ≠ (.slice Ao19 t509.length co19 : Value).ownBlock ∧ some k_ ≠ (.slice Ao20 t512.length co20 : Value).ownBlock) (.slice Ao21 t515.length co21) t515) := ⟨by (with_reducible repeat (first | apply Kd.R_alloc | apply Kd.R_drewN | apply Kd.R_drew)); exact Kd.R_mono (Kd.R_far (p := ⟨gb523, 7, none⟩) (Kd.R_far (p := ⟨gb523, 6, none⟩) (Kd.R_far (p := ⟨gb523, 5, none⟩) (Kd.R_far (p := ⟨gb523, 4, none⟩) (Kd.R_far (p := ⟨gb523, 3, none⟩) (Kd.R_far (p := ⟨gb523, 2, none⟩) (Kd.R_far (p := ⟨gb523, 1, none⟩) (Kd.R_far (p := ⟨gb523, 0, none⟩) (Kd.R_types HO517.out BK523.out (by decide)) (fun _ hk => hk.2) (.bool t507)) (fun _ hk => hk.2) (.bool t508)) (fun _ hk => hk.2) (.slice Ao19 t509.length co19)) (fun _ hk => hk.2) (.slice Ao20 t512.length co20)) (fun _ hk => hk.2) (.slice Ao21 t515.length co21)) (fun _ hk => hk.2) (.slice Ao22 t518.length co22)) (fun _ hk => hk.2) (.bool t521)) (fun _ hk => hk.2) (.bool t522)) (fun _ hk => ⟨hk.1.1, hk.1.2⟩)⟩
      have n7_ : Aside0 (Kd.N k35 35 ((((((((w16.setCell ⟨gb523, 0, none⟩ (.bool t507)).setCell ⟨gb523, 1, none⟩ (.bool t508)).setCell ⟨gb523, 2, none⟩ (.slice Ao19 t509.length co19)).setCell ⟨gb523, 3, none⟩ (.slice Ao20 t512.length co20)).setCell ⟨gb523, 4, none⟩ (.slice Ao21 t515.length co21)).setCell ⟨gb523, 5, none⟩ (.slice Ao22 t518.length co22)).setCell ⟨gb523, 6, none⟩ (.bool t521)).setCell ⟨gb523, 7, none⟩ (.bool t522)) w.heap.size (fun k_ => some k_ ≠ (.slice Ao14 t502.length co14 : Value).ownBlock ∧ some k_ ≠ (.slice Ao19 t509.length co19 : Value).ownBlock ∧ some k_ ≠ (.slice Ao20 t512.length co20 : Value).ownBlock ∧ some k_ ≠ (.slice Ao21 t515.length co21 : Value).ownBlock ∧ k_ ≠ gb490 ∧ k_ ≠ gb523) (.slice Ao22 t518.length co22) t518) := ⟨by (with_reducible repeat (first | apply Kd.N_alloc | apply Kd.N_drewN | apply Kd.N_drew)); exact Kd.N_mono (Kd.N_far (p := ⟨gb523, 7, none⟩) (Kd.N_far (p := ⟨gb523, 6, none⟩) (Kd.N_far (p := ⟨gb523, 5, none⟩) (Kd.N_far (p := ⟨gb523, 4, none⟩) (Kd.N_far (p := ⟨gb523, 3, none⟩) (Kd.N_far (p := ⟨gb523, 2, none⟩) (Kd.N_far (p := ⟨gb523, 1, none⟩) (Kd.N_far (p := ⟨gb523, 0, none⟩) (Kd.N_mono HO520.out (fun k_ hk => (⟨hk, hk.2⟩ : _ ∧ k_ ≠ gb523))) (fun _ hk => hk.2) (.bool t507)) (fun _ hk => hk.2) (.bool t508)) (fun _ hk => hk.2) (.slice Ao19 t509.length co19)) (fun _ hk => hk.2) (.slice Ao20 t512.length co20)) (fun _ hk => hk.2) (.slice Ao21 t515.length co21)) (fun _ hk => hk.2) (.slice Ao22 t518.length co22)) (fun _ hk => hk.2) (.bool t521)) (fun _ hk => hk.2) (.bool t522)) (fun _ hk => ⟨hk.1.1.2.2.2.1, ⟨hk.1.1.1, ⟨hk.1.1.2.1, ⟨hk.1.1.2.2.1, ⟨hk.1.1.2.2.2.2, hk.1.2⟩⟩⟩⟩⟩)⟩
      have n8_ : Aside0 (((((((((w16.setCell ⟨gb523, 0, none⟩ (.bool t507)).setCell ⟨gb523, 1, none⟩ (.bool t508)).setCell ⟨gb523, 2, none⟩ (.slice Ao19 t509.length co19)).setCell ⟨gb523, 3, none⟩ (.slice Ao20 t512.length co20)).setCell ⟨gb523, 4, none⟩ (.slice Ao21 t515.length co21)).setCell ⟨gb523, 5, none⟩ (.slice Ao22 t518.length co22)).setCell ⟨gb523, 6, none⟩ (.bool t521)).setCell ⟨gb523, 7, none⟩ (.bool t522)).heap[gb490]? = some (.cells #[.bool t491, .bool t492, .slice Ao11 t493.length co11, .slice Ao12 t496.length co12, .slice Ao13 t499.length co13, .slice Ao14 t502.length co14, .bool t505, .bool t506] 25 (0, 0))) := ⟨by (with_reducible repeat (first | refine blk_drewN ?_ _ | refine blk_drew ?_ | refine blk_alloc ?_ _)); refine blk_far ?_ NB490_523.out _; (with_reducible repeat (first | refine blk_drewN ?_ _ | refine blk_drew ?_ | refine blk_alloc ?_ _)); refine blk_far ?_ NB490_523.out _; (with_reducible repeat (first | refine blk_drewN ?_ _ | refine blk_drew ?_ | refine blk_alloc ?_ _)); refine blk_far ?_ NB490_523.out _; (with_reducible repeat (first | refine blk_drewN ?_ _ | refine blk_drew ?_ | refine blk_alloc ?_ _)); refine blk_far ?_ NB490_523.out _; (with_reducible repeat (first | refine blk_drewN ?_ _ | refine blk_drew ?_ | refine blk_alloc ?_ _)); refine blk_far ?_ NB490_523.out _; (with_reducible repeat (first | refine blk_drewN ?_ _ | refine blk_drew ?_ | refine blk_alloc ?_ _)); refine blk_far ?_ NB490_523.out _; (with_reducible repeat (first | refine blk_drewN ?_ _ | refine blk_drew ?_ | refine blk_alloc ?_ _)); refine blk_far ?_ NB490_523.out _; (with_reducible repeat (first | refine blk_drewN ?_ _ | refine blk_drew ?_ | refine blk_alloc ?_ _)); refine blk_far ?_ NB490_523.out _; (with_reducible repeat (first | refine blk_drewN ?_ _ | refine blk_drew ?_ | refine blk_alloc ?_ _)); exact BK490.out⟩
      have n9_ : Aside0 (((((((((w16.setCell ⟨gb523, 0, none⟩ (.bool t507)).setCell ⟨gb523, 1, none⟩ (.bool t508)).setCell ⟨gb523, 2, none⟩ (.slice Ao19 t509.length co19)).setCell ⟨gb523, 3, none⟩ (.slice Ao20 t512.length co20)).setCell ⟨gb523, 4, none⟩ (.slice Ao21 t515.length co21)).setCell ⟨gb523, 5, none⟩ (.slice Ao22 t518.length co22)).setCell ⟨gb523, 6, none⟩ (.bool t521)).setCell ⟨gb523, 7, none⟩ (.bool t522)).heap[gb523]? = some (.cells #[.bool t507, .bool t508, .slice Ao19 t509.length co19, .slice Ao20 t512.length co20, .slice Ao21 t515.length co21, .slice Ao22 t518.length co22, .bool t521, .bool t522] 25 (0, 0))) := ⟨by (with_reducible repeat (first | refine blk_drewN ?_ _ | refine blk_drew ?_ | refine blk_alloc ?_ _)); refine blk_put (cs := #[.bool t507, .bool t508, .slice Ao19 t509.length co19, .slice Ao20 t512.length co20, .slice Ao21 t515.length co21, .slice Ao22 t518.length co22, .bool t521, .bool false]) ?_ 7 _ rfl; (with_reducible repeat (first | refine blk_drewN ?_ _ | refine blk_drew ?_ | refine blk_alloc ?_ _)); refine blk_put (cs := #[.bool t507, .bool t508, .slice Ao19 t509.length co19, .slice Ao20 t512.length co20, .slice Ao21 t515.length co21, .slice Ao22 t518.length co22, .bool false, .bool false]) ?_ 6 _ rfl; (with_reducible repeat (first | refine blk_drewN ?_ _ | refine blk_drew ?_ | refine blk_alloc ?_ _)); refine blk_put (cs := #[.bool t507, .bool t508, .slice Ao19 t509.length co19, .slice Ao20 t512.length co20, .slice Ao21 t515.length co21, .slice none 0 0, .bool false, .bool false]) ?_ 5 _ rfl; (with_reducible repeat (first | refine blk_drewN ?_ _ | refine blk_drew ?_ | refine blk_alloc ?_ _)); refine blk_put (cs := #[.bool t507, .bool t508, .slice Ao19 t509.length co19, .slice Ao20 t512.length co20, .slice none 0 0, .slice none 0 0, .bool false, .bool false]) ?_ 4 _ rfl; (with_reducible repeat (first | refine blk_drewN ?_ _ | refine blk_drew ?_ | refine blk_alloc ?_ _)); refine blk_put (cs := #[.bool t507, .bool t508, .slice Ao19 t509.length co19, .slice none 0 0, .slice none 0 0, .slice none 0 0, .bool false, .bool false]) ?_ 3 _ rfl; (with_reducible repeat (first | refine blk_drewN ?_ _ | refine blk_drew ?_ | refine blk_alloc ?_ _)); refine blk_put (cs := #[.bool t507, .bool t508, .slice none 0 0, .slice none 0 0, .slice none 0 0, .slice none 0 0, .bool false, .bool false]) ?_ 2 _ rfl; (with_reducible repeat (first | refine blk_drewN ?_ _ | refine blk_drew ?_ | refine blk_alloc ?_ _)); refine blk_put (cs := #[.bool t507, .bool false, .slice none 0 0, .slice none 0 0, .slice none 0 0, .slice none 0 0, .bool false, .bool false]) ?_ 1 _ rfl; (with_reducible repeat (first | refine blk_drewN ?_ _ | refine blk_drew ?_ | refine blk_alloc ?_ _)); refine blk_put (cs := #[.bool false, .bool false, .slice none 0 0, .slice none 0 0, .slice none 0 0, .slice none 0 0, .bool false, .bool false]) ?_ 0 _ rfl; (with_reducible repeat (first | refine blk_drewN ?_ _ | refine blk_drew ?_ | refine blk_alloc ?_ _)); exact BK523.out⟩
      have n10_ : Aside0 (Below w.heap.size w ((((((((w16.setCell ⟨gb523, 0, none⟩ (.bool t507)).setCell ⟨gb523, 1, none⟩ (.bool t508)).setCell ⟨gb523, 2, none⟩ (.slice Ao19 t509.length co19)).setCell ⟨gb523, 3, none⟩ (.slice Ao20 t512.length co20)).setCell ⟨gb523, 4, none⟩ (.slice Ao21 t515.length co21)).setCell ⟨gb523, 5, none⟩ (.slice Ao22 t518.length co22)).setCell ⟨gb523, 6, none⟩ (.bool t521)).setCell ⟨gb523, 7, none⟩ (.bool t522))) := ⟨by repeat (first | (with_reducible first | exact HB.out | apply below_alloc | apply pw_below_drewN | apply below_drew1 | refine below_set ?_ GE490.out | refine below_set ?_ GE523.out) | exact HB.out)⟩
      (try clear HO495)
      (try clear HO498)
      (try clear HO501)
      (try clear HO504)
      (try clear HO511)
      (try clear HO514)
      (try clear HO517)
      (try clear HO520)
      (try clear BK490)
      (try clear BK523)
      (try clear HB)
      generalize ((((((((w16.setCell ⟨gb523, 0, none⟩ (.bool t507)).setCell ⟨gb523, 1, none⟩ (.bool t508)).setCell ⟨gb523, 2, none⟩ (.slice Ao19 t509.length co19)).setCell ⟨gb523, 3, none⟩ (.slice Ao20 t512.length co20)).setCell ⟨gb523, 4, none⟩ (.slice Ao21 t515.length co21)).setCell ⟨gb523, 5, none⟩ (.slice Ao22 t518.length co22)).setCell ⟨gb523, 6, none⟩ (.bool t521)).setCell ⟨gb523, 7, none⟩ (.bool t522)) = w49 at n0_ n1_ n2_ n3_ n4_ n5_ n6_ n7_ n8_ n9_ n10_ ⊢
      have HO495 := n0_
      have HO498 := n1_
      have HO501 := n2_
      have HO504 := n3_
      have HO511 := n4_
      have HO514 := n5_
      have HO517 := n6_
      have HO520 := n7_
      have BK490 := n8_
      have BK523 := n9_
      have HB := n10_
      clear n0_ n1_ n2_ n3_ n4_ n5_ n6_ n7_ n8_ n9_ n10_
      have n0_ := Aside0.mk (Kd.V_drew HO495.out)
      have n1_ := Aside0.mk (Kd.V_drew HO498.out)
      have n2_ := Aside0.mk (Kd.V_drew HO501.out)
      have n3_ := Aside0.mk (Kd.N_drew HO504.out)
      have n4_ := Aside0.mk (Kd.R_drew HO511.out)
      have n5_ := Aside0.mk (Kd.R_drew HO514.out)
      have n6_ := Aside0.mk (Kd.R_drew HO517.out)
      have n7_ := Aside0.mk (Kd.N_drew HO520.out)
      have n8_ := Aside0.mk (blk_drew BK490.out)
      have n9_ := Aside0.mk (blk_drew BK523.out)
      have n10_ := Aside0.mk (below_drew1 HB.out)
      clear HO495
      clear HO498
      clear HO501
      clear HO504
      clear HO511
      clear HO514
      clear HO517
      clear HO520
      clear BK490
      clear BK523
      clear HB
      have HO495 := n0_
      have HO498 := n1_
      have HO501 := n2_
      have HO504 := n3_
      have HO511 := n4_
      have HO514 := n5_
      have HO517 := n6_
      have HO520 := n7_
      have BK490 := n8_
      have BK523 := n9_
      have HB := n10_
      clear n0_ n1_ n2_ n3_ n4_ n5_ n6_ n7_ n8_ n9_ n10_
      refine start_ (n := 25) (S := fun w' => w'.cell? ⟨gb490, 0, none⟩ = some (.bool t491) ∧ w'.cell? ⟨gb490, 1, none⟩ = some (.bool t492) ∧ w'.cell? ⟨gb490, 2, none⟩ = some (.slice Ao11 t493.length co11) ∧ w'.cell? ⟨gb490, 3, none⟩ = some (.slice Ao12 t496.length co12) ∧ w'.cell? ⟨gb490, 4, none⟩ = some (.slice Ao13 t499.length co13) ∧ w'.cell? ⟨gb490, 5, none⟩ = some (.slice Ao14 t502.length co14) ∧ w'.cell? ⟨gb490, 6, none⟩ = some (.bool t505) ∧ w'.cell? ⟨gb490, 7, none⟩ = some (.bool t506) ∧ w'.cell? ⟨gb523, 0, none⟩ = some (.bool t507) ∧ w'.cell? ⟨gb523, 1, none⟩ = some (.bool t508) ∧ w'.cell? ⟨gb523, 2, none⟩ = some (.slice Ao19 t509.length co19) ∧ w'.cell? ⟨gb523, 3, none⟩ = some (.slice Ao20 t512.length co20) ∧ w'.cell? ⟨gb523, 4, none⟩ = some (.slice Ao21 t515.length co21) ∧ w'.cell? ⟨gb523, 5, none⟩ = some (.slice Ao22 t518.length co22) ∧ w'.cell? ⟨gb523, 6, none⟩ = some (.bool t521) ∧ w'.cell? ⟨gb523, 7, none⟩ = some (.bool t522)) (ds := []) #[false, false, false, false, false, false, false, false, false, false, false, false, false, false, false, false, false, false, false, false, false, false, false, false, false] (by kernel_rfl) rfl rfl ⟨(blk_cell BK490.out 0).trans rfl, (blk_cell BK490.out 1).trans rfl, (blk_cell BK490.out 2).trans rfl, (blk_cell BK490.out 3).trans rfl, (blk_cell BK490.out 4).trans rfl, (blk_cell BK490.out 5).trans rfl, (blk_cell BK490.out 6).trans rfl, (blk_cell BK490.out 7).trans rfl, (blk_cell BK523.out 0).trans rfl, (blk_cell BK523.out 1).trans rfl, (blk_cell BK523.out 2).trans rfl, (blk_cell BK523.out 3).trans rfl, (blk_cell BK523.out 4).trans rfl, (blk_cell BK523.out 5).trans rfl, (blk_cell BK523.out 6).trans rfl, (blk_cell BK523.out 7).trans rfl⟩ (fun hHeld => ?_); refine with_tabW boltinglaw12_ConfigCanon.tab3 boltinglaw12_ConfigCanon.bits3 (fun HT_ HW_ => ?_)
      generalize w49.drew = w50 at HO495 HO498 HO501 HO504 HO511 HO514 HO517 HO520 BK490 BK523 HB hHeld ⊢
      refine pure_ (i := 1) (N := some 13) (v := ?_) (a' := ?_) #[false, true, false, false, false, false, false, false, false, false, false, false, false, false, false, false, false, false, false, false, false, false, false, false, false] rfl rfl (any_of HT_.out (by kernel_rfl)) (fun _ _ _ h => h) (Or.inl ⟨by rfl, ?_⟩) ?_ ?_
      rotate_left
      · intro w'
        go_simp
        with_reducible rfl
      rotate_left
      · simp only [Act.put, List.setIfInBounds_toArray, List.set_cons_zero, List.set_cons_succ, i64_w, i32_w]
        rfl
      refine pure_ (i := 4) (N := some 16) (v := ?_) (a' := ?_) #[false, true, false, false, true, false, false, false, false, false, false, false, false, false, false, false, false, false, false, false, false, false, false, false, false] rfl rfl (any_of HT_.out (by kernel_rfl)) (fun _ _ _ h => h) (Or.inl ⟨by rfl, ?_⟩) ?_ ?_
      rotate_left
      · intro w'
        go_simp
        with_reducible rfl
      rotate_left
      · simp only [Act.put, List.setIfInBounds_toArray, List.set_cons_zero, List.set_cons_succ, i64_w, i32_w]
        rfl
      refine take_ (i := 0) (N := some 12) (v := ?_) (a' := ?_) #[true, true, false, false, true, false, false, false, false, false, false, false, false, false, false, false, false, false, false, false, false, false, false, false, false] rfl rfl (take_ofW HT_.out HW_.out (by kernel_rfl)) (fun _ _ _ h => h) (Or.inl ⟨by rfl, ?_⟩) hHeld ?_ ?_
      rotate_left
      · rintro w' ⟨s0, s1, s2, s3, s4, s5, s6, s7, s8, s9, s10, s11, s12, s13, s14, s15⟩
        go_simp
        with_reducible rfl
      rotate_left
      · simp only [Act.put, List.setIfInBounds_toArray, List.set_cons_zero, List.set_cons_succ, i64_w, i32_w]
        rfl
      refine take_ (i := 3) (N := some 15) (v := ?_) (a' := ?_) #[true, true, false, true, true, false, false, false, false, false, false, false, false, false, false, false, false, false, false, false, false, false, false, false, false] rfl rfl (take_ofW HT_.out HW_.out (by kernel_rfl)) (fun _ _ _ h => h) (Or.inl ⟨by rfl, ?_⟩) hHeld ?_ ?_
      rotate_left
      · rintro w' ⟨s0, s1, s2, s3, s4, s5, s6, s7, s8, s9, s10, s11, s12, s13, s14, s15⟩
        go_simp
        with_reducible rfl
      rotate_left
      · simp only [Act.put, List.setIfInBounds_toArray, List.set_cons_zero, List.set_cons_succ, i64_w, i32_w]
        rfl
      refine one_ (i := 2) (N := some 14) #[true, true, true, true, true, false, false, false, false, false, false, false, false, false, false, false, false, false, false, false, false, false, false, false, false] rfl rfl (one_of HT_.out (by kernel_rfl)) (by decide) (fun K hK => ?_)
      refine goes_ Try.func13 (by kernel_rfl) rfl #[.agg #[.bool t491, .bool t492, .slice Ao11 t493.length co11, .slice Ao12 t496.length co12, .slice Ao13 t499.length co13, .slice Ao14 t502.length co14, .bool t505, .bool t506], .string a1] (by rfl) rfl rfl (by (try simp only [List.map_toArray, List.map_cons, List.map_nil]); first | done | rfl | (simp only [List.length_drop, List.length_take]; rfl)) ?_
      with_reducible refine (config_Element.calls k t491 t492 _ _ t493 _ _ t496 _ _ t499 _ _ t502 t505 t506 a1 t524 _ ?side1 ?side2 ?side3 ?side4 ?side5 ?side6 ?side7 ?side8 A23.out).mono ?_
      (case side1 => repeat (first | exact (Kd.V_reads' HO495.out).2.2 | (with_reducible refine Kd.C_alloc ?_ _) | (with_reducible refine Kd.C_drewN ?_ _) | (with_reducible refine Kd.C_drew ?_)))
      (case side2 => exact (Kd.V_reads' HO495.out).2.1)
      (case side3 => repeat (first | exact (Kd.V_reads' HO498.out).2.2 | (with_reducible refine Kd.C_alloc ?_ _) | (with_reducible refine Kd.C_drewN ?_ _) | (with_reducible refine Kd.C_drew ?_)))
      (case side4 => exact (Kd.V_reads' HO498.out).2.1)
      (case side5 => repeat (first | exact (Kd.V_reads' HO501.out).2.2 | (with_reducible refine Kd.C_alloc ?_ _) | (with_reducible refine Kd.C_drewN ?_ _) | (with_reducible refine Kd.C_drew ?_)))
      (case side6 => exact (Kd.V_reads' HO501.out).2.1)
      (case side7 => repeat (first | exact (Kd.N_reads' HO504.out).2.2 | (with_reducible refine Kd.C_alloc ?_ _) | (with_reducible refine Kd.C_drewN ?_ _) | (with_reducible refine Kd.C_drew ?_)))
      (case side8 => exact (Kd.N_reads' HO504.out).2.1)
      rintro e w51 ⟨rfl, hb⟩
      refine ⟨_, rfl, ?_⟩
      have n0_ := Aside0.mk (Kd.V_below (by (with_reducible repeat (first | apply Kd.V_alloc | apply Kd.V_drewN | apply Kd.V_drew)); exact HO495.out) hb)
      have n1_ := Aside0.mk (Kd.V_below (by (with_reducible repeat (first | apply Kd.V_alloc | apply Kd.V_drewN | apply Kd.V_drew)); exact HO498.out) hb)
      have n2_ := Aside0.mk (Kd.V_below (by (with_reducible repeat (first | apply Kd.V_alloc | apply Kd.V_drewN | apply Kd.V_drew)); exact HO501.out) hb)
      have n3_ := Aside0.mk (Kd.N_below (by (with_reducible repeat (first | apply Kd.N_alloc | apply Kd.N_drewN | apply Kd.N_drew)); exact HO504.out) hb)
      have n4_ := Aside0.mk (Kd.R_below (by (with_reducible repeat (first | apply Kd.R_alloc | apply Kd.R_drewN | apply Kd.R_drew)); exact HO511.out) hb)
      have n5_ := Aside0.mk (Kd.R_below (by (with_reducible repeat (first | apply Kd.R_alloc | apply Kd.R_drewN | apply Kd.R_drew)); exact HO514.out) hb)
      have n6_ := Aside0.mk (Kd.R_below (by (with_reducible repeat (first | apply Kd.R_alloc | apply Kd.R_drewN | apply Kd.R_drew)); exact HO517.out) hb)
      have n7_ := Aside0.mk (Kd.N_below (by (with_reducible repeat (first | apply Kd.N_alloc | apply Kd.N_drewN | apply Kd.N_drew)); exact HO520.out) hb)
      have n8_ := Aside0.mk (blk_below (g := gb490) (o := .cells #[.bool t491, .bool t492, .slice Ao11 t493.length co11, .slice Ao12 t496.length co12, .slice Ao13 t499.length co13, .slice Ao14 t502.length co14, .bool t505, .bool t506] 25 (0, 0)) (by (with_reducible repeat (first | refine blk_drewN ?_ _ | refine blk_drew ?_ | refine blk_alloc ?_ _)); exact BK490.out) hb)
      have n9_ := Aside0.mk (blk_below (g := gb523) (o := .cells #[.bool t507, .bool t508, .slice Ao19 t509.length co19, .slice Ao20 t512.length co20, .slice Ao21 t515.length co21, .slice Ao22 t518.length co22, .bool t521, .bool t522] 25 (0, 0)) (by (with_reducible repeat (first | refine blk_drewN ?_ _ | refine blk_drew ?_ | refine blk_alloc ?_ _)); exact BK523.out) hb)
      have n10_ := Aside0.mk (below_step (by repeat (first | (with_reducible first | exact HB.out | apply below_alloc | apply pw_below_drewN | apply below_drew1 | refine below_set ?_ GE490.out | refine below_set ?_ GE523.out) | exact HB.out)) hb)
      clear HO495
      clear HO498
      clear HO501
      clear HO504
      clear HO511
      clear HO514
      clear HO517
      clear HO520
      clear BK490
      clear BK523
      clear HB
      have HO495 := n0_
      have HO498 := n1_
      have HO501 := n2_
      have HO504 := n3_
      have HO511 := n4_
      have HO514 := n5_
      have HO517 := n6_
      have HO520 := n7_
      have BK490 := n8_
      have BK523 := n9_
      have HB := n10_
      clear n0_ n1_ n2_ n3_ n4_ n5_ n6_ n7_ n8_ n9_ n10_
      (try clear hb)
      (try clear hb2)
      (try clear hk)
      (try clear hi)
      refine hK.out _ _ ⟨(blk_cell BK490.out 0).trans rfl, (blk_cell BK490.out 1).trans rfl, (blk_cell BK490.out 2).trans rfl, (blk_cell BK490.out 3).trans rfl, (blk_cell BK490.out 4).trans rfl, (blk_cell BK490.out 5).trans rfl, (blk_cell BK490.out 6).trans rfl, (blk_cell BK490.out 7).trans rfl, (blk_cell BK523.out 0).trans rfl, (blk_cell BK523.out 1).trans rfl, (blk_cell BK523.out 2).trans rfl, (blk_cell BK523.out 3).trans rfl, (blk_cell BK523.out 4).trans rfl, (blk_cell BK523.out 5).trans rfl, (blk_cell BK523.out 6).trans rfl, (blk_cell BK523.out 7).trans rfl⟩ (fun hHeld => ?_)
      clear hK K
      refine norm_ (a' := ?_) ?_ ?_
      rotate_left
      · show Act.put _ (some 14) _ = _
        simp only [Act.put, List.setIfInBounds_toArray, List.set_cons_zero, List.set_cons_succ, i64_w, i32_w]
        rfl
      refine one_ (i := 5) (N := some 17) #[true, true, true, true, true, true, false, false, false, false, false, false, false, false, false, false, false, false, false, false, false, false, false, false, false] rfl rfl (one_of HT_.out (by kernel_rfl)) (by decide) (fun K hK => ?_)
      refine goes_ Try.func13 (by kernel_rfl) rfl #[.agg #[.bool t507, .bool t508, .slice Ao19 t509.length co19, .slice Ao20 t512.length co20, .slice Ao21 t515.length co21, .slice Ao22 t518.length co22, .bool t521, .bool t522], .string a1] (by rfl) rfl rfl (by (try simp only [List.map_toArray, List.map_cons, List.map_nil]); first | done | rfl | (simp only [List.length_drop, List.length_take]; rfl)) ?_
      with_reducible refine (config_Element.calls k t507 t508 _ _ t509 _ _ t512 _ _ t515 _ _ t518 t521 t522 a1 t525 _ ?side1 ?side2 ?side3 ?side4 ?side5 ?side6 ?side7 ?side8 A24.out).mono ?_
      (case side1 => repeat (first | exact (Kd.R_reads' HO511.out).2.2 | (with_reducible refine Kd.C_alloc ?_ _) | (with_reducible refine Kd.C_drewN ?_ _) | (with_reducible refine Kd.C_drew ?_)))
      (case side2 => exact (Kd.R_reads' HO511.out).2.1)
      (case side3 => repeat (first | exact (Kd.R_reads' HO514.out).2.2 | (with_reducible refine Kd.C_alloc ?_ _) | (with_reducible refine Kd.C_drewN ?_ _) | (with_reducible refine Kd.C_drew ?_)))
      (case side4 => exact (Kd.R_reads' HO514.out).2.1)
      (case side5 => repeat (first | exact (Kd.R_reads' HO517.out).2.2 | (with_reducible refine Kd.C_alloc ?_ _) | (with_reducible refine Kd.C_drewN ?_ _) | (with_reducible refine Kd.C_drew ?_)))
      (case side6 => exact (Kd.R_reads' HO517.out).2.1)
      (case side7 => repeat (first | exact (Kd.N_reads' HO520.out).2.2 | (with_reducible refine Kd.C_alloc ?_ _) | (with_reducible refine Kd.C_drewN ?_ _) | (with_reducible refine Kd.C_drew ?_)))
      (case side8 => exact (Kd.N_reads' HO520.out).2.1)
      rintro e w52 ⟨rfl, hb⟩
      refine ⟨_, rfl, ?_⟩
      have n0_ := Aside0.mk (Kd.V_below (by (with_reducible repeat (first | apply Kd.V_alloc | apply Kd.V_drewN | apply Kd.V_drew)); exact HO495.out) hb)
      have n1_ := Aside0.mk (Kd.V_below (by (with_reducible repeat (first | apply Kd.V_alloc | apply Kd.V_drewN | apply Kd.V_drew)); exact HO498.out) hb)
      have n2_ := Aside0.mk (Kd.V_below (by (with_reducible repeat (first | apply Kd.V_alloc | apply Kd.V_drewN | apply Kd.V_drew)); exact HO501.out) hb)
      have n3_ := Aside0.mk (Kd.N_below (by (with_reducible repeat (first | apply Kd.N_alloc | apply Kd.N_drewN | apply Kd.N_drew)); exact HO504.out) hb)
      have n4_ := Aside0.mk (Kd.R_below (by (with_reducible repeat (first | apply Kd.R_alloc | apply Kd.R_drewN | apply Kd.R_drew)); exact HO511.out) hb)
      have n5_ := Aside0.mk (Kd.R_below (by (with_reducible repeat (first | apply Kd.R_alloc | apply Kd.R_drewN | apply Kd.R_drew)); exact HO514.out) hb)
      have n6_ := Aside0.mk (Kd.R_below (by (with_reducible repeat (first | apply Kd.R_alloc | apply Kd.R_drewN | apply Kd.R_drew)); exact HO517.out) hb)
      have n7_ := Aside0.mk (Kd.N_below (by (with_reducible repeat (first | apply Kd.N_alloc | apply Kd.N_drewN | apply Kd.N_drew)); exact HO520.out) hb)
      have n8_ := Aside0.mk (blk_below (g := gb490) (o := .cells #[.bool t491, .bool t492, .slice Ao11 t493.length co11, .slice Ao12 t496.length co12, .slice Ao13 t499.length co13, .slice Ao14 t502.length co14, .bool t505, .bool t506] 25 (0, 0)) (by (with_reducible repeat (first | refine blk_drewN ?_ _ | refine blk_drew ?_ | refine blk_alloc ?_ _)); exact BK490.out) hb)
      have n9_ := Aside0.mk (blk_below (g := gb523) (o := .cells #[.bool t507, .bool t508, .slice Ao19 t509.length co19, .slice Ao20 t512.length co20, .slice Ao21 t515.length co21, .slice Ao22 t518.length co22, .bool t521, .bool t522] 25 (0, 0)) (by (with_reducible repeat (first | refine blk_drewN ?_ _ | refine blk_drew ?_ | refine blk_alloc ?_ _)); exact BK523.out) hb)
      have n10_ := Aside0.mk (below_step (by repeat (first | (with_reducible first | exact HB.out | apply below_alloc | apply pw_below_drewN | apply below_drew1 | refine below_set ?_ GE490.out | refine below_set ?_ GE523.out) | exact HB.out)) hb)
      clear HO495
      clear HO498
      clear HO501
      clear HO504
      clear HO511
      clear HO514
      clear HO517
      clear HO520
      clear BK490
      clear BK523
      clear HB
      have HO495 := n0_
      have HO498 := n1_
      have HO501 := n2_
      have HO504 := n3_
      have HO511 := n4_
      have HO514 := n5_
      have HO517 := n6_
      have HO520 := n7_
      have BK490 := n8_
      have BK523 := n9_
      have HB := n10_
      clear n0_ n1_ n2_ n3_ n4_ n5_ n6_ n7_ n8_ n9_ n10_
      (try clear hb)
      (try clear hb2)
      (try clear hk)
      (try clear hi)
      refine hK.out _ _ ⟨(blk_cell BK490.out 0).trans rfl, (blk_cell BK490.out 1).trans rfl, (blk_cell BK490.out 2).trans rfl, (blk_cell BK490.out 3).trans rfl, (blk_cell BK490.out 4).trans rfl, (blk_cell BK490.out 5).trans rfl, (blk_cell BK490.out 6).trans rfl, (blk_cell BK490.out 7).trans rfl, (blk_cell BK523.out 0).trans rfl, (blk_cell BK523.out 1).trans rfl, (blk_cell BK523.out 2).trans rfl, (blk_cell BK523.out 3).trans rfl, (blk_cell BK523.out 4).trans rfl, (blk_cell BK523.out 5).trans rfl, (blk_cell BK523.out 6).trans rfl, (blk_cell BK523.out 7).trans rfl⟩ (fun hHeld => ?_)
      clear hK K
      refine norm_ (a' := ?_) ?_ ?_
      rotate_left
      · show Act.put _ (some 17) _ = _
        simp only [Act.put, List.setIfInBounds_toArray, List.set_cons_zero, List.set_cons_succ, i64_w, i32_w]
        rfl
      refine pure_ (i := 6) (N := some 18) (v := ?_) (a' := ?_) #[true, true, true, true, true, true, true, false, false, false, false, false, false, false, false, false, false, false, false, false, false, false, false, false, false] rfl rfl (any_of HT_.out (by kernel_rfl)) (fun _ _ _ h => h) (Or.inl ⟨by rfl, ?_⟩) ?_ ?_
      rotate_left
      · intro w'
        go_simp
        with_reducible rfl
      rotate_left
      · simp only [Act.put, List.setIfInBounds_toArray, List.set_cons_zero, List.set_cons_succ, i64_w, i32_w]
        rfl
      refine pure_ (i := 7) (N := some 19) (v := ?_) (a' := ?_) #[true, true, true, true, true, true, true, true, false, false, false, false, false, false, false, false, false, false, false, false, false, false, false, false, false] rfl rfl (any_of HT_.out (by kernel_rfl)) (fun _ _ _ h => h) (Or.inl ⟨by rfl, ?_⟩) ?_ ?_
      rotate_left
      · intro w'
        go_simp
        with_reducible rfl
      rotate_left
      · simp only [Act.put, List.setIfInBounds_toArray, List.set_cons_zero, List.set_cons_succ, i64_w, i32_w]
        rfl
      refine pure_ (i := 8) (N := some 20) (v := undef) (a' := ?_) #[true, true, true, true, true, true, true, true, true, false, false, false, false, false, false, false, false, false, false, false, false, false, false, false, false] rfl rfl (any_of HT_.out (by kernel_rfl)) (fun _ _ _ h => h) (Or.inr ⟨by rfl, rfl⟩) ?_ ?_
      rotate_left
      · simp only [Act.put, List.setIfInBounds_toArray, List.set_cons_zero, List.set_cons_succ, i64_w, i32_w]
        rfl
      refine pure_ (i := 9) (N := some 21) (v := undef) (a' := ?_) #[true, true, true, true, true, true, true, true, true, true, false, false, false, false, false, false, false, false, false, false, false, false, false, false, false] rfl rfl (any_of HT_.out (by kernel_rfl)) (fun _ _ _ h => h) (Or.inr ⟨by rfl, rfl⟩) ?_ ?_
      rotate_left
      · simp only [Act.put, List.setIfInBounds_toArray, List.set_cons_zero, List.set_cons_succ, i64_w, i32_w]
        rfl
      refine pure_ (i := 10) (N := some 22) (v := undef) (a' := ?_) #[true, true, true, true, true, true, true, true, true, true, true, false, false, false, false, false, false, false, false, false, false, false, false, false, false] rfl rfl (any_of HT_.out (by kernel_rfl)) (fun _ _ _ h => h) (Or.inr ⟨by rfl, rfl⟩) ?_ ?_
      rotate_left
      · simp only [Act.put, List.setIfInBounds_toArray, List.set_cons_zero, List.set_cons_succ, i64_w, i32_w]
        rfl
      refine pure_ (i := 11) (N := some 23) (v := undef) (a' := ?_) #[true, true, true, true, true, true, true, true, true, true, true, true, false, false, false, false, false, false, false, false, false, false, false, false, false] rfl rfl (any_of HT_.out (by kernel_rfl)) (fun _ _ _ h => h) (Or.inr ⟨by rfl, rfl⟩) ?_ ?_
      rotate_left
      · simp only [Act.put, List.setIfInBounds_toArray, List.set_cons_zero, List.set_cons_succ, i64_w, i32_w]
        rfl
      refine pure_ (i := 12) (N := some 24) (v := undef) (a' := ?_) #[true, true, true, true, true, true, true, true, true, true, true, true, true, false, false, false, false, false, false, false, false, false, false, false, false] rfl rfl (any_of HT_.out (by kernel_rfl)) (fun _ _ _ h => h) (Or.inr ⟨by rfl, rfl⟩) ?_ ?_
      rotate_left
      · simp only [Act.put, List.setIfInBounds_toArray, List.set_cons_zero, List.set_cons_succ, i64_w, i32_w]
        rfl
      refine pure_ (i := 13) (N := some 25) (v := undef) (a' := ?_) #[true, true, true, true, true, true, true, true, true, true, true, true, true, true, false, false, false, false, false, false, false, false, false, false, false] rfl rfl (any_of HT_.out (by kernel_rfl)) (fun _ _ _ h => h) (Or.inr ⟨by rfl, rfl⟩) ?_ ?_
      rotate_left
      · simp only [Act.put, List.setIfInBounds_toArray, List.set_cons_zero, List.set_cons_succ, i64_w, i32_w]
        rfl
      refine pure_ (i := 14) (N := some 26) (v := undef) (a' := ?_) #[true, true, true, true, true, true, true, true, true, true, true, true, true, true, true, false, false, false, false, false, false, false, false, false, false] rfl rfl (any_of HT_.out (by kernel_rfl)) (fun _ _ _ h => h) (Or.inr ⟨by rfl, rfl⟩) ?_ ?_
      rotate_left
      · simp only [Act.put, List.setIfInBounds_toArray, List.set_cons_zero, List.set_cons_succ, i64_w, i32_w]
        rfl
      refine pure_ (i := 15) (N := some 27) (v := undef) (a' := ?_) #[true, true, true, true, true, true, true, true, true, true, true, true, true, true, true, true, false, false, false, false, false, false, false, false, false] rfl rfl (any_of HT_.out (by kernel_rfl)) (fun _ _ _ h => h) (Or.inr ⟨by rfl, rfl⟩) ?_ ?_
      rotate_left
      · simp only [Act.put, List.setIfInBounds_toArray, List.set_cons_zero, List.set_cons_succ, i64_w, i32_w]
        rfl
      refine pure_ (i := 16) (N := some 28) (v := undef) (a' := ?_) #[true, true, true, true, true, true, true, true, true, true, true, true, true, true, true, true, true, false, false, false, false, false, false, false, false] rfl rfl (any_of HT_.out (by kernel_rfl)) (fun _ _ _ h => h) (Or.inr ⟨by rfl, rfl⟩) ?_ ?_
      rotate_left
      · simp only [Act.put, List.setIfInBounds_toArray, List.set_cons_zero, List.set_cons_succ, i64_w, i32_w]
        rfl
      refine pure_ (i := 17) (N := some 29) (v := ?_) (a' := ?_) #[true, true, true, true, true, true, true, true, true, true, true, true, true, true, true, true, true, true, false, false, false, false, false, false, false] rfl rfl (any_of HT_.out (by kernel_rfl)) (fun _ _ _ h => h) (Or.inl ⟨by rfl, ?_⟩) ?_ ?_
      rotate_left
      · intro w'
        go_simp
        with_reducible rfl
      rotate_left
      · simp only [Act.put, List.setIfInBounds_toArray, List.set_cons_zero, List.set_cons_succ, i64_w, i32_w]
        rfl
      refine pure_ (i := 18) (N := some 30) (v := ?_) (a' := ?_) #[true, true, true, true, true, true, true, true, true, true, true, true, true, true, true, true, true, true, true, false, false, false, false, false, false] rfl rfl (any_of HT_.out (by kernel_rfl)) (fun _ _ _ h => h) (Or.inl ⟨by rfl, ?_⟩) ?_ ?_
      rotate_left
      · intro w'
        go_simp
        with_reducible rfl
      rotate_left
      · simp only [Act.put, List.setIfInBounds_toArray, List.set_cons_zero, List.set_cons_succ, i64_w, i32_w]
        rfl
      refine pure_ (i := 19) (N := some 31) (v := undef) (a' := ?_) #[true, true, true, true, true, true, true, true, true, true, true, true, true, true, true, true, true, true, true, true, false, false, false, false, false] rfl rfl (any_of HT_.out (by kernel_rfl)) (fun _ _ _ h => h) (Or.inr ⟨by rfl, rfl⟩) ?_ ?_
      rotate_left
      · simp only [Act.put, List.setIfInBounds_toArray, List.set_cons_zero, List.set_cons_succ, i64_w, i32_w]
        rfl
      refine pure_ (i := 20) (N := some 32) (v := undef) (a' := ?_) #[true, true, true, true, true, true, true, true, true, true, true, true, true, true, true, true, true, true, true, true, true, false, false, false, false] rfl rfl (any_of HT_.out (by kernel_rfl)) (fun _ _ _ h => h) (Or.inr ⟨by rfl, rfl⟩) ?_ ?_
      rotate_left
      · simp only [Act.put, List.setIfInBounds_toArray, List.set_cons_zero, List.set_cons_succ, i64_w, i32_w]
        rfl
      refine pure_ (i := 21) (N := some 33) (v := undef) (a' := ?_) #[true, true, true, true, true, true, true, true, true, true, true, true, true, true, true, true, true, true, true, true, true, true, false, false, false] rfl rfl (any_of HT_.out (by kernel_rfl)) (fun _ _ _ h => h) (Or.inr ⟨by rfl, rfl⟩) ?_ ?_
      rotate_left
      · simp only [Act.put, List.setIfInBounds_toArray, List.set_cons_zero, List.set_cons_succ, i64_w, i32_w]
        rfl
      refine pure_ (i := 22) (N := some 34) (v := undef) (a' := ?_) #[true, true, true, true, true, true, true, true, true, true, true, true, true, true, true, true, true, true, true, true, true, true, true, false, false] rfl rfl (any_of HT_.out (by kernel_rfl)) (fun _ _ _ h => h) (Or.inr ⟨by rfl, rfl⟩) ?_ ?_
      rotate_left
      · simp only [Act.put, List.setIfInBounds_toArray, List.set_cons_zero, List.set_cons_succ, i64_w, i32_w]
        rfl
      refine pure_ (i := 23) (N := some 35) (v := undef) (a' := ?_) #[true, true, true, true, true, true, true, true, true, true, true, true, true, true, true, true, true, true, true, true, true, true, true, true, false] rfl rfl (any_of HT_.out (by kernel_rfl)) (fun _ _ _ h => h) (Or.inr ⟨by rfl, rfl⟩) ?_ ?_
      rotate_left
      · simp only [Act.put, List.setIfInBounds_toArray, List.set_cons_zero, List.set_cons_succ, i64_w, i32_w]
        rfl
      refine pure_ (i := 24) (N := some 36) (v := ?_) (a' := ?_) #[true, true, true, true, true, true, true, true, true, true, true, true, true, true, true, true, true, true, true, true, true, true, true, true, true] rfl rfl (any_of HT_.out (by kernel_rfl)) (fun _ _ _ h => h) (Or.inl ⟨by rfl, ?_⟩) ?_ ?_
      rotate_left
      · intro w'
        go_simp
        with_reducible rfl
      rotate_left
      · simp only [Act.put, List.setIfInBounds_toArray, List.set_cons_zero, List.set_cons_succ, i64_w, i32_w]
        rfl
      refine done_ (done_of HT_.out (by kernel_rfl)) ?_
      try go_wp2
      go_meet
      case rel => exact ⟨_, (true), (by first | rfl | (simp; done) | (simp [*]; done)), H', ⟨by first | omega | exact Nat.le_refl _⟩, ⟨by (with_reducible repeat (first | apply Kd.V_alloc | apply Kd.V_drewN | apply Kd.V_drew)); exact HO495.out⟩, ⟨by (with_reducible repeat (first | apply Kd.V_alloc | apply Kd.V_drewN | apply Kd.V_drew)); exact HO498.out⟩, ⟨by (with_reducible repeat (first | apply Kd.V_alloc | apply Kd.V_drewN | apply Kd.V_drew)); exact HO501.out⟩, ⟨by (with_reducible repeat (first | apply Kd.N_alloc | apply Kd.N_drewN | apply Kd.N_drew)); exact HO504.out⟩, ⟨by (with_reducible repeat (first | apply Kd.R_alloc | apply Kd.R_drewN | apply Kd.R_drew)); exact HO511.out⟩, ⟨by (with_reducible repeat (first | apply Kd.R_alloc | apply Kd.R_drewN | apply Kd.R_drew)); exact HO514.out⟩, ⟨by (with_reducible repeat (first | apply Kd.R_alloc | apply Kd.R_drewN | apply Kd.R_drew)); exact HO517.out⟩, ⟨by (with_reducible repeat (first | apply Kd.N_alloc | apply Kd.N_drewN | apply Kd.N_drew)); exact HO520.out⟩, ⟨by (with_reducible repeat (first | refine blk_drewN ?_ _ | refine blk_drew ?_ | refine blk_alloc ?_ _)); exact BK490.out⟩, ⟨by (with_reducible repeat (first | refine blk_drewN ?_ _ | refine blk_drew ?_ | refine blk_alloc ?_ _)); exact BK523.out⟩, ⟨by repeat (first | (with_reducible first | exact HB.out | apply below_alloc | apply pw_below_drewN | apply below_drew1 | refine below_set ?_ GE490.out | refine below_set ?_ GE523.out) | exact HB.out)⟩⟩
  case rest =>
    clear HC6
    try clear c1
    try clear c2
    try clear p2
    try clear c13
    try clear c23
    try clear c24
    try clear c25
    try clear c25b0
    try clear c25b1
    obtain ⟨kq, x36_5, rfl, HA, HJ5, HO_491002, HO_491003, HO_491004, HO_491005, HO_524002, HO_524003, HO_524004, HO_524005, BK490, BK523, HB⟩ := hcut
    cases kq with
    | zero => exact absurd HA.out (by simp [boltinglaw12_ConfigCanon.j0])
    | succ kj5 =>
      have H := HA.out
      clear HA
      simp only [boltinglaw12_ConfigCanon.j0] at H
      by_cases c53 : x36_5 = true
      · subst c53
        replace H : (some false) = some r := by rw [if_pos rfl] at H; exact H
        exact absurd (Option.some.inj H) (by rw [hT.out]; decide)
      · replace c53 := Bool.eq_false_iff.mpr c53
        subst c53
        replace H : ((config_Check.f t491 t492 t493 t496 t499 t502 t505 t506).bind fun t545 => (if t545 = 0 then ((config_Check.f t507 t508 t509 t512 t515 t518 t521 t522).bind fun t546 => (if t546 = 0 then ((boltingref02_Is.f kj5 t509).bind fun t547 => (if t547 = true then ((boltingref02_Is.f kj5 t512).bind fun t548 => (if t548 = true then ((boltingref02_Is.f kj5 t515).bind fun t549 => (if t549 = true then ((boltinglaw12_fixed.f).bind fun t550 => (some t550)) else (some false))) else (some false))) else (some false))) else (some false))) else ((boltingref02_Is.f kj5 t509).bind fun t551 => (if t551 = true then ((boltingref02_Is.f kj5 t512).bind fun t552 => (if t552 = true then ((boltingref02_Is.f kj5 t515).bind fun t553 => (if t553 = true then ((boltinglaw12_fixed.f).bind fun t554 => (some t554)) else (some false))) else (some false))) else (some false))))) = some r := by rw [if_neg (show ¬ (false = true) by decide)] at H; exact H
        replace H := Option.bind_eq_some_iff.mp H
        obtain ⟨t545, A540, H⟩ := H
        have A54 := Aside0.mk A540
        clear A540
        by_cases c55 : t545 = 0
        · rw [if_pos c55] at H
          have c55b0 : (t545 == 0) = true := beq_iff_eq.mpr c55
          have c55b1 : (t545 != 0) = false := bne_eq_false_iff_eq.mpr c55
          clear c55
          replace H := Option.bind_eq_some_iff.mp H
          obtain ⟨t546, A560, H⟩ := H
          have A56 := Aside0.mk A560
          clear A560
          by_cases c57 : t546 = 0
          · rw [if_pos c57] at H
            have c57b0 : (t546 == 0) = true := beq_iff_eq.mpr c57
            have c57b1 : (t546 != 0) = false := bne_eq_false_iff_eq.mpr c57
            clear c57
            replace H := Option.bind_eq_some_iff.mp H
            obtain ⟨t547, A580, H⟩ := H
            have A58 := Aside0.mk A580
            clear A580
            by_cases c59 : t547 = true
            · subst c59
              replace H : ((boltingref02_Is.f kj5 t512).bind fun t548 => (if t548 = true then ((boltingref02_Is.f kj5 t515).bind fun t549 => (if t549 = true then ((boltinglaw12_fixed.f).bind fun t550 => (some t550)) else (some false))) else (some false))) = some r := by rw [if_pos rfl] at H; exact H
              replace H := Option.bind_eq_some_iff.mp H
              obtain ⟨t548, A600, H⟩ := H
              have A60 := Aside0.mk A600
              clear A600
              by_cases c61 : t548 = true
              · subst c61
                replace H : ((boltingref02_Is.f kj5 t515).bind fun t549 => (if t549 = true then ((boltinglaw12_fixed.f).bind fun t550 => (some t550)) else (some false))) = some r := by rw [if_pos rfl] at H; exact H
                replace H := Option.bind_eq_some_iff.mp H
                obtain ⟨t549, A620, H⟩ := H
                have A62 := Aside0.mk A620
                clear A620
                by_cases c63 : t549 = true
                · subst c63
                  replace H : ((boltinglaw12_fixed.f).bind fun t550 => (some t550)) = some r := by rw [if_pos rfl] at H; exact H
                  replace H := Option.bind_eq_some_iff.mp H
                  obtain ⟨t550, A640, H⟩ := H
                  replace H : (some t550) = some r := H
                  have A64 := Aside0.mk A640
                  clear A640
                  obtain rfl := Option.some.inj H
                  have hnb65 := NB490_523.out
                  have hnc65 := NB523_490.out
                  have hcz66_0 : wc.cell? ⟨gb490, 0, none⟩ = some (.bool t491) := (blk_cell BK490.out 0).trans rfl
                  have hcz66_1 : wc.cell? ⟨gb490, 1, none⟩ = some (.bool t492) := (blk_cell BK490.out 1).trans rfl
                  have hcz66_2 : wc.cell? ⟨gb490, 2, none⟩ = some (.slice Ao11 t493.length co11) := (blk_cell BK490.out 2).trans rfl
                  have hcz66_3 : wc.cell? ⟨gb490, 3, none⟩ = some (.slice Ao12 t496.length co12) := (blk_cell BK490.out 3).trans rfl
                  have hcz66_4 : wc.cell? ⟨gb490, 4, none⟩ = some (.slice Ao13 t499.length co13) := (blk_cell BK490.out 4).trans rfl
                  have hcz66_5 : wc.cell? ⟨gb490, 5, none⟩ = some (.slice Ao14 t502.length co14) := (blk_cell BK490.out 5).trans rfl
                  have hcz66_6 : wc.cell? ⟨gb490, 6, none⟩ = some (.bool t505) := (blk_cell BK490.out 6).trans rfl
                  have hcz66_7 : wc.cell? ⟨gb490, 7, none⟩ = some (.bool t506) := (blk_cell BK490.out 7).trans rfl
                  have hfz66_0 := blk_frozen BK490.out 0
                  have hfz66_1 := blk_frozen BK490.out 1
                  have hfz66_2 := blk_frozen BK490.out 2
                  have hfz66_3 := blk_frozen BK490.out 3
                  have hfz66_4 := blk_frozen BK490.out 4
                  have hfz66_5 := blk_frozen BK490.out 5
                  have hfz66_6 := blk_frozen BK490.out 6
                  have hfz66_7 := blk_frozen BK490.out 7
                  go_wp2_with (first | ((with_reducible refine gate_callee (f := 18) rfl ?_); refine goesL_ (some 38) rfl rfl Try.func18 (by kernel_rfl) rfl #[.agg #[.bool t491, .bool t492, .slice Ao11 t493.length co11, .slice Ao12 t496.length co12, .slice Ao13 t499.length co13, .slice Ao14 t502.length co14, .bool t505, .bool t506]] rfl (by (try simp only [List.map_toArray, List.map_cons, List.map_nil]); first | done | rfl | (simp only [List.length_drop, List.length_take]; rfl)) ?_; (with_reducible refine (config_Check.calls t491 t492 _ _ t493 _ _ t496 _ _ t499 _ _ t502 t505 t506 t545 _ ?side1 ?side2 ?side3 ?side4 ?side5 ?side6 ?side7 ?side8 A54.out).mono ?_); (case side1 => repeat (first | exact (Kd.V_reads' HO_491002.out).2.2 | (with_reducible refine Kd.C_alloc ?_ _) | (with_reducible refine Kd.C_drewN ?_ _) | (with_reducible refine Kd.C_drew ?_))); (case side2 => exact (Kd.V_reads' HO_491002.out).2.1); (case side3 => repeat (first | exact (Kd.V_reads' HO_491003.out).2.2 | (with_reducible refine Kd.C_alloc ?_ _) | (with_reducible refine Kd.C_drewN ?_ _) | (with_reducible refine Kd.C_drew ?_))); (case side4 => exact (Kd.V_reads' HO_491003.out).2.1); (case side5 => repeat (first | exact (Kd.V_reads' HO_491004.out).2.2 | (with_reducible refine Kd.C_alloc ?_ _) | (with_reducible refine Kd.C_drewN ?_ _) | (with_reducible refine Kd.C_drew ?_))); (case side6 => exact (Kd.V_reads' HO_491004.out).2.1); (case side7 => repeat (first | exact (Kd.N_reads' HO_491005.out).2.2 | (with_reducible refine Kd.C_alloc ?_ _) | (with_reducible refine Kd.C_drewN ?_ _) | (with_reducible refine Kd.C_drew ?_))); (case side8 => exact (Kd.N_reads' HO_491005.out).2.1); rintro e w67 ⟨rfl, hb⟩; refine ⟨_, rfl, ?_⟩; have n0_ := Aside0.mk (Kd.V_below (by (with_reducible repeat (first | apply Kd.V_alloc | apply Kd.V_drewN | apply Kd.V_drew)); exact HO_491002.out) hb); have n1_ := Aside0.mk (Kd.V_below (by (with_reducible repeat (first | apply Kd.V_alloc | apply Kd.V_drewN | apply Kd.V_drew)); exact HO_491003.out) hb); have n2_ := Aside0.mk (Kd.V_below (by (with_reducible repeat (first | apply Kd.V_alloc | apply Kd.V_drewN | apply Kd.V_drew)); exact HO_491004.out) hb); have n3_ := Aside0.mk (Kd.N_below (by (with_reducible repeat (first | apply Kd.N_alloc | apply Kd.N_drewN | apply Kd.N_drew)); exact HO_491005.out) hb); have n4_ := Aside0.mk (Kd.R_below (by (with_reducible repeat (first | apply Kd.R_alloc | apply Kd.R_drewN | apply Kd.R_drew)); exact HO_524002.out) hb); have n5_ := Aside0.mk (Kd.R_below (by (with_reducible repeat (first | apply Kd.R_alloc | apply Kd.R_drewN | apply Kd.R_drew)); exact HO_524003.out) hb); have n6_ := Aside0.mk (Kd.R_below (by (with_reducible repeat (first | apply Kd.R_alloc | apply Kd.R_drewN | apply Kd.R_drew)); exact HO_524004.out) hb); have n7_ := Aside0.mk (Kd.N_below (by (with_reducible repeat (first | apply Kd.N_alloc | apply Kd.N_drewN | apply Kd.N_drew)); exact HO_524005.out) hb); have n8_ := Aside0.mk (blk_below (g := gb490) (o := .cells #[.bool t491, .bool t492, .slice Ao11 t493.length co11, .slice Ao12 t496.length co12, .slice Ao13 t499.length co13, .slice Ao14 t502.length co14, .bool t505, .bool t506] 25 (0, 0)) (by (with_reducible repeat (first | refine blk_drewN ?_ _ | refine blk_drew ?_ | refine blk_alloc ?_ _)); exact BK490.out) hb); have n9_ := Aside0.mk (blk_below (g := gb523) (o := .cells #[.bool t507, .bool t508, .slice Ao19 t509.length co19, .slice Ao20 t512.length co20, .slice Ao21 t515.length co21, .slice Ao22 t518.length co22, .bool t521, .bool t522] 25 (0, 0)) (by (with_reducible repeat (first | refine blk_drewN ?_ _ | refine blk_drew ?_ | refine blk_alloc ?_ _)); exact BK523.out) hb); have n10_ := Aside0.mk (below_step (by repeat (first | (with_reducible first | exact HB.out | apply below_alloc | apply pw_below_drewN | apply below_drew1 | refine below_set ?_ GE490.out | refine below_set ?_ GE523.out) | exact HB.out)) hb); clear HO_491002; clear HO_491003; clear HO_491004; clear HO_491005; clear HO_524002; clear HO_524003; clear HO_524004; clear HO_524005; clear BK490; clear BK523; clear HB; have HO_491002 := n0_; have HO_491003 := n1_; have HO_491004 := n2_; have HO_491005 := n3_; have HO_524002 := n4_; have HO_524003 := n5_; have HO_524004 := n6_; have HO_524005 := n7_; have BK490 := n8_; have BK523 := n9_; have HB := n10_; clear n0_ n1_ n2_ n3_ n4_ n5_ n6_ n7_ n8_ n9_ n10_; (try clear hb); (try clear hb2); (try clear hk); (try clear hi); have hcz68_0 : w67.cell? ⟨gb523, 0, none⟩ = some (.bool t507) := (blk_cell BK523.out 0).trans rfl; have hcz68_1 : w67.cell? ⟨gb523, 1, none⟩ = some (.bool t508) := (blk_cell BK523.out 1).trans rfl; have hcz68_2 : w67.cell? ⟨gb523, 2, none⟩ = some (.slice Ao19 t509.length co19) := (blk_cell BK523.out 2).trans rfl; have hcz68_3 : w67.cell? ⟨gb523, 3, none⟩ = some (.slice Ao20 t512.length co20) := (blk_cell BK523.out 3).trans rfl; have hcz68_4 : w67.cell? ⟨gb523, 4, none⟩ = some (.slice Ao21 t515.length co21) := (blk_cell BK523.out 4).trans rfl; have hcz68_5 : w67.cell? ⟨gb523, 5, none⟩ = some (.slice Ao22 t518.length co22) := (blk_cell BK523.out 5).trans rfl; have hcz68_6 : w67.cell? ⟨gb523, 6, none⟩ = some (.bool t521) := (blk_cell BK523.out 6).trans rfl; have hcz68_7 : w67.cell? ⟨gb523, 7, none⟩ = some (.bool t522) := (blk_cell BK523.out 7).trans rfl; have hfz68_0 := blk_frozen BK523.out 0; have hfz68_1 := blk_frozen BK523.out 1; have hfz68_2 := blk_frozen BK523.out 2; have hfz68_3 := blk_frozen BK523.out 3; have hfz68_4 := blk_frozen BK523.out 4; have hfz68_5 := blk_frozen BK523.out 5; have hfz68_6 := blk_frozen BK523.out 6; have hfz68_7 := blk_frozen BK523.out 7) | (go_at_call 18; (with_reducible refine (config_Check.calls t507 t508 _ _ t509 _ _ t512 _ _ t515 _ _ t518 t521 t522 t546 _ ?side1 ?side2 ?side3 ?side4 ?side5 ?side6 ?side7 ?side8 A56.out).mono ?_); (case side1 => repeat (first | exact (Kd.R_reads' HO_524002.out).2.2 | (with_reducible refine Kd.C_alloc ?_ _) | (with_reducible refine Kd.C_drewN ?_ _) | (with_reducible refine Kd.C_drew ?_))); (case side2 => exact (Kd.R_reads' HO_524002.out).2.1); (case side3 => repeat (first | exact (Kd.R_reads' HO_524003.out).2.2 | (with_reducible refine Kd.C_alloc ?_ _) | (with_reducible refine Kd.C_drewN ?_ _) | (with_reducible refine Kd.C_drew ?_))); (case side4 => exact (Kd.R_reads' HO_524003.out).2.1); (case side5 => repeat (first | exact (Kd.R_reads' HO_524004.out).2.2 | (with_reducible refine Kd.C_alloc ?_ _) | (with_reducible refine Kd.C_drewN ?_ _) | (with_reducible refine Kd.C_drew ?_))); (case side6 => exact (Kd.R_reads' HO_524004.out).2.1); (case side7 => repeat (first | exact (Kd.N_reads' HO_524005.out).2.2 | (with_reducible refine Kd.C_alloc ?_ _) | (with_reducible refine Kd.C_drewN ?_ _) | (with_reducible refine Kd.C_drew ?_))); (case side8 => exact (Kd.N_reads' HO_524005.out).2.1); rintro e w69 ⟨rfl, hb⟩; have n0_ := Aside0.mk (Kd.V_below (by (with_reducible repeat (first | apply Kd.V_alloc | apply Kd.V_drewN | apply Kd.V_drew)); exact HO_491002.out) hb); have n1_ := Aside0.mk (Kd.V_below (by (with_reducible repeat (first | apply Kd.V_alloc | apply Kd.V_drewN | apply Kd.V_drew)); exact HO_491003.out) hb); have n2_ := Aside0.mk (Kd.V_below (by (with_reducible repeat (first | apply Kd.V_alloc | apply Kd.V_drewN | apply Kd.V_drew)); exact HO_491004.out) hb); have n3_ := Aside0.mk (Kd.N_below (by (with_reducible repeat (first | apply Kd.N_alloc | apply Kd.N_drewN | apply Kd.N_drew)); exact HO_491005.out) hb); have n4_ := Aside0.mk (Kd.R_below (by (with_reducible repeat (first | apply Kd.R_alloc | apply Kd.R_drewN | apply Kd.R_drew)); exact HO_524002.out) hb); have n5_ := Aside0.mk (Kd.R_below (by (with_reducible repeat (first | apply Kd.R_alloc | apply Kd.R_drewN | apply Kd.R_drew)); exact HO_524003.out) hb); have n6_ := Aside0.mk (Kd.R_below (by (with_reducible repeat (first | apply Kd.R_alloc | apply Kd.R_drewN | apply Kd.R_drew)); exact HO_524004.out) hb); have n7_ := Aside0.mk (Kd.N_below (by (with_reducible repeat (first | apply Kd.N_alloc | apply Kd.N_drewN | apply Kd.N_drew)); exact HO_524005.out) hb); have n8_ := Aside0.mk (blk_below (g := gb490) (o := .cells #[.bool t491, .bool t492, .slice Ao11 t493.length co11, .slice Ao12 t496.length co12, .slice Ao13 t499.length co13, .slice Ao14 t502.length co14, .bool t505, .bool t506] 25 (0, 0)) (by (with_reducible repeat (first | refine blk_drewN ?_ _ | refine blk_drew ?_ | refine blk_alloc ?_ _)); exact BK490.out) hb); have n9_ := Aside0.mk (blk_below (g := gb523) (o := .cells #[.bool t507, .bool t508, .slice Ao19 t509.length co19, .slice Ao20 t512.length co20, .slice Ao21 t515.length co21, .slice Ao22 t518.length co22, .bool t521, .bool t522] 25 (0, 0)) (by (with_reducible repeat (first | refine blk_drewN ?_ _ | refine blk_drew ?_ | refine blk_alloc ?_ _)); exact BK523.out) hb); have n10_ := Aside0.mk (below_step (by repeat (first | (with_reducible first | exact HB.out | apply below_alloc | apply pw_below_drewN | apply below_drew1 | refine below_set ?_ GE490.out | refine below_set ?_ GE523.out) | exact HB.out)) hb); clear HO_491002; clear HO_491003; clear HO_491004; clear HO_491005; clear HO_524002; clear HO_524003; clear HO_524004; clear HO_524005; clear BK490; clear BK523; clear HB; have HO_491002 := n0_; have HO_491003 := n1_; have HO_491004 := n2_; have HO_491005 := n3_; have HO_524002 := n4_; have HO_524003 := n5_; have HO_524004 := n6_; have HO_524005 := n7_; have BK490 := n8_; have BK523 := n9_; have HB := n10_; clear n0_ n1_ n2_ n3_ n4_ n5_ n6_ n7_ n8_ n9_ n10_; (try clear hb); (try clear hb2); (try clear hk); (try clear hi); have hcz70_0 : w69.cell? ⟨gb523, 0, none⟩ = some (.bool t507) := (blk_cell BK523.out 0).trans rfl; have hcz70_1 : w69.cell? ⟨gb523, 1, none⟩ = some (.bool t508) := (blk_cell BK523.out 1).trans rfl; have hcz70_2 : w69.cell? ⟨gb523, 2, none⟩ = some (.slice Ao19 t509.length co19) := (blk_cell BK523.out 2).trans rfl; have hcz70_3 : w69.cell? ⟨gb523, 3, none⟩ = some (.slice Ao20 t512.length co20) := (blk_cell BK523.out 3).trans rfl; have hcz70_4 : w69.cell? ⟨gb523, 4, none⟩ = some (.slice Ao21 t515.length co21) := (blk_cell BK523.out 4).trans rfl; have hcz70_5 : w69.cell? ⟨gb523, 5, none⟩ = some (.slice Ao22 t518.length co22) := (blk_cell BK523.out 5).trans rfl; have hcz70_6 : w69.cell? ⟨gb523, 6, none⟩ = some (.bool t521) := (blk_cell BK523.out 6).trans rfl; have hcz70_7 : w69.cell? ⟨gb523, 7, none⟩ = some (.bool t522) := (blk_cell BK523.out 7).trans rfl; have hfz70_0 := blk_frozen BK523.out 0; have hfz70_1 := blk_frozen BK523.out 1; have hfz70_2 := blk_frozen BK523.out 2; have hfz70_3 := blk_frozen BK523.out 3; have hfz70_4 := blk_frozen BK523.out 4; have hfz70_5 := blk_frozen BK523.out 5; have hfz70_6 := blk_frozen BK523.out 6; have hfz70_7 := blk_frozen BK523.out 7) | (go_at_call 27; (with_reducible refine (boltingref02_Is.calls kj5 _ _ t509 true _ ?side1 ?side2 A58.out).mono ?_); (case side1 => repeat (first | exact (Kd.R_reads' HO_524002.out).2.2 | (with_reducible refine Kd.C_alloc ?_ _) | (with_reducible refine Kd.C_drewN ?_ _) | (with_reducible refine Kd.C_drew ?_))); (case side2 => exact (Kd.R_reads' HO_524002.out).2.1); rintro e w' ⟨rfl, ⟨nd, rfl⟩⟩) | (go_at_call 27; (with_reducible refine (boltingref02_Is.calls kj5 _ _ t512 true _ ?side1 ?side2 A60.out).mono ?_); (case side1 => repeat (first | exact (Kd.R_reads' HO_524003.out).2.2 | (with_reducible refine Kd.C_alloc ?_ _) | (with_reducible refine Kd.C_drewN ?_ _) | (with_reducible refine Kd.C_drew ?_))); (case side2 => exact (Kd.R_reads' HO_524003.out).2.1); rintro e w' ⟨rfl, ⟨nd, rfl⟩⟩) | (go_at_call 27; (with_reducible refine (boltingref02_Is.calls kj5 _ _ t515 true _ ?side1 ?side2 A62.out).mono ?_); (case side1 => repeat (first | exact (Kd.R_reads' HO_524004.out).2.2 | (with_reducible refine Kd.C_alloc ?_ _) | (with_reducible refine Kd.C_drewN ?_ _) | (with_reducible refine Kd.C_drew ?_))); (case side2 => exact (Kd.R_reads' HO_524004.out).2.1); rintro e w' ⟨rfl, ⟨nd, rfl⟩⟩) | (go_at_call 12; (with_reducible refine (boltinglaw12_fixed.calls  t550 _ A64.out).mono ?_); rintro e w71 ⟨rfl, hb⟩; have n0_ := Aside0.mk (Kd.V_below (by (with_reducible repeat (first | apply Kd.V_alloc | apply Kd.V_drewN | apply Kd.V_drew)); exact HO_491002.out) hb); have n1_ := Aside0.mk (Kd.V_below (by (with_reducible repeat (first | apply Kd.V_alloc | apply Kd.V_drewN | apply Kd.V_drew)); exact HO_491003.out) hb); have n2_ := Aside0.mk (Kd.V_below (by (with_reducible repeat (first | apply Kd.V_alloc | apply Kd.V_drewN | apply Kd.V_drew)); exact HO_491004.out) hb); have n3_ := Aside0.mk (Kd.N_below (by (with_reducible repeat (first | apply Kd.N_alloc | apply Kd.N_drewN | apply Kd.N_drew)); exact HO_491005.out) hb); have n4_ := Aside0.mk (Kd.R_below (by (with_reducible repeat (first | apply Kd.R_alloc | apply Kd.R_drewN | apply Kd.R_drew)); exact HO_524002.out) hb); have n5_ := Aside0.mk (Kd.R_below (by (with_reducible repeat (first | apply Kd.R_alloc | apply Kd.R_drewN | apply Kd.R_drew)); exact HO_524003.out) hb); have n6_ := Aside0.mk (Kd.R_below (by (with_reducible repeat (first | apply Kd.R_alloc | apply Kd.R_drewN | apply Kd.R_drew)); exact HO_524004.out) hb); have n7_ := Aside0.mk (Kd.N_below (by (with_reducible repeat (first | apply Kd.N_alloc | apply Kd.N_drewN | apply Kd.N_drew)); exact HO_524005.out) hb); have n8_ := Aside0.mk (blk_below (g := gb490) (o := .cells #[.bool t491, .bool t492, .slice Ao11 t493.length co11, .slice Ao12 t496.length co12, .slice Ao13 t499.length co13, .slice Ao14 t502.length co14, .bool t505, .bool t506] 25 (0, 0)) (by (with_reducible repeat (first | refine blk_drewN ?_ _ | refine blk_drew ?_ | refine blk_alloc ?_ _)); exact BK490.out) hb); have n9_ := Aside0.mk (blk_below (g := gb523) (o := .cells #[.bool t507, .bool t508, .slice Ao19 t509.length co19, .slice Ao20 t512.length co20, .slice Ao21 t515.length co21, .slice Ao22 t518.length co22, .bool t521, .bool t522] 25 (0, 0)) (by (with_reducible repeat (first | refine blk_drewN ?_ _ | refine blk_drew ?_ | refine blk_alloc ?_ _)); exact BK523.out) hb); have n10_ := Aside0.mk (below_step (by repeat (first | (with_reducible first | exact HB.out | apply below_alloc | apply pw_below_drewN | apply below_drew1 | refine below_set ?_ GE490.out | refine below_set ?_ GE523.out) | exact HB.out)) hb); clear HO_491002; clear HO_491003; clear HO_491004; clear HO_491005; clear HO_524002; clear HO_524003; clear HO_524004; clear HO_524005; clear BK490; clear BK523; clear HB; have HO_491002 := n0_; have HO_491003 := n1_; have HO_491004 := n2_; have HO_491005 := n3_; have HO_524002 := n4_; have HO_524003 := n5_; have HO_524004 := n6_; have HO_524005 := n7_; have BK490 := n8_; have BK523 := n9_; have HB := n10_; clear n0_ n1_ n2_ n3_ n4_ n5_ n6_ n7_ n8_ n9_ n10_; (try clear hb); (try clear hb2); (try clear hk); (try clear hi)))
                  go_ret
                  exact ⟨by first | rfl | (simp [errW_none, errW_some] <;> rfl) | (simp [*, errW_none, errW_some] <;> rfl), by repeat (first | (with_reducible first | exact HB.out | apply below_alloc | apply pw_below_drewN | apply below_drew1 | refine below_set ?_ GE490.out | refine below_set ?_ GE523.out) | exact HB.out)⟩
                · replace c63 := Bool.eq_false_iff.mpr c63
                  subst c63
                  replace H : (some false) = some r := by rw [if_neg (show ¬ (false = true) by decide)] at H; exact H
                  exact absurd (Option.some.inj H) (by rw [hT.out]; decide)
              · replace c61 := Bool.eq_false_iff.mpr c61
                subst c61
                replace H : (some false) = some r := by rw [if_neg (show ¬ (false = true) by decide)] at H; exact H
                exact absurd (Option.some.inj H) (by rw [hT.out]; decide)
            · replace c59 := Bool.eq_false_iff.mpr c59
              subst c59
              replace H : (some false) = some r := by rw [if_neg (show ¬ (false = true) by decide)] at H; exact H
              exact absurd (Option.some.inj H) (by rw [hT.out]; decide)
          · rw [if_neg c57] at H
            have c57b0 : (t546 == 0) = false := beq_eq_false_iff_ne.mpr c57
            have c57b1 : (t546 != 0) = true := bne_iff_ne.mpr c57
            exact absurd (Option.some.inj H) (by rw [hT.out]; decide)
        · rw [if_neg c55] at H
          have c55b0 : (t545 == 0) = false := beq_eq_false_iff_ne.mpr c55
          have c55b1 : (t545 != 0) = true := bne_iff_ne.mpr c55
          replace H := Option.bind_eq_some_iff.mp H
          obtain ⟨t551, A950, H⟩ := H
          have A95 := Aside0.mk A950
          clear A950
          by_cases c96 : t551 = true
          · subst c96
            replace H : ((boltingref02_Is.f kj5 t512).bind fun t552 => (if t552 = true then ((boltingref02_Is.f kj5 t515).bind fun t553 => (if t553 = true then ((boltinglaw12_fixed.f).bind fun t554 => (some t554)) else (some false))) else (some false))) = some r := by rw [if_pos rfl] at H; exact H
            replace H := Option.bind_eq_some_iff.mp H
            obtain ⟨t552, A970, H⟩ := H
            have A97 := Aside0.mk A970
            clear A970
            by_cases c98 : t552 = true
            · subst c98
              replace H : ((boltingref02_Is.f kj5 t515).bind fun t553 => (if t553 = true then ((boltinglaw12_fixed.f).bind fun t554 => (some t554)) else (some false))) = some r := by rw [if_pos rfl] at H; exact H
              replace H := Option.bind_eq_some_iff.mp H
              obtain ⟨t553, A990, H⟩ := H
              have A99 := Aside0.mk A990
              clear A990
              by_cases c100 : t553 = true
              · subst c100
                replace H : ((boltinglaw12_fixed.f).bind fun t554 => (some t554)) = some r := by rw [if_pos rfl] at H; exact H
                replace H := Option.bind_eq_some_iff.mp H
                obtain ⟨t554, A1010, H⟩ := H
                replace H : (some t554) = some r := H
                have A101 := Aside0.mk A1010
                clear A1010
                obtain rfl := Option.some.inj H
                have hnb102 := NB490_523.out
                have hnc102 := NB523_490.out
                have hcz103_0 : wc.cell? ⟨gb490, 0, none⟩ = some (.bool t491) := (blk_cell BK490.out 0).trans rfl
                have hcz103_1 : wc.cell? ⟨gb490, 1, none⟩ = some (.bool t492) := (blk_cell BK490.out 1).trans rfl
                have hcz103_2 : wc.cell? ⟨gb490, 2, none⟩ = some (.slice Ao11 t493.length co11) := (blk_cell BK490.out 2).trans rfl
                have hcz103_3 : wc.cell? ⟨gb490, 3, none⟩ = some (.slice Ao12 t496.length co12) := (blk_cell BK490.out 3).trans rfl
                have hcz103_4 : wc.cell? ⟨gb490, 4, none⟩ = some (.slice Ao13 t499.length co13) := (blk_cell BK490.out 4).trans rfl
                have hcz103_5 : wc.cell? ⟨gb490, 5, none⟩ = some (.slice Ao14 t502.length co14) := (blk_cell BK490.out 5).trans rfl
                have hcz103_6 : wc.cell? ⟨gb490, 6, none⟩ = some (.bool t505) := (blk_cell BK490.out 6).trans rfl
                have hcz103_7 : wc.cell? ⟨gb490, 7, none⟩ = some (.bool t506) := (blk_cell BK490.out 7).trans rfl
                have hfz103_0 := blk_frozen BK490.out 0
                have hfz103_1 := blk_frozen BK490.out 1
                have hfz103_2 := blk_frozen BK490.out 2
                have hfz103_3 := blk_frozen BK490.out 3
                have hfz103_4 := blk_frozen BK490.out 4
                have hfz103_5 := blk_frozen BK490.out 5
                have hfz103_6 := blk_frozen BK490.out 6
                have hfz103_7 := blk_frozen BK490.out 7
                go_wp2_with (first | ((with_reducible refine gate_callee (f := 18) rfl ?_); refine goesL_ (some 38) rfl rfl Try.func18 (by kernel_rfl) rfl #[.agg #[.bool t491, .bool t492, .slice Ao11 t493.length co11, .slice Ao12 t496.length co12, .slice Ao13 t499.length co13, .slice Ao14 t502.length co14, .bool t505, .bool t506]] rfl (by (try simp only [List.map_toArray, List.map_cons, List.map_nil]); first | done | rfl | (simp only [List.length_drop, List.length_take]; rfl)) ?_; (with_reducible refine (config_Check.calls t491 t492 _ _ t493 _ _ t496 _ _ t499 _ _ t502 t505 t506 t545 _ ?side1 ?side2 ?side3 ?side4 ?side5 ?side6 ?side7 ?side8 A54.out).mono ?_); (case side1 => repeat (first | exact (Kd.V_reads' HO_491002.out).2.2 | (with_reducible refine Kd.C_alloc ?_ _) | (with_reducible refine Kd.C_drewN ?_ _) | (with_reducible refine Kd.C_drew ?_))); (case side2 => exact (Kd.V_reads' HO_491002.out).2.1); (case side3 => repeat (first | exact (Kd.V_reads' HO_491003.out).2.2 | (with_reducible refine Kd.C_alloc ?_ _) | (with_reducible refine Kd.C_drewN ?_ _) | (with_reducible refine Kd.C_drew ?_))); (case side4 => exact (Kd.V_reads' HO_491003.out).2.1); (case side5 => repeat (first | exact (Kd.V_reads' HO_491004.out).2.2 | (with_reducible refine Kd.C_alloc ?_ _) | (with_reducible refine Kd.C_drewN ?_ _) | (with_reducible refine Kd.C_drew ?_))); (case side6 => exact (Kd.V_reads' HO_491004.out).2.1); (case side7 => repeat (first | exact (Kd.N_reads' HO_491005.out).2.2 | (with_reducible refine Kd.C_alloc ?_ _) | (with_reducible refine Kd.C_drewN ?_ _) | (with_reducible refine Kd.C_drew ?_))); (case side8 => exact (Kd.N_reads' HO_491005.out).2.1); rintro e w104 ⟨rfl, hb⟩; refine ⟨_, rfl, ?_⟩; have n0_ := Aside0.mk (Kd.V_below (by (with_reducible repeat (first | apply Kd.V_alloc | apply Kd.V_drewN | apply Kd.V_drew)); exact HO_491002.out) hb); have n1_ := Aside0.mk (Kd.V_below (by (with_reducible repeat (first | apply Kd.V_alloc | apply Kd.V_drewN | apply Kd.V_drew)); exact HO_491003.out) hb); have n2_ := Aside0.mk (Kd.V_below (by (with_reducible repeat (first | apply Kd.V_alloc | apply Kd.V_drewN | apply Kd.V_drew)); exact HO_491004.out) hb); have n3_ := Aside0.mk (Kd.N_below (by (with_reducible repeat (first | apply Kd.N_alloc | apply Kd.N_drewN | apply Kd.N_drew)); exact HO_491005.out) hb); have n4_ := Aside0.mk (Kd.R_below (by (with_reducible repeat (first | apply Kd.R_alloc | apply Kd.R_drewN | apply Kd.R_drew)); exact HO_524002.out) hb); have n5_ := Aside0.mk (Kd.R_below (by (with_reducible repeat (first | apply Kd.R_alloc | apply Kd.R_drewN | apply Kd.R_drew)); exact HO_524003.out) hb); have n6_ := Aside0.mk (Kd.R_below (by (with_reducible repeat (first | apply Kd.R_alloc | apply Kd.R_drewN | apply Kd.R_drew)); exact HO_524004.out) hb); have n7_ := Aside0.mk (Kd.N_below (by (with_reducible repeat (first | apply Kd.N_alloc | apply Kd.N_drewN | apply Kd.N_drew)); exact HO_524005.out) hb); have n8_ := Aside0.mk (blk_below (g := gb490) (o := .cells #[.bool t491, .bool t492, .slice Ao11 t493.length co11, .slice Ao12 t496.length co12, .slice Ao13 t499.length co13, .slice Ao14 t502.length co14, .bool t505, .bool t506] 25 (0, 0)) (by (with_reducible repeat (first | refine blk_drewN ?_ _ | refine blk_drew ?_ | refine blk_alloc ?_ _)); exact BK490.out) hb); have n9_ := Aside0.mk (blk_below (g := gb523) (o := .cells #[.bool t507, .bool t508, .slice Ao19 t509.length co19, .slice Ao20 t512.length co20, .slice Ao21 t515.length co21, .slice Ao22 t518.length co22, .bool t521, .bool t522] 25 (0, 0)) (by (with_reducible repeat (first | refine blk_drewN ?_ _ | refine blk_drew ?_ | refine blk_alloc ?_ _)); exact BK523.out) hb); have n10_ := Aside0.mk (below_step (by repeat (first | (with_reducible first | exact HB.out | apply below_alloc | apply pw_below_drewN | apply below_drew1 | refine below_set ?_ GE490.out | refine below_set ?_ GE523.out) | exact HB.out)) hb); clear HO_491002; clear HO_491003; clear HO_491004; clear HO_491005; clear HO_524002; clear HO_524003; clear HO_524004; clear HO_524005; clear BK490; clear BK523; clear HB; have HO_491002 := n0_; have HO_491003 := n1_; have HO_491004 := n2_; have HO_491005 := n3_; have HO_524002 := n4_; have HO_524003 := n5_; have HO_524004 := n6_; have HO_524005 := n7_; have BK490 := n8_; have BK523 := n9_; have HB := n10_; clear n0_ n1_ n2_ n3_ n4_ n5_ n6_ n7_ n8_ n9_ n10_; (try clear hb); (try clear hb2); (try clear hk); (try clear hi); have hcz105_0 : w104.cell? ⟨gb523, 0, none⟩ = some (.bool t507) := (blk_cell BK523.out 0).trans rfl; have hcz105_1 : w104.cell? ⟨gb523, 1, none⟩ = some (.bool t508) := (blk_cell BK523.out 1).trans rfl; have hcz105_2 : w104.cell? ⟨gb523, 2, none⟩ = some (.slice Ao19 t509.length co19) := (blk_cell BK523.out 2).trans rfl; have hcz105_3 : w104.cell? ⟨gb523, 3, none⟩ = some (.slice Ao20 t512.length co20) := (blk_cell BK523.out 3).trans rfl; have hcz105_4 : w104.cell? ⟨gb523, 4, none⟩ = some (.slice Ao21 t515.length co21) := (blk_cell BK523.out 4).trans rfl; have hcz105_5 : w104.cell? ⟨gb523, 5, none⟩ = some (.slice Ao22 t518.length co22) := (blk_cell BK523.out 5).trans rfl; have hcz105_6 : w104.cell? ⟨gb523, 6, none⟩ = some (.bool t521) := (blk_cell BK523.out 6).trans rfl; have hcz105_7 : w104.cell? ⟨gb523, 7, none⟩ = some (.bool t522) := (blk_cell BK523.out 7).trans rfl; have hfz105_0 := blk_frozen BK523.out 0; have hfz105_1 := blk_frozen BK523.out 1; have hfz105_2 := blk_frozen BK523.out 2; have hfz105_3 := blk_frozen BK523.out 3; have hfz105_4 := blk_frozen BK523.out 4; have hfz105_5 := blk_frozen BK523.out 5; have hfz105_6 := blk_frozen BK523.out 6; have hfz105_7 := blk_frozen BK523.out 7) | (go_at_call 27; (with_reducible refine (boltingref02_Is.calls kj5 _ _ t509 true _ ?side1 ?side2 A95.out).mono ?_); (case side1 => repeat (first | exact (Kd.R_reads' HO_524002.out).2.2 | (with_reducible refine Kd.C_alloc ?_ _) | (with_reducible refine Kd.C_drewN ?_ _) | (with_reducible refine Kd.C_drew ?_))); (case side2 => exact (Kd.R_reads' HO_524002.out).2.1); rintro e w' ⟨rfl, ⟨nd, rfl⟩⟩) | (go_at_call 27; (with_reducible refine (boltingref02_Is.calls kj5 _ _ t512 true _ ?side1 ?side2 A97.out).mono ?_); (case side1 => repeat (first | exact (Kd.R_reads' HO_524003.out).2.2 | (with_reducible refine Kd.C_alloc ?_ _) | (with_reducible refine Kd.C_drewN ?_ _) | (with_reducible refine Kd.C_drew ?_))); (case side2 => exact (Kd.R_reads' HO_524003.out).2.1); rintro e w' ⟨rfl, ⟨nd, rfl⟩⟩) | (go_at_call 27; (with_reducible refine (boltingref02_Is.calls kj5 _ _ t515 true _ ?side1 ?side2 A99.out).mono ?_); (case side1 => repeat (first | exact (Kd.R_reads' HO_524004.out).2.2 | (with_reducible refine Kd.C_alloc ?_ _) | (with_reducible refine Kd.C_drewN ?_ _) | (with_reducible refine Kd.C_drew ?_))); (case side2 => exact (Kd.R_reads' HO_524004.out).2.1); rintro e w' ⟨rfl, ⟨nd, rfl⟩⟩) | (go_at_call 12; (with_reducible refine (boltinglaw12_fixed.calls  t554 _ A101.out).mono ?_); rintro e w106 ⟨rfl, hb⟩; have n0_ := Aside0.mk (Kd.V_below (by (with_reducible repeat (first | apply Kd.V_alloc | apply Kd.V_drewN | apply Kd.V_drew)); exact HO_491002.out) hb); have n1_ := Aside0.mk (Kd.V_below (by (with_reducible repeat (first | apply Kd.V_alloc | apply Kd.V_drewN | apply Kd.V_drew)); exact HO_491003.out) hb); have n2_ := Aside0.mk (Kd.V_below (by (with_reducible repeat (first | apply Kd.V_alloc | apply Kd.V_drewN | apply Kd.V_drew)); exact HO_491004.out) hb); have n3_ := Aside0.mk (Kd.N_below (by (with_reducible repeat (first | apply Kd.N_alloc | apply Kd.N_drewN | apply Kd.N_drew)); exact HO_491005.out) hb); have n4_ := Aside0.mk (Kd.R_below (by (with_reducible repeat (first | apply Kd.R_alloc | apply Kd.R_drewN | apply Kd.R_drew)); exact HO_524002.out) hb); have n5_ := Aside0.mk (Kd.R_below (by (with_reducible repeat (first | apply Kd.R_alloc | apply Kd.R_drewN | apply Kd.R_drew)); exact HO_524003.out) hb); have n6_ := Aside0.mk (Kd.R_below (by (with_reducible repeat (first | apply Kd.R_alloc | apply Kd.R_drewN | apply Kd.R_drew)); exact HO_524004.out) hb); have n7_ := Aside0.mk (Kd.N_below (by (with_reducible repeat (first | apply Kd.N_alloc | apply Kd.N_drewN | apply Kd.N_drew)); exact HO_524005.out) hb); have n8_ := Aside0.mk (blk_below (g := gb490) (o := .cells #[.bool t491, .bool t492, .slice Ao11 t493.length co11, .slice Ao12 t496.length co12, .slice Ao13 t499.length co13, .slice Ao14 t502.length co14, .bool t505, .bool t506] 25 (0, 0)) (by (with_reducible repeat (first | refine blk_drewN ?_ _ | refine blk_drew ?_ | refine blk_alloc ?_ _)); exact BK490.out) hb); have n9_ := Aside0.mk (blk_below (g := gb523) (o := .cells #[.bool t507, .bool t508, .slice Ao19 t509.length co19, .slice Ao20 t512.length co20, .slice Ao21 t515.length co21, .slice Ao22 t518.length co22, .bool t521, .bool t522] 25 (0, 0)) (by (with_reducible repeat (first | refine blk_drewN ?_ _ | refine blk_drew ?_ | refine blk_alloc ?_ _)); exact BK523.out) hb); have n10_ := Aside0.mk (below_step (by repeat (first | (with_reducible first | exact HB.out | apply below_alloc | apply pw_below_drewN | apply below_drew1 | refine below_set ?_ GE490.out | refine below_set ?_ GE523.out) | exact HB.out)) hb); clear HO_491002; clear HO_491003; clear HO_491004; clear HO_491005; clear HO_524002; clear HO_524003; clear HO_524004; clear HO_524005; clear BK490; clear BK523; clear HB; have HO_491002 := n0_; have HO_491003 := n1_; have HO_491004 := n2_; have HO_491005 := n3_; have HO_524002 := n4_; have HO_524003 := n5_; have HO_524004 := n6_; have HO_524005 := n7_; have BK490 := n8_; have BK523 := n9_; have HB := n10_; clear n0_ n1_ n2_ n3_ n4_ n5_ n6_ n7_ n8_ n9_ n10_; (try clear hb); (try clear hb2); (try clear hk); (try clear hi)))
                go_ret
                exact ⟨by first | rfl | (simp [errW_none, errW_some] <;> rfl) | (simp [*, errW_none, errW_some] <;> rfl), by repeat (first | (with_reducible first | exact HB.out | apply below_alloc | apply pw_below_drewN | apply below_drew1 | refine below_set ?_ GE490.out | refine below_set ?_ GE523.out) | exact HB.out)⟩
              · replace c100 := Bool.eq_false_iff.mpr c100
                subst c100
                replace H : (some false) = some r := by rw [if_neg (show ¬ (false = true) by decide)] at H; exact H
                exact absurd (Option.some.inj H) (by rw [hT.out]; decide)
            · replace c98 := Bool.eq_false_iff.mpr c98
              subst c98
              replace H : (some false) = some r := by rw [if_neg (show ¬ (false = true) by decide)] at H; exact H
              exact absurd (Option.some.inj H) (by rw [hT.out]; decide)
          · replace c96 := Bool.eq_false_iff.mpr c96
            subst c96
            replace H : (some false) = some r := by rw [if_neg (show ¬ (false = true) by decide)] at H; exact H
            exact absurd (Option.some.inj H) (by rw [hT.out]; decide)

end Go.Proofs.Ytjofofpplpmgjaa.Pr
