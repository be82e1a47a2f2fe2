/- fold.Find's contract, on lists that do not fall: sort.Search (the shelf's contract) with its closure. -/
import Derived.Test.YtmbmjaiggefjmaaShelf
import Derived.Test.YtmbmjaiggefjmaaBase
import Derived.Test.YtmbmjaiggefjmaaWWords
import Derived.Shelf.SlSorted.Search
namespace Go.Proofs.Ytmbmjaiggefjmaa
set_option linter.unusedVariables false
set_option linter.unusedSimpArgs false
open Go.RowKit Go.Lib Go.Shelf Go.Sort Go.Proofs.YtmbmjaiggefjmaaW.PrintWords

def search_ren : Ren := ⟨fun | 16 => 37 | n => n, fun | 3 => 3 | 4 => 4 | 35 => 44 | 38 => 50 | n => n, fun n => n⟩
theorem search_lays : SlLaysO.n16 Try.prog search_ren := {
  mixed := by kernel_rfl
  f16 := Try.func37.trans (congrArg some (by kernel_rfl))
  t3 := Try.underlying3
  a3 := Try.isAgg3
  z3 := Try.sizeOf3
  v3 := Try.zeroValue3
  t4 := Try.underlying4
  a4 := Try.isAgg4
  z4 := Try.sizeOf4
  v4 := Try.zeroValue4
  t35 := Try.underlying44
  a35 := Try.isAgg44
  z35 := Try.sizeOf44
  v35 := Try.zeroValue44
  t38 := Try.underlying50
  a38 := Try.isAgg50
  z38 := Try.sizeOf50
  v38 := Try.zeroValue50 }

set_option maxHeartbeats 2000000 in
theorem find_closure (ba bx cap n : Nat) (ad : Addr) (y x : ByteArray) (i : Nat) (W : World) (hi : i < n)
    (ha : W.cell? ⟨ba, 0, none⟩ = some (.slice (some ad) n cap)) (hx : W.cell? ⟨bx, 0, none⟩ = some (Value.string x)) (hc : W.cell? (ad.add i) = some (Value.string y)) :
    Calls Try.prog 38 (#[.int .i64 i] ++ #[.pointer (some ⟨ba, 0, none⟩), .pointer (some ⟨bx, 0, none⟩)]) W fun e w' => e = .returned (.bool (!decide (y.data.toList < x.data.toList))) ∧ ∃ q, w' = W.drewN q := by
  have mixed : Try.prog.follows Departure.mixedOrders = true := by kernel_rfl
  have hiz : (i : Int) < (n : Int) := by omega
  go_enter Try.func38, Try.ntmps38
  go_wp2
  go_region_o
  all_goals go_wp2
  all_goals go_ret
  all_goals exact ⟨by first | rfl | (rw [bytesLess_eq, Lib.toList_data, Lib.toList_data]; rfl) | simp, 1, rfl⟩
theorem toList_beq (a b : ByteArray) : (a.toList == b.toList) = decide (a = b) := by
  rw [Bool.eq_iff_iff, beq_iff_eq, decide_eq_true_iff, Lib.toList_data, Lib.toList_data]
  constructor
  · intro h; rw [← Lib.mk_data a, h, Lib.mk_data b]
  · rintro rfl; rfl
def Asc (l : List ByteArray) : Prop := l.Pairwise fun a b => a.data.toList ≤ b.data.toList
instance (l : List ByteArray) : Decidable (Asc l) := by unfold Asc; infer_instance
/-- How many texts of a list are less. -/
def below (l : List ByteArray) (x : ByteArray) : Nat := l.countP fun y => decide (y.data.toList < x.data.toList)
def fold_Find.f (l0 : List ByteArray) (a1 : ByteArray) : Option (Int × Bool) :=
  if Asc l0 ∧ l0.length < 4611686018427387904 then some ((below l0 a1 : Int), decide (l0[below l0 a1]? = some a1)) else none
theorem asc_mono {l : List ByteArray} (h : Asc l) (x : ByteArray) {a b : Nat} (hab : a ≤ b) (hb : b < l.length) (hp : (!decide ((l.getD a ByteArray.empty).data.toList < x.data.toList)) = true) : (!decide ((l.getD b ByteArray.empty).data.toList < x.data.toList)) = true := by
  rcases Nat.lt_or_ge a b with hlt | hge
  · have h1 := List.pairwise_iff_getElem.1 h a b (by omega) hb hlt
    simp only [List.getD_eq_getElem?_getD, List.getElem?_eq_getElem (show a < l.length by omega), List.getElem?_eq_getElem hb, Option.getD_some, Bool.not_eq_true', decide_eq_false_iff_not] at hp ⊢
    exact fun h2 => hp (List.lt_of_le_of_lt h1 h2)
  · obtain rfl : b = a := by omega
    exact hp
theorem count_below (l : List ByteArray) (x : ByteArray) : (List.range l.length).countP (fun i => !(!decide ((l.getD i ByteArray.empty).data.toList < x.data.toList))) = below l x := by
  have h := Lib.countP_range (α := ByteArray) l.toArray (fun y => !!decide (y.data.toList < x.data.toList))
  unfold below
  rw [show (fun y : ByteArray => decide (y.data.toList < x.data.toList)) = fun y => !!decide (y.data.toList < x.data.toList) from by funext y; simp]
  rw [← h]
  simp only [List.size_toArray]
  apply List.countP_congr
  intro i hi
  rw [List.mem_range] at hi
  simp [List.getD_eq_getElem?_getD, hi]
set_option maxHeartbeats 4000000 in
theorem fold_Find.calls (A0 : Option Addr) (c0 : Nat) (l0 : List ByteArray) (a1 : ByteArray) (r0 : Int) (r1 : Bool) (w : World) (hr0 : Kd.C Kd.string w A0 l0.length l0) (hc0 : l0.length ≤ c0) (h : fold_Find.f l0 a1 = some (r0, r1)) :
    Calls Try.prog 27 #[.slice A0 l0.length c0, .string a1] w fun e w' => e = .returned (.tuple #[.int .i64 r0, .bool r1]) ∧ Below w.heap.size w w' := by
  unfold fold_Find.f at h
  split at h
  case isFalse => cases h
  rename_i hg
  obtain ⟨hasc, hsz⟩ := hg
  obtain ⟨rfl, rfl⟩ : (below l0 a1 : Int) = r0 ∧ decide (l0[below l0 a1]? = some a1) = r1 := by simpa using h
  clear h
  have hrd := Kd.reads_of_C (d := ByteArray.empty) hr0
  obtain ⟨W0, hW0⟩ : ∃ W0, W0 = (w.alloc (.cells #[.slice A0 l0.length c0] 27)).alloc (.cells #[.string a1] 9) := ⟨_, rfl⟩
  have hsize : W0.heap.size = w.heap.size + 1 + 1 := by rw [hW0]; simp
  have ca : W0.cell? ⟨w.heap.size, 0, none⟩ = some (.slice A0 l0.length c0) := by rw [hW0]; exact cell_alloc_sl _ (cell_new_sl w _ _)
  have cx : W0.cell? ⟨w.heap.size + 1, 0, none⟩ = some (Value.string a1) := by rw [hW0]; have := cell_new_sl (w.alloc (.cells #[.slice A0 l0.length c0] 27)) (Value.string a1) 9; rwa [World.size_alloc] at this
  have hB0 : Below w.heap.size w W0 := by rw [hW0]; exact ((Below.refl _ w).alloc (Nat.le_refl _) _).alloc (by simp) _
  have hrd0 := hrd.below hB0
  have eg : ∀ args w, (callFunc 38 args).run Try.prog w = .ok (.enter 38 args) w := enters_of Try.func38 (by kernel_rfl) rfl
  have hS := Any.sort_Search search_lays 38 #[.pointer (some ⟨w.heap.size, 0, none⟩), .pointer (some ⟨w.heap.size + 1, 0, none⟩)] l0.length (fun i => !decide ((l0.getD i ByteArray.empty).data.toList < a1.data.toList)) W0 eg hsz
    (fun m os i hi => by
      obtain ⟨ad, rfl, hcell⟩ := hrd0.2.2 (by omega)
      have hci := hcell i hi
      exact (find_closure w.heap.size (w.heap.size + 1) c0 l0.length ad _ a1 i _ hi (cell_grown (by simp [hsize]; omega) ca m os) (cell_grown (by simp [hsize]) cx m os) (cell_grown (by simpa using World.block_lt_of_cell? _ _ hci) hci m os)).mono
        fun _ _ ⟨he, q, hq⟩ => ⟨he, q, #[], by rw [hq, grow_empty]⟩) (fun a b hab hb => asc_mono hasc a1 hab hb)
  rw [count_below] at hS
  have mixed : Try.prog.follows Departure.mixedOrders = true := by kernel_rfl
  change Calls Try.prog 37 _ _ _ at hS
  have key : ∀ q os, ∃ W2, W2 = grow (W0.drewN q) os ∧ W2.cell? ⟨w.heap.size, 0, none⟩ = some (.slice A0 l0.length c0) ∧ W2.cell? ⟨w.heap.size + 1, 0, none⟩ = some (Value.string a1) ∧ ReadsOf Value.string ByteArray.empty W2 A0 l0.length l0 ∧ Below w.heap.size w W2 := fun q os =>
    ⟨_, rfl, cell_grown (by simp [hsize]; omega) ca q os, cell_grown (by simp [hsize]) cx q os, hrd0.below (below_grown_sl _ W0 q os (Nat.le_refl _)), hB0.trans (below_grown_sl w.heap.size W0 q os (by omega))⟩
  obtain ⟨n, hn⟩ : ∃ n, below l0 a1 = n := ⟨_, rfl⟩
  rw [hn] at hS ⊢
  clear hrd hr0 hrd0 ca cx eg hB0 hn hasc
  have HS := hid hS
  have HK := hid key
  have HW := hid hW0
  clear hS key hW0 hsize
  rcases Nat.lt_or_ge n l0.length with hlt | hge
  · have hnz : (n : Int) < (l0.length : Int) := by omega
    go_enter Try.func27, Try.ntmps27
    go_wp2_with (go_at_call 37; rw [← HW.out]; refine HS.out.mono ?_; rintro e w' ⟨rfl, q, os, rfl⟩; obtain ⟨W2, hW2, ka, kx, kr, kb⟩ := HK.out q os; rw [← hW2]; clear hW2; obtain ⟨ad, rfl, hcell⟩ := kr.2.2 (by omega); have hc1 := hcell n hlt)
    go_region_o
    all_goals go_wp2
    all_goals go_ret2
    all_goals (refine ⟨?_, below_drew kb⟩; simp [hlt]; exact toList_beq _ _)
  · have hnz : ¬ (n : Int) < (l0.length : Int) := by omega
    have hnn : ¬ n < l0.length := by omega
    go_enter Try.func27, Try.ntmps27
    go_wp2_with (go_at_call 37; rw [← HW.out]; refine HS.out.mono ?_; rintro e w' ⟨rfl, q, os, rfl⟩; obtain ⟨W2, hW2, ka, kx, kr, kb⟩ := HK.out q os; rw [← hW2]; clear hW2)
    go_region_o
    all_goals go_wp2
    all_goals go_ret2
    all_goals (refine ⟨?_, below_drew kb⟩; simp [hge])
end Go.Proofs.Ytmbmjaiggefjmaa
