/- loop.Sources: its contract (maps.Keys, slices.Sorted by the shelf's). -/
import Derived.Test.YtldbplagenjooaaLoopWaits
import Derived.Shelf.SlIterI.Nil
import Derived.Shelf.SlIterI.Sorted
namespace Go.Proofs.Ytldbplagenjooaa
set_option linter.unusedVariables false
set_option linter.unusedSimpArgs false
open Go.RowKit Go.Lib Go.Shelf Go.Maps Go.Sort Go.Proofs.YtldbplagenjooaaW.PrintWords Go.Proofs.YtldbplagenjooaaW.PrintLast

def keysRen : Go.Shelf.Ren := ⟨fun | 7 => 26 | 10 => 29 | n => n, fun | 23 => 50 | 26 => 3 | 3 => 22 | 28 => 56 | 0 => 0 | 27 => 55 | 33 => 61 | 4 => 4 | n => n, fun n => n⟩
theorem keysLay : SlLaysZI.n7 Try.prog keysRen := {
  mixed := by kernel_rfl
  f7 := ⟨"maps.Keys[map[int][]string,int,[]string]", by decide, Try.func26.trans (congrArg some (by kernel_rfl))⟩
  f10 := ⟨"maps.Keys[map[int][]string,int,[]string]$1", by decide, Try.func29.trans (congrArg some (by kernel_rfl))⟩
  t0 := Try.underlying0
  a0 := Try.isAgg0
  z0 := Try.sizeOf0
  v0 := Try.zeroValue0
  t4 := Try.underlying4
  a4 := Try.isAgg4
  z4 := Try.sizeOf4
  v4 := Try.zeroValue4
  t23 := Try.underlying50
  a23 := Try.isAgg50
  z23 := Try.sizeOf50
  v23 := Try.zeroValue50
  t26 := Try.underlying3
  a26 := Try.isAgg3
  z26 := Try.sizeOf3
  v26 := Try.zeroValue3
  t27 := Try.underlying55
  a27 := Try.isAgg55
  z27 := Try.sizeOf55
  v27 := Try.zeroValue55
  t28 := Try.underlying56
  a28 := Try.isAgg56
  z28 := Try.sizeOf56
  v28 := Try.zeroValue56
  t33 := Try.underlying61
  a33 := Try.isAgg61
  z33 := Try.sizeOf61
  v33 := Try.zeroValue61 }
def sortedRen : Go.Shelf.Ren := ⟨fun | 6 => 25 | 8 => 27 | 9 => 28 | 11 => 30 | n => n, fun | 26 => 3 | 28 => 56 | 24 => 34 | 0 => 0 | 33 => 61 | 4 => 4 | n => n, fun n => n⟩
theorem sortedLay : SlLaysZI.n6 Try.prog sortedRen := {
  mixed := by kernel_rfl
  f6 := ⟨"slices.Sorted[int]", by decide, Try.func25.trans (congrArg some (by kernel_rfl))⟩
  f8 := ⟨"slices.Collect[int]", by decide, Try.func27.trans (congrArg some (by kernel_rfl))⟩
  f11 := ⟨"slices.AppendSeq[[]int,int]", by decide, Try.func30.trans (congrArg some (by kernel_rfl))⟩
  t0 := Try.underlying0
  a0 := Try.isAgg0
  z0 := Try.sizeOf0
  v0 := Try.zeroValue0
  t24 := Try.underlying34
  a24 := Try.isAgg34
  z24 := Try.sizeOf34
  v24 := Try.zeroValue34
  t26 := Try.underlying3
  a26 := Try.isAgg3
  z26 := Try.sizeOf3
  v26 := Try.zeroValue3
  t28 := Try.underlying56
  a28 := Try.isAgg56
  z28 := Try.sizeOf56
  v28 := Try.zeroValue56
  i26 := by kernel_rfl }
theorem sortsAt (m : Nat) : AnyZI.SortsIn Try.prog sortedRen Fence.wide m :=
  ⟨fun blk off cap ss W hH hblk hsz => callsIn_wide.2 (Try.slices_Sort_int blk off cap ss W hH hblk hsz),
   fun p cap W => callsIn_wide.2 (Try.slices_Sort_int_none p cap W)⟩
/-- The sources that have tasks. -/
def srcs (T : Int → List ByteArray) : List Int := [0, 1, 2, 3, 4, 5, 6, 7].filter fun k => decide (T k ≠ [])
theorem mem_srcs {T : Int → List ByteArray} (h : ∀ k, T k ≠ [] → 0 ≤ k ∧ k < 8) (x : Int) : x ∈ srcs T ↔ T x ≠ [] := by
  unfold srcs
  rw [List.mem_filter, decide_eq_true_eq]
  constructor
  · exact fun g => g.2
  · intro g
    have := h x g
    refine ⟨?_, g⟩
    have hs : x = 0 ∨ x = 1 ∨ x = 2 ∨ x = 3 ∨ x = 4 ∨ x = 5 ∨ x = 6 ∨ x = 7 := by omega
    rcases hs with rfl | rfl | rfl | rfl | rfl | rfl | rfl | rfl <;> simp
theorem srcs_pair (T : Int → List ByteArray) : (srcs T).Pairwise (· < ·) := List.Pairwise.filter _ (by decide)
theorem srcs_sorted (T : Int → List ByteArray) : (srcs T).mergeSort (fun x y => decide (x ≤ y)) = srcs T := by
  apply List.mergeSort_of_pairwise
  exact (srcs_pair T).imp (fun h => decide_eq_true (Int.le_of_lt h))
theorem srcs_perm {w : World} {ok : Nat → Prop} {p n b : Nat} {vS : Value} {D : DataW Value} {fn : Int → Value} {T : Int → List ByteArray} {S : List ByteArray} (h : LoopIs w ok p n b vS D fn T S) {ss : List Int} (hp : ss.Perm (intKeys D)) : ss.mergeSort (fun x y => decide (x ≤ y)) = srcs T := by
  have h1 : (srcs T).Perm (intKeys D) := CollectedI.perm (left := fun _ => false) (D0 := D) ⟨(srcs_pair T).imp (fun g => Int.ne_of_lt g), fun x => by
    rw [mem_srcs h.rng]
    show _ ↔ (Maps.has D (key x) = true ∧ _)
    rw [h.has x]
    simp⟩ h.map law_key Try.underlying3 (fun _ => rfl)
  have h2 := mergeSort_of_perm_i (hp.trans h1.symm)
  exact h2.trans (srcs_sorted T)
set_option maxHeartbeats 1000000 in
theorem sources_calls {w : World} {ok : Nat → Prop} {p n : Nat} {T : Int → List ByteArray} {S : List ByteArray} (hn : n ≤ 1000000) (h : LoopAt w ok p n T S) :
    Calls Try.prog 16 #[.pointer (some ⟨p, 0, none⟩)] w fun e w' => ∃ v, e = .returned v ∧ w'.ownsRow w.heap.size 3 1 v (srcs T).length ((srcs T).map (Value.int .i64)) ∧ Below w.heap.size w w' := by
  obtain ⟨b, vS, D, fn, h⟩ := h
  have c0 : w.cell? ⟨p, 0, none⟩ = some (.map (some b)) := (blk_cell h.blk 0).trans rfl
  have hown := h.map
  have hbl := hown.lt
  have hsz : Maps.size D ≤ n := hown.size_le
  refine (callsIn_wide (n := 6)).1 ?_
  have hseq : SeqGives Fence.wide 2 Try.prog 29 #[.pointer (some ⟨w.heap.size, 0, none⟩)] encZ (fun ss => ss.Perm (intKeys D)) (Maps.size D) (w.alloc (.cells #[.map (some b)] 50)) :=
    AnyZI.keys_gives (ρ := keysRen) { keysLay with } Fence.wide _ trivial rfl (by omega) w.heap.size b n D _ (by simp) (by simp) (map_move hown (Below.heap_alloc _ _ b hbl))
  have cK : ∀ mb W, CallsIn Fence.wide 5 Try.prog 26 #[.map mb] W fun e w' => e = .returned (.func (.func 29) #[] #[.pointer (some ⟨W.heap.size, 0, none⟩)]) ∧ w' = W.alloc (.cells #[.map mb] 50) := fun mb W => AnyZI.keys_in keysLay Fence.wide 5 trivial rfl mb W
  have cS := AnyZI.sorted_in sortedLay Fence.wide 5 trivial trivial trivial trivial rfl (by omega) (sortsAt _) (enters_of Try.func28 (by kernel_rfl) rfl) 29 #[.pointer (some ⟨w.heap.size, 0, none⟩)] trivial (enters_of Try.func29 (by kernel_rfl) rfl) _ _ (by unfold maxLen; omega) (by omega) _ hseq
  change CallsIn _ _ Try.prog 25 _ _ _ at cS
  have HH := hid h
  clear h hown hseq
  have hfK : Fence.wide.fn 26 := trivial
  have hfS : Fence.wide.fn 25 := trivial
  refine callsIn_of_wp Try.func16 rfl trivial ?_ rfl
  simp only [Try.ntmps16, List.size_toArray, List.length_cons, List.length_nil, Nat.reduceAdd, Nat.reduceSub, Array.replicate_succ, Array.replicate_zero, List.push_toArray, List.append_toArray, List.nil_append, List.cons_append]
  gi_wp2_with (first
    | (gi_at_call 26; refine (cK _ _).mono ?_; rintro e w' ⟨rfl, rfl⟩)
    | (gi_at_call 25; refine cS.mono ?_; rintro e w' ⟨v, ss, rfl, hS, hrow, hnil, hb⟩))
  go_ret
  have hl := srcs_perm HH.out hS
  rw [hl] at hrow
  have hlen : ss.length = (srcs T).length := by rw [← hl, List.length_mergeSort]
  rw [hlen] at hrow
  exact ⟨v, rfl, ownsRow_base_a hrow (by simp), ((Below.refl _ w).alloc (Nat.le_refl _) _).trans (hb.mono (by simp))⟩
end Go.Proofs.Ytldbplagenjooaa
