/- strings.Split at a separator of one byte. -/
import Derived.Test.YthblohknnlkidaaDoorShelf
import Derived.Test.YthblohknnlkidaaDoorBase
import Derived.Test.YthblohknnlkidaaDoorWWords
import Derived.Lib.Split
namespace Go.Proofs.YthblohknnlkidaaDoor
set_option linter.unusedVariables false
set_option linter.unusedSimpArgs false
open Go.RowKit Go.Lib

/-- The pieces between the bytes c. -/
def cutAt (c : UInt8) : List UInt8 → List (List UInt8)
  | [] => [[]]
  | b :: t => if b = c then [] :: cutAt c t else match cutAt c t with
    | [] => [[b]]
    | w :: r => (b :: w) :: r
theorem cutAt_ne (c : UInt8) : ∀ l, cutAt c l ≠ []
  | [] => by simp [cutAt]
  | b :: t => by
    unfold cutAt
    split
    · simp
    · split <;> simp
theorem cutAt_none {c : UInt8} : ∀ {l : List UInt8}, (∀ x ∈ l, x ≠ c) → cutAt c l = [l]
  | [], _ => rfl
  | b :: t, h => by
    unfold cutAt
    rw [if_neg (h b (by simp)), cutAt_none (fun x hx => h x (by simp [hx]))]
theorem cutAt_app {c : UInt8} : ∀ {a : List UInt8} (b : List UInt8), (∀ x ∈ a, x ≠ c) → cutAt c (a ++ c :: b) = a :: cutAt c b
  | [], b, _ => by simp [cutAt]
  | x :: t, b, h => by
    rw [List.cons_append]
    show (if x = c then _ else _) = _
    rw [if_neg (h x (by simp)), cutAt_app b (fun y hy => h y (by simp [hy]))]
theorem indexB_one (s : ByteArray) (c : UInt8) : indexB s ⟨#[c]⟩ = indexByte s.data.toList c := index_one _ _
theorem splitB_cut (c : UInt8) : ∀ (k : Nat) (s : ByteArray), s.data.toList.count c ≤ k → splitB ⟨#[c]⟩ 0 k s = (cutAt c s.data.toList).map mkS
  | 0, s, h => by
    rw [splitB_zero, cutAt_none (fun x hx e => by
      subst e
      have := List.count_pos_iff.2 hx
      omega)]
    simp [mkS]
  | k + 1, s, h => by
    by_cases hi : indexByte s.data.toList c = -1
    · rw [splitB_miss _ _ _ _ (by rw [indexB_one]; exact hi)]
      have hn := indexByte_none hi
      rw [cutAt_none (fun x hx e => by
        subst e
        obtain ⟨j, hj⟩ := List.mem_iff_getElem?.1 hx
        exact hn j hj)]
      simp [mkS]
    · have hge := indexByte_ge s.data.toList c
      obtain ⟨i, hi'⟩ : ∃ i : Nat, indexByte s.data.toList c = i := ⟨(indexByte s.data.toList c).toNat, by omega⟩
      obtain ⟨h1, h2⟩ := indexByte_some hi'
      have hlt : i < s.data.toList.length := (List.getElem?_eq_some_iff.1 h1).1
      have hsplit : s.data.toList = s.data.toList.take i ++ c :: s.data.toList.drop (i + 1) := by
        conv => lhs; rw [← List.take_append_drop i s.data.toList, drop_one h1]
      have hno : ∀ x ∈ s.data.toList.take i, x ≠ c := by
        intro x hx e
        subst e
        obtain ⟨j, hj⟩ := List.mem_iff_getElem?.1 hx
        rw [List.getElem?_take] at hj
        split at hj
        · exact h2 j (by assumption) hj
        · cases hj
      rw [splitB_hit _ _ k s i (by rw [indexB_one]; exact hi')]
      have e1 : s.extract 0 (i + 0) = mkS (s.data.toList.take i) := by rw [Nat.add_zero, extract_pre]; rfl
      have e2 : s.extract (i + (⟨#[c]⟩ : ByteArray).size) s.size = mkS (s.data.toList.drop (i + 1)) := extract_suf s (i + 1)
      rw [e1, e2, splitB_cut c k _ (by
        show (s.data.toList.drop (i + 1)).count c ≤ k
        rw [hsplit, List.count_append, List.count_cons] at h
        simp at h
        omega)]
      conv => rhs; rw [hsplit, cutAt_app _ hno]
      rfl
theorem countB_one (s : ByteArray) (c : UInt8) : countB s ⟨#[c]⟩ = s.data.toList.count c := Lib.count_one c _
set_option maxHeartbeats 2000000 in
set_option maxRecDepth 100000 in
theorem split_calls (c : UInt8) (s : ByteArray) (w : World) (hs : s.size < 4294967281) :
    Calls Tryd.prog 24 #[.string s, .string ⟨#[c]⟩] w fun e w' => ∃ v : Value, e = .returned v ∧ w'.ownsRow w.heap.size 9 1 v ((cutAt c s.data.toList).map mkS).length (((cutAt c s.data.toList).map mkS).map Value.string) ∧ Below w.heap.size w w' := by
  have h1 : 1 ≤ (⟨#[c]⟩ : ByteArray).size := Nat.le_refl _
  have hle := Lib.countB_le ⟨#[c]⟩ h1 s.size s (Nat.le_refl _)
  have hlen := Lib.splitB_all ⟨#[c]⟩ h1 0 _ s rfl
  have hC := Tryd.strings_Count_one s c w
  rw [show (Lib.countByte s.data.toList c : Int) = (Lib.countB s ⟨#[c]⟩ : Int) by rw [countB_one]; rfl] at hC
  have cc := Any.strings_genSplit_core Tryd.lays221 (by kernel_rfl) s ⟨#[c]⟩ 0 (-1) (Lib.countB s ⟨#[c]⟩ + 1) w hs h1 (Nat.zero_le _) (fun x cl _ => by
    have := Tryd.strings_Index_one x c (w.alloc (.cells cl 9))
    rw [← indexB_one] at this
    exact this) hC (by decide) (by decide) (by rw [if_pos (by decide)]; omega)
  rw [Nat.add_sub_cancel, hlen] at cc
  have e2 : Lib.cellsOf (Lib.splitB ⟨#[c]⟩ 0 (Lib.countB s ⟨#[c]⟩) s) (Lib.countB s ⟨#[c]⟩ + 1) = ((Lib.splitB ⟨#[c]⟩ 0 (Lib.countB s ⟨#[c]⟩) s).map Value.string).toArray := by rw [← hlen]; exact Lib.cellsOf_full _
  rw [e2, ← hlen, splitB_cut c _ s (by rw [countB_one]; exact Nat.le_refl _)] at cc
  have hn : ((cutAt c s.data.toList).map mkS).length ≤ 9223372036854775807 := by
    rw [← splitB_cut c (Lib.countB s ⟨#[c]⟩) s (by rw [countB_one]; exact Nat.le_refl _), hlen]
    omega
  change Calls Tryd.prog 32 _ _ _ at cc
  obtain ⟨L, hL⟩ : ∃ L, (cutAt c s.data.toList).map mkS = L := ⟨_, rfl⟩
  rw [hL] at cc hn ⊢
  clear hL hlen hle e2 hC
  have cc' := hid cc
  clear cc
  go_enter Tryd.func24, Tryd.ntmps24
  go_wp2_with (go_at_call 32; refine cc'.out.mono ?_; rintro e w' ⟨rfl, hw⟩; rw [hw])
  go_ret
  refine ⟨_, rfl, ?_, (Below.refl _ w).alloc (Nat.le_refl _) _⟩
  exact Go.Proofs.YthblohknnlkidaaDoorW.PrintWords.own_lit_of (enc := Value.string) w w.heap.size 9 L (Nat.le_refl _) hn
end Go.Proofs.YthblohknnlkidaaDoor
