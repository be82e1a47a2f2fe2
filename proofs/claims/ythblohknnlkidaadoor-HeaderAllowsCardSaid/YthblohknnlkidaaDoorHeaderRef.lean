/- What header's printed functions come to: plain Lean. -/
import Derived.Test.YthblohknnlkidaaDoorWordLaws
import Derived.Test.YthblohknnlkidaaDoorLetter
import Derived.Test.YthblohknnlkidaaDoorPrx2
namespace Go.Proofs.YthblohknnlkidaaDoor.Pure
set_option linter.unusedVariables false
set_option linter.unusedSimpArgs false
open Go.RowKit Go.Proofs.YthblohknnlkidaaDoor.Pr Go.Proofs.YthblohknnlkidaaDoorW.PrintWords Go.Proofs.YthblohknnlkidaaDoorW.PrintLast

/-! ### directives -/
def OO (l : List (List (List UInt8))) : List (List ByteArray) := l.map SS
theorem OO_len (l : List (List (List UInt8))) : (OO l).length = l.length := List.length_map _
theorem OO_at {l : List (List (List UInt8))} {i : Nat} {x : List (List UInt8)} (h : l[i]? = some x) : rd_L1 (OO l) (i : Int) = SS x := by
  unfold rd_L1 OO
  rw [Int.toNat_natCast, List.getD_eq_getElem?_getD, List.getElem?_map, h]
  rfl
theorem OO_snoc (l : List (List (List UInt8))) (x : List (List UInt8)) : OO l ++ [SS x] = OO (l ++ [x]) := by simp [OO]
/-- Has a directive of this name been told? -/
def hasName (out : List (List (List UInt8))) (n : List UInt8) : Bool := out.any fun h => h.headD [] == n
def stepP (out : List (List (List UInt8))) (piece : List UInt8) : List (List (List UInt8)) :=
  match words piece with
  | [] => out
  | w :: t => if hasName out (lower w) then out else out ++ [lower w :: t]
def partsL (s : List UInt8) : List (List (List UInt8)) := (cutAt 59 s).foldl stepP []
theorem stepP_count (out : List (List (List UInt8))) (p : List UInt8) : (stepP out p).length ≤ out.length + 1 := by
  unfold stepP
  split
  · omega
  · split <;> simp
theorem stepP_ne {out : List (List (List UInt8))} (h : ∀ x ∈ out, x ≠ []) (p : List UInt8) : ∀ x ∈ stepP out p, x ≠ [] := by
  unfold stepP
  split
  · exact h
  · split
    · exact h
    · intro x hx
      rcases List.mem_append.1 hx with hx | hx
      · exact h x hx
      · rw [List.mem_singleton] at hx; subst hx; simp
theorem hasName_snoc (out : List (List (List UInt8))) (x : List (List UInt8)) (n : List UInt8) : hasName (out ++ [x]) n = (hasName out n || (x.headD [] == n)) := by
  unfold hasName; simp
theorem parts_l1 (out : List (List (List UInt8))) (hne : ∀ h ∈ out, h ≠ []) (w : List UInt8) (t : List (List UInt8)) (x10 : List ByteArray) (x11 x12 : Int) (r : List (List ByteArray)) (m : Nat) (hs : out.length ≤ 100000)
    (hr : ∀ k, m < k → header_Parts.l0 k (OO (if hasName out w then out else out ++ [w :: t])) x10 x11 (wrap64 (x12 + 1)) = some r) :
    ∀ (d i : Nat), i + d = out.length → hasName (out.take i) w = false → ∀ k, m + d + 1 < k →
      header_Parts.l1 k (OO out) (SS (w :: t)) x10 x11 x12 (OO out) (out.length : Int) (i : Int) = some r
  | 0, i, h, hn, k, hk => by
    obtain ⟨k, rfl⟩ : ∃ m, k = m + 1 := ⟨k - 1, by omega⟩
    simp only [header_Parts.l1]
    rw [List.take_of_length_le (by omega)] at hn
    rw [hn] at hr
    rw [if_neg (by omega), OO_len, if_pos (by omega), OO_snoc]
    exact hr k (by omega)
  | d + 1, i, h, hn, k, hk => by
    obtain ⟨k, rfl⟩ : ∃ m, k = m + 1 := ⟨k - 1, by omega⟩
    obtain ⟨x, hx⟩ := get_some (show i < out.length by omega)
    have hxm : x ∈ out := List.mem_iff_getElem?.2 ⟨i, hx⟩
    obtain ⟨h0, ht, rfl⟩ : ∃ h0 ht, x = h0 :: ht := by
      cases x with
      | nil => exact absurd rfl (hne _ hxm)
      | cons a b => exact ⟨a, b, rfl⟩
    simp only [header_Parts.l1]
    rw [if_pos (by omega), if_pos (by omega), OO_len, if_pos (by omega), OO_at hx, SS_len, SS_len, if_pos (by simp), if_pos (by simp), SS_zero, SS_zero, mkS_toList, mkS_toList]
    by_cases e : h0 = w
    · rw [if_pos e]
      have : hasName out w = true := by
        unfold hasName
        rw [List.any_eq_true]
        exact ⟨_, hxm, by simp [e]⟩
      rw [this] at hr
      exact hr k (by omega)
    · rw [if_neg e, wrap_succ (by omega) (by omega)]
      refine parts_l1 out hne w t x10 x11 x12 r m hs hr d (i + 1) (by omega) ?_ k (by omega)
      rw [take_at hx, hasName_snoc, hn]
      simpa using e
theorem parts_l0 (pcs : List (List UInt8)) (hp : pcs.length ≤ 100000) (hz : ∀ p ∈ pcs, p.length ≤ 100000) : ∀ (d i : Nat) (out : List (List (List UInt8))), i + d = pcs.length → (∀ h ∈ out, h ≠ []) → out.length ≤ i → ∀ k, d * (pcs.length + 2) < k →
    header_Parts.l0 k (OO out) (SS pcs) (pcs.length : Int) (i : Int) = some (OO ((pcs.drop i).foldl stepP out))
  | 0, i, out, h, hne, hl, k, hk => by
    obtain ⟨k, rfl⟩ : ∃ m, k = m + 1 := ⟨k - 1, by omega⟩
    simp only [header_Parts.l0]
    rw [if_neg (by omega), List.drop_of_length_le (by omega)]
    rfl
  | d + 1, i, out, h, hne, hl, k, hk => by
    obtain ⟨k, rfl⟩ : ∃ m, k = m + 1 := ⟨k - 1, by omega⟩
    rw [Nat.succ_mul] at hk
    obtain ⟨x, hx⟩ := get_some (show i < pcs.length by omega)
    have hxm : x ∈ pcs := List.mem_iff_getElem?.2 ⟨i, hx⟩
    have hxl := hz x hxm
    simp only [header_Parts.l0]
    rw [if_pos (by omega), if_pos (by omega), SS_len, if_pos (by omega), SS_at hx]
    have hW : fold_Words.f (mkS x) = some (SS (words x)) := bnd32_of _ (by rw [mkS_size]; omega)
    rw [hW, drop_at hx]
    simp only [Option.bind_some, List.foldl_cons]
    cases hw : words x with
    | nil =>
      rw [if_pos (by rw [SS_len]; rfl), wrap_succ (by omega) (by omega)]
      have : stepP out x = out := by unfold stepP; rw [hw]
      rw [this]
      exact parts_l0 pcs hp hz d (i + 1) out (by omega) hne (by omega) k (by omega)
    | cons w t =>
      have hwl : w.length ≤ x.length := words_len (by rw [hw]; simp)
      rw [if_neg (by rw [SS_len]; simp; omega), if_pos (by rw [SS_len]; simp; try omega), SS_zero]
      have hL : fold_Lower.f (mkS w) = some (mkS (lower w)) := bnd_of _ (by rw [mkS_size]; omega)
      rw [hL]
      simp only [Option.bind_some]
      have hset : (SS (w :: t)).set (0 : Int).toNat (mkS (lower w)) = SS (lower w :: t) := rfl
      rw [hset, OO_len]
      have hst : stepP out x = if hasName out (lower w) then out else out ++ [lower w :: t] := by unfold stepP; rw [hw]
      refine parts_l1 out hne (lower w) t _ _ _ _ (d * (pcs.length + 2)) (by omega) ?_ out.length 0 (by omega) (by simp [hasName]) k (by omega)
      intro k hk
      rw [wrap_succ (by omega) (by omega), ← hst]
      exact parts_l0 pcs hp hz d (i + 1) (stepP out x) (by omega) (stepP_ne hne x) (by have := stepP_count out x; omega) k hk
theorem parts_f (s : ByteArray) (hs : s.size ≤ 1500) {k : Nat} (hk : 3000001 ≤ k) : header_Parts.f k s = some (OO (partsL s.data.toList)) := by
  have hS : strings_Split.f s ⟨#[59]⟩ = some (SS (cutAt 59 s.data.toList)) := bnd32_of _ (by omega)
  unfold header_Parts.f
  rw [hS]
  simp only [Option.bind_some]
  have hc := cutAt_count 59 s.data.toList
  rw [← Lib.size_eq] at hc
  rw [SS_len]
  refine parts_l0 (cutAt 59 s.data.toList) (by omega) (fun p hp => by
    have := cutAt_len 59 s.data.toList p hp
    rw [← Lib.size_eq] at this
    omega) _ 0 [] (Nat.zero_add _) (by simp) (by simp) k ?_
  have : (cutAt 59 s.data.toList).length * ((cutAt 59 s.data.toList).length + 2) ≤ 1501 * 1503 := Nat.mul_le_mul (by omega) (by omega)
  omega
theorem foldP_ne : ∀ (pcs : List (List UInt8)) (out : List (List (List UInt8))), (∀ x ∈ out, x ≠ []) → ∀ x ∈ pcs.foldl stepP out, x ≠ []
  | [], out, h => h
  | p :: pcs, out, h => foldP_ne pcs _ (stepP_ne h p)
theorem partsL_ne (s : List UInt8) : ∀ x ∈ partsL s, x ≠ [] := foldP_ne _ _ (by simp)
theorem foldP_count : ∀ (pcs : List (List UInt8)) (out : List (List (List UInt8))), (pcs.foldl stepP out).length ≤ out.length + pcs.length
  | [], out => Nat.le_refl _
  | p :: pcs, out => by
    have := foldP_count pcs (stepP out p)
    have := stepP_count out p
    simp only [List.foldl_cons, List.length_cons]
    omega
theorem partsL_count (s : List UInt8) : (partsL s).length ≤ s.length + 1 := by
  have h1 := foldP_count (cutAt 59 s) []
  have h2 := cutAt_count 59 s
  unfold partsL
  simp at h1
  omega

/-! ### a directive by its name -/
def namedL (l : List (List (List UInt8))) (n : List UInt8) : List (List UInt8) × Bool := match l.find? fun h => h.headD [] == n with
  | some h => (h.tail, true)
  | none => ([], false)
theorem named_l0 (l : List (List (List UInt8))) (hne : ∀ x ∈ l, x ≠ []) (n : List UInt8) (hl : l.length ≤ 100000) : ∀ (d i : Nat), i + d = l.length → (∀ x ∈ l.take i, (x.headD [] == n) = false) → ∀ k, d < k →
    header_named.l0 k (mkS n) (OO l) (l.length : Int) (i : Int) = some (SS (namedL l n).1, (namedL l n).2)
  | 0, i, h, hf, k, hk => by
    obtain ⟨k, rfl⟩ : ∃ m, k = m + 1 := ⟨k - 1, by omega⟩
    simp only [header_named.l0]
    rw [List.take_of_length_le (by omega)] at hf
    rw [if_neg (by omega)]
    unfold namedL
    rw [List.find?_eq_none.2 (fun x hx => by rw [hf x hx]; simp)]
    rfl
  | d + 1, i, h, hf, k, hk => by
    obtain ⟨k, rfl⟩ : ∃ m, k = m + 1 := ⟨k - 1, by omega⟩
    obtain ⟨x, hx⟩ := get_some (show i < l.length by omega)
    have hxm : x ∈ l := List.mem_iff_getElem?.2 ⟨i, hx⟩
    obtain ⟨h0, ht, rfl⟩ : ∃ h0 ht, x = h0 :: ht := by
      cases x with
      | nil => exact absurd rfl (hne _ hxm)
      | cons a b => exact ⟨a, b, rfl⟩
    simp only [header_named.l0]
    rw [if_pos (by omega), if_pos (by omega), OO_len, if_pos (by omega), OO_at hx, SS_len, if_pos (by simp), SS_zero, mkS_toList, mkS_toList]
    by_cases e : h0 = n
    · rw [if_pos e, if_pos (by simp; try omega), SS_drop]
      have : l.find? (fun h => h.headD [] == n) = some (h0 :: ht) := by
        conv => lhs; rw [← List.take_append_drop i l]
        rw [List.find?_append, List.find?_eq_none.2 (fun x hx => by rw [hf x hx]; simp), drop_at hx]
        simp [e]
      unfold namedL
      rw [this]
      rfl
    · rw [if_neg e, wrap_succ (by omega) (by omega)]
      refine named_l0 l hne n hl d (i + 1) (by omega) ?_ k (by omega)
      intro y hy
      rw [take_at hx] at hy
      rcases List.mem_append.1 hy with hy | hy
      · exact hf y hy
      · rw [List.mem_singleton] at hy; subst hy
        simpa using e
theorem named_f (l : List (List (List UInt8))) (hne : ∀ x ∈ l, x ≠ []) (n : List UInt8) (hl : l.length ≤ 100000) {k : Nat} (hk : 100001 ≤ k) : header_named.f k (OO l) (mkS n) = some (SS (namedL l n).1, (namedL l n).2) := by
  unfold header_named.f
  rw [OO_len]
  exact named_l0 l hne n hl l.length 0 (by omega) (by simp) k (by omega)

/-! ### does a name stand in a list? -/
theorem index_l0 (l : List (List UInt8)) (n : ByteArray) (hl : l.length ≤ 100000) : ∀ (d i : Nat), i + d = l.length → n.data.toList ∉ l.take i → ∀ k, d < k →
    ∃ r, slices_Index_string_string.l0 k (SS l) n (l.length : Int) (i : Int) = some r ∧ (decide (r ≥ 0) = l.contains n.data.toList)
  | 0, i, h, hf, k, hk => by
    obtain ⟨k, rfl⟩ : ∃ m, k = m + 1 := ⟨k - 1, by omega⟩
    simp only [slices_Index_string_string.l0]
    rw [List.take_of_length_le (by omega)] at hf
    rw [if_neg (by omega)]
    refine ⟨_, rfl, ?_⟩
    rw [List.contains_eq_mem, decide_eq_false hf]
    rfl
  | d + 1, i, h, hf, k, hk => by
    obtain ⟨k, rfl⟩ : ∃ m, k = m + 1 := ⟨k - 1, by omega⟩
    obtain ⟨x, hx⟩ := get_some (show i < l.length by omega)
    have hxm : x ∈ l := List.mem_iff_getElem?.2 ⟨i, hx⟩
    simp only [slices_Index_string_string.l0]
    rw [if_pos (by omega), if_pos (by omega), SS_len, if_pos (by omega), SS_at hx, mkS_toList, Lib.toList_data]
    by_cases e : n.data.toList = x
    · rw [if_pos e]
      refine ⟨_, rfl, ?_⟩
      rw [List.contains_eq_mem, decide_eq_true (show (i : Int) ≥ 0 by omega), decide_eq_true (show n.data.toList ∈ l by rw [e]; exact hxm)]
    · rw [if_neg e, wrap_succ (by omega) (by omega)]
      refine index_l0 l n hl d (i + 1) (by omega) ?_ k (by omega)
      rw [take_at hx, List.mem_append, List.mem_singleton]
      rintro (h | h)
      · exact hf h
      · exact e h
theorem contains_f (l : List (List UInt8)) (n : ByteArray) (hl : l.length ≤ 100000) {k : Nat} (hk : 100001 ≤ k) : slices_Contains_string_string.f k (SS l) n = some (l.contains n.data.toList) := by
  unfold slices_Contains_string_string.f slices_Index_string_string.f
  rw [SS_len]
  obtain ⟨r, h1, h2⟩ := index_l0 l n hl l.length 0 (by omega) (by simp) k (by omega)
  have h1' : slices_Index_string_string.l0 k (SS l) n (l.length : Int) 0 = some r := h1
  rw [h1']
  simp only [Option.bind_some]
  rw [h2]

/-! ### names -/
def mayC (c : UInt8) : Bool := letterI c.toNat || (decide (48 ≤ c.toNat) && decide (c.toNat ≤ 57)) || ([45, 35, 61, 95, 47, 64, 46, 37] : List UInt8).contains c
def mayL (l : List UInt8) : Bool := l.all mayC && !l.isEmpty
theorem letter_f (c : Int) : fold_Letter.f c = some (letterI c) := by
  unfold fold_Letter.f letterI
  repeat' split
  all_goals
    refine congrArg some ?_
    rw [Bool.eq_iff_iff]
    simp only [Bool.or_eq_true, decide_eq_true_eq, Bool.false_eq_true, eq_self, true_iff, false_iff]
    omega
theorem sign_f (c : UInt8) : strings_Contains.f ⟨#[45, 35, 61, 95, 47, 64, 46, 37]⟩ (mkS [c]) = some (([45, 35, 61, 95, 47, 64, 46, 37] : List UInt8).contains c) := by
  show some (decide (0 ≤ Lib.indexByte [45, 35, 61, 95, 47, 64, 46, 37] c)) = _
  congr 1
  by_cases h : c ∈ ([45, 35, 61, 95, 47, 64, 46, 37] : List UInt8)
  · rw [List.contains_eq_mem, decide_eq_true h]
    refine decide_eq_true ?_
    simp only [List.mem_cons, List.not_mem_nil, or_false] at h
    rcases h with rfl | rfl | rfl | rfl | rfl | rfl | rfl | rfl <;> decide
  · rw [List.contains_eq_mem, decide_eq_false h]
    refine decide_eq_false ?_
    intro h0
    have hge := Lib.indexByte_ge [45, 35, 61, 95, 47, 64, 46, 37] c
    obtain ⟨i, hi⟩ : ∃ i : Nat, Lib.indexByte [45, 35, 61, 95, 47, 64, 46, 37] c = i := ⟨_, (Int.toNat_of_nonneg h0).symm⟩
    have := (Lib.indexByte_some hi).1
    exact h (List.mem_iff_getElem?.2 ⟨i, this⟩)
theorem may_l0 (s : ByteArray) (hs : s.size ≤ 200000000000000) : ∀ (d i : Nat), i + d = s.size → (s.data.toList.take i).all mayC = true → ∀ k, d < k →
    header_may.l0 k s (s.size : Int) (i : Int) = some (mayL s.data.toList)
  | 0, i, h, hf, k, hk => by
    obtain ⟨k, rfl⟩ : ∃ m, k = m + 1 := ⟨k - 1, by omega⟩
    simp only [header_may.l0]
    rw [List.take_of_length_le (by rw [← Lib.size_eq]; omega)] at hf
    rw [if_neg (by omega), Lib.toList_data]
    unfold mayL
    rw [hf]
    cases s.data.toList <;> rfl
  | d + 1, i, h, hf, k, hk => by
    obtain ⟨k, rfl⟩ : ∃ m, k = m + 1 := ⟨k - 1, by omega⟩
    obtain ⟨c, hc⟩ := at_some s (show i < s.size by omega)
    have hno : mayC c = false → mayL s.data.toList = false := by
      intro hm
      unfold mayL
      rw [Bool.and_eq_false_iff]
      left
      rw [Bool.eq_false_iff]
      intro ha
      have := List.all_eq_true.1 ha c (List.mem_iff_getElem?.2 ⟨i, hc⟩)
      rw [hm] at this; cases this
    have hgo : mayC c = true → header_may.l0 k s (s.size : Int) ((i : Int) + 1) = some (mayL s.data.toList) := by
      intro hm
      refine may_l0 s hs d (i + 1) (by omega) ?_ k (by omega)
      rw [take_snoc hc, List.all_append, hf]
      simp [hm]
    simp only [header_may.l0]
    rw [if_pos (by omega), if_pos (by omega), if_pos (by omega), bt_c hc, letter_f, wrap_succ (by omega) (by omega)]
    simp only [Option.bind_some]
    have hext : s.extract (i : Int).toNat ((i : Int) + 1).toNat = mkS [c] := by
      rw [show (i : Int).toNat = i by omega, show ((i : Int) + 1).toNat = i + 1 by omega]
      exact extract_one hc
    rw [hext, sign_f]
    simp only [Option.bind_some]
    by_cases h1 : letterI c.toNat = true
    · rw [if_pos h1]
      exact hgo (by unfold mayC; rw [h1]; rfl)
    · rw [if_neg h1]
      have h1' : letterI c.toNat = false := by simpa using h1
      by_cases h2 : (c.toNat : Int) < 48
      · rw [if_pos h2, if_pos (by omega), if_pos (by omega)]
        have e : mayC c = ([45, 35, 61, 95, 47, 64, 46, 37] : List UInt8).contains c := by
          unfold mayC
          rw [h1', decide_eq_false (show ¬ 48 ≤ c.toNat by omega)]
          rfl
        rw [← e]
        cases hm : mayC c with
        | true => rw [if_pos rfl]; exact hgo hm
        | false => rw [if_neg (by decide), hno hm]
      · rw [if_neg h2]
        by_cases h3 : (c.toNat : Int) > 57
        · rw [if_pos h3, if_pos (by omega), if_pos (by omega)]
          have e : mayC c = ([45, 35, 61, 95, 47, 64, 46, 37] : List UInt8).contains c := by
            unfold mayC
            rw [h1', decide_eq_false (show ¬ c.toNat ≤ 57 by omega)]
            simp
          rw [← e]
          cases hm : mayC c with
          | true => rw [if_pos rfl]; exact hgo hm
          | false => rw [if_neg (by decide), hno hm]
        · rw [if_neg h3]
          exact hgo (by
            unfold mayC
            rw [decide_eq_true (show 48 ≤ c.toNat by omega), decide_eq_true (show c.toNat ≤ 57 by omega)]
            simp)
theorem may_f (s : ByteArray) (hs : s.size ≤ 200000000000000) {k : Nat} (hk : s.size < k) : header_may.f k s = some (mayL s.data.toList) :=
  may_l0 s hs s.size 0 (by omega) (by simp) k hk

/-! ### what a header asks -/
def star : List UInt8 := [42]
def dup : List UInt8 := [39, 97, 108, 108, 111, 119, 45, 100, 117, 112, 108, 105, 99, 97, 116, 101, 115, 39]
def scriptV : List UInt8 := [39, 115, 99, 114, 105, 112, 116, 39]
def requireN : List UInt8 := [114, 101, 113, 117, 105, 114, 101, 45, 116, 114, 117, 115, 116, 101, 100, 45, 116, 121, 112, 101, 115, 45, 102, 111, 114]
def typesN : List UInt8 := [116, 114, 117, 115, 116, 101, 100, 45, 116, 121, 112, 101, 115]
structure Asked where
  names : List (List UInt8)
  any : Bool
  twice : Bool
def stepV (g : Asked) (v : List UInt8) : Asked :=
  if v = star then { g with any := true } else if v = dup then { g with twice := true } else if mayL v && !g.names.contains v then { g with names := g.names ++ [v] } else g
structure Guard where
  on : Bool
  report : Bool
  names : List (List UInt8)
  any : Bool
  twice : Bool
def parseG (p : List (List (List UInt8))) (report : Bool) : Guard :=
  let on := (namedL p requireN).1.contains scriptV
  if (namedL p typesN).2 then
    let a := (namedL p typesN).1.foldl stepV ⟨[], false, false⟩
    ⟨on, report, a.names, a.any, a.twice⟩
  else ⟨on, report, [], true, true⟩
theorem parse_l0 (l : List (List UInt8)) (hl : l.length ≤ 50000) (hz : ∀ x ∈ l, x.length ≤ 100000) (on rep : Bool) : ∀ (d i : Nat) (g : Asked), i + d = l.length → g.names.length ≤ i → ∀ k, d + 100001 < k →
    header_Parse.l0 k (SS l) (l.length : Int) (i : Int) on rep (SS g.names) g.any g.twice = some (on, rep, SS ((l.drop i).foldl stepV g).names, ((l.drop i).foldl stepV g).any, ((l.drop i).foldl stepV g).twice)
  | 0, i, g, h, hg, k, hk => by
    obtain ⟨k, rfl⟩ : ∃ m, k = m + 1 := ⟨k - 1, by omega⟩
    simp only [header_Parse.l0]
    rw [if_neg (by omega), List.drop_of_length_le (by omega)]
    rfl
  | d + 1, i, g, h, hg, k, hk => by
    obtain ⟨k, rfl⟩ : ∃ m, k = m + 1 := ⟨k - 1, by omega⟩
    obtain ⟨x, hx⟩ := get_some (show i < l.length by omega)
    have hxm : x ∈ l := List.mem_iff_getElem?.2 ⟨i, hx⟩
    have hxl := hz x hxm
    have next := fun g' hg' => parse_l0 l hl hz on rep d (i + 1) g' (by omega) hg' k (by omega)
    simp only [header_Parse.l0]
    rw [if_pos (by omega), if_pos (by omega), SS_len, if_pos (by omega), SS_at hx, mkS_toList, wrap_succ (by omega) (by omega), drop_at hx, List.foldl_cons]
    by_cases h1 : x = star
    · have h1' : x = ([42] : List UInt8) := h1
      rw [if_pos h1']
      have e : stepV g x = { g with any := true } := by unfold stepV; rw [if_pos h1]
      rw [e]
      exact next { g with any := true } (by show g.names.length ≤ i + 1; omega)
    · have h1' : ¬ x = ([42] : List UInt8) := h1
      rw [if_neg h1']
      by_cases h2 : x = dup
      · have h2' : x = ([39, 97, 108, 108, 111, 119, 45, 100, 117, 112, 108, 105, 99, 97, 116, 101, 115, 39] : List UInt8) := h2
        rw [if_pos h2']
        have e : stepV g x = { g with twice := true } := by unfold stepV; rw [if_neg h1, if_pos h2]
        rw [e]
        exact next { g with twice := true } (by show g.names.length ≤ i + 1; omega)
      · have h2' : ¬ x = ([39, 97, 108, 108, 111, 119, 45, 100, 117, 112, 108, 105, 99, 97, 116, 101, 115, 39] : List UInt8) := h2
        rw [if_neg h2', may_f _ (by rw [mkS_size]; omega) (by rw [mkS_size]; omega), mkS_list]
        simp only [Option.bind_some]
        by_cases h3 : mayL x = true
        · rw [if_pos h3, contains_f g.names (mkS x) (by omega) (by omega), mkS_list]
          simp only [Option.bind_some]
          by_cases h4 : g.names.contains x = true
          · rw [if_pos h4]
            have e : stepV g x = g := by unfold stepV; rw [if_neg h1, if_neg h2, if_neg (by rw [h4]; simp)]
            rw [e]
            exact next g (by omega)
          · rw [if_neg h4, SS_len, if_pos (by omega), SS_snoc]
            have e : stepV g x = { g with names := g.names ++ [x] } := by unfold stepV; rw [if_neg h1, if_neg h2, if_pos (by rw [h3]; simpa using h4)]
            rw [e]
            exact next { g with names := g.names ++ [x] } (by show (g.names ++ [x]).length ≤ i + 1; simp; omega)
        · rw [if_neg h3]
          have e : stepV g x = g := by unfold stepV; rw [if_neg h1, if_neg h2, if_neg (by simp [h3])]
          rw [e]
          exact next g (by omega)
theorem namedL_mem {l : List (List (List UInt8))} {n x : List UInt8} (h : x ∈ (namedL l n).1) : ∃ d ∈ l, x ∈ d := by
  unfold namedL at h
  split at h
  · rename_i d e
    exact ⟨d, List.mem_of_find?_eq_some e, List.mem_of_mem_tail h⟩
  · simp at h
theorem stepP_words {out : List (List (List UInt8))} {n m : Nat} (h : ∀ d ∈ out, d.length ≤ n ∧ ∀ x ∈ d, x.length ≤ m) {p : List UInt8} (h1 : p.length < n) (h2 : p.length ≤ m) : ∀ d ∈ stepP out p, d.length ≤ n ∧ ∀ x ∈ d, x.length ≤ m := by
  unfold stepP
  cases hw : words p with
  | nil => exact h
  | cons w t =>
    have hc := words_count p
    have hl : ∀ x ∈ w :: t, x.length ≤ p.length := fun x hx => words_len (by rw [hw]; exact hx)
    rw [hw] at hc
    dsimp only
    split
    · exact h
    · intro d hd
      rcases List.mem_append.1 hd with hd | hd
      · exact h d hd
      · rw [List.mem_singleton] at hd; subst hd
        refine ⟨by simp at hc ⊢; omega, fun x hx => ?_⟩
        rcases List.mem_cons.1 hx with hx | hx
        · subst hx
          have := hl w (by simp)
          unfold lower
          rw [List.length_map]; omega
        · have := hl x (by simp [hx]); omega
theorem foldP_words {n m : Nat} : ∀ (pcs : List (List UInt8)) (out : List (List (List UInt8))), (∀ p ∈ pcs, p.length < n ∧ p.length ≤ m) → (∀ d ∈ out, d.length ≤ n ∧ ∀ x ∈ d, x.length ≤ m) → ∀ d ∈ pcs.foldl stepP out, d.length ≤ n ∧ ∀ x ∈ d, x.length ≤ m
  | [], out, _, h => h
  | p :: pcs, out, hp, h => foldP_words pcs _ (fun q hq => hp q (by simp [hq])) (stepP_words h (hp p (by simp)).1 (hp p (by simp)).2)
theorem partsL_words (s : List UInt8) : ∀ d ∈ partsL s, d.length ≤ s.length + 1 ∧ ∀ x ∈ d, x.length ≤ s.length :=
  foldP_words _ _ (fun p hp => by have := cutAt_len 59 s p hp; omega) (by simp)
theorem namedL_len {l : List (List (List UInt8))} {m : Nat} (n : List UInt8) (h : ∀ d ∈ l, d.length ≤ m) : (namedL l n).1.length ≤ m := by
  unfold namedL
  split
  · rename_i d e
    have := h d (List.mem_of_find?_eq_some e)
    simp; omega
  · simp
theorem parse_f (s : ByteArray) (hs : s.size ≤ 1500) (rep : Bool) {k : Nat} (hk : 3000001 ≤ k) :
    header_Parse.f k s rep = some ((parseG (partsL s.data.toList) rep).on, (parseG (partsL s.data.toList) rep).report, SS (parseG (partsL s.data.toList) rep).names, (parseG (partsL s.data.toList) rep).any, (parseG (partsL s.data.toList) rep).twice) := by
  have hne := partsL_ne s.data.toList
  have hcn := partsL_count s.data.toList
  have hwd := partsL_words s.data.toList
  rw [← Lib.size_eq] at hcn hwd
  unfold header_Parse.f
  rw [parts_f s hs hk]
  generalize partsL s.data.toList = P at hne hcn hwd ⊢
  simp only [Option.bind_some]
  have n1 := named_f P hne requireN (by omega) (show 100001 ≤ k by omega)
  have n2 := named_f P hne typesN (by omega) (show 100001 ≤ k by omega)
  have n1' : header_named.f k (OO P) ⟨#[114, 101, 113, 117, 105, 114, 101, 45, 116, 114, 117, 115, 116, 101, 100, 45, 116, 121, 112, 101, 115, 45, 102, 111, 114]⟩ = _ := n1
  have n2' : header_named.f k (OO P) ⟨#[116, 114, 117, 115, 116, 101, 100, 45, 116, 121, 112, 101, 115]⟩ = _ := n2
  have l1 := namedL_len (m := s.size + 1) requireN (fun d hd => (hwd d hd).1)
  have l2 := namedL_len (m := s.size + 1) typesN (fun d hd => (hwd d hd).1)
  have z2 : ∀ x ∈ (namedL P typesN).1, x.length ≤ 100000 := fun x hx => by
    obtain ⟨d, hd, hxd⟩ := namedL_mem hx
    have := (hwd d hd).2 x hxd
    omega
  rw [n1']
  simp only [Option.bind_some]
  rw [contains_f _ _ (by omega) (by omega), n2']
  simp only [Option.bind_some]
  unfold parseG
  by_cases h : (namedL P typesN).2 = true
  · rw [if_pos h, if_pos h, SS_len]
    have := parse_l0 (namedL P typesN).1 (by omega) z2 ((namedL P requireN).1.contains scriptV) rep _ 0 ⟨[], false, false⟩ (Nat.zero_add _) (Nat.le_refl _) k (by omega)
    rw [List.drop_zero] at this
    exact this
  · rw [if_neg h, if_neg h]
    rfl
end Go.Proofs.YthblohknnlkidaaDoor.Pure
