/- What the printed functions of chapter 02 come to: plain Lean. -/
import Derived.Test.YtmbmjaiggefjmaaFoldLaws
import Derived.Test.YtmbmjaiggefjmaaPrx1
import Derived.Test.YtmbmjaiggefjmaaPrx2
import Derived.Test.YtmbmjaiggefjmaaPrx3
namespace Go.Proofs.Ytmbmjaiggefjmaa.Pure
set_option linter.unusedVariables false
set_option linter.unusedSimpArgs false
open Go.RowKit Go.Proofs.Ytmbmjaiggefjmaa.Pr Go.Proofs.YtmbmjaiggefjmaaW.PrintWords Go.Proofs.YtmbmjaiggefjmaaW.PrintLast

theorem rd_at {l : List ByteArray} {i : Nat} {x : ByteArray} (h : l[i]? = some x) : rdOf ByteArray.empty l (i : Int) = x := by
  unfold rdOf
  rw [Int.toNat_natCast, List.getD_eq_getElem?_getD, h]
  rfl
theorem equal_l0 (l : List ByteArray) (hl : l.length ≤ 4000000000000000000) : ∀ (d i : Nat), i + d = l.length → ∀ k, d < k → boltingref02_Equal.l0 k l l (i : Int) = some true
  | 0, i, h, k, hk => by
    obtain ⟨k, rfl⟩ : ∃ m, k = m + 1 := ⟨k - 1, by omega⟩
    simp only [boltingref02_Equal.l0]
    rw [if_neg (by omega)]
  | d + 1, i, h, k, hk => by
    obtain ⟨k, rfl⟩ : ∃ m, k = m + 1 := ⟨k - 1, by omega⟩
    simp only [boltingref02_Equal.l0]
    rw [if_pos (by omega), if_pos (by omega), if_pos (by omega), if_pos trivial, wrap_succ (by omega) (by omega)]
    exact equal_l0 l hl d (i + 1) (by omega) k (by omega)
theorem equal_f (l : List ByteArray) (hl : l.length ≤ 4000000000000000000) {k : Nat} (hk : l.length < k) : boltingref02_Equal.f k l l = some true := by
  unfold boltingref02_Equal.f
  rw [if_pos rfl]
  exact equal_l0 l hl l.length 0 (by omega) k hk
/-- Does a text stand in a list? -/
def mem (l : List ByteArray) (s : ByteArray) : Bool := l.any fun x => decide (x = s)
theorem mem_iff (l : List ByteArray) (s : ByteArray) : mem l s = true ↔ s ∈ l := by
  unfold mem
  rw [List.any_eq_true]
  constructor
  · rintro ⟨x, h, e⟩; rw [decide_eq_true_eq] at e; subst e; exact h
  · intro h; exact ⟨s, h, by simp⟩
theorem mem_drop_at {l : List ByteArray} {i : Nat} {x : ByteArray} (h : l[i]? = some x) (s : ByteArray) : mem (l.drop i) s = (decide (x = s) || mem (l.drop (i + 1)) s) := by
  rw [drop_at h]
  unfold mem
  rw [List.any_cons]
theorem index_l0 (l : List ByteArray) (s : ByteArray) (hl : l.length ≤ 4000000000000000000) : ∀ (d i : Nat), i + d = l.length → ∀ k, d < k → ∃ r, slices_Index_string_string.l0 k l s (l.length : Int) (i : Int) = some r ∧ decide (r ≥ 0) = mem (l.drop i) s
  | 0, i, h, k, hk => by
    obtain ⟨k, rfl⟩ : ∃ m, k = m + 1 := ⟨k - 1, by omega⟩
    simp only [slices_Index_string_string.l0]
    rw [if_neg (by omega), List.drop_of_length_le (by omega)]
    exact ⟨_, rfl, by simp [mem]⟩
  | d + 1, i, h, k, hk => by
    obtain ⟨k, rfl⟩ : ∃ m, k = m + 1 := ⟨k - 1, by omega⟩
    obtain ⟨x, hx⟩ := get_some (show i < l.length by omega)
    simp only [slices_Index_string_string.l0]
    rw [if_pos (by omega), if_pos (by omega), if_pos (by omega), rd_at hx, mem_drop_at hx]
    by_cases e : x = s
    · subst e; rw [if_pos rfl]; exact ⟨_, rfl, by simp⟩
    · rw [if_neg (fun g => e (toList_inj g.symm)), wrap_succ (by omega) (by omega), decide_eq_false e, Bool.false_or]
      exact index_l0 l s hl d (i + 1) (by omega) k (by omega)
theorem contains_f (l : List ByteArray) (s : ByteArray) (hl : l.length ≤ 4000000000000000000) {k : Nat} (hk : l.length < k) : slices_Contains_string_string.f k l s = some (mem l s) := by
  obtain ⟨r, h1, h2⟩ := index_l0 l s hl l.length 0 (by omega) k hk
  unfold slices_Contains_string_string.f slices_Index_string_string.f
  rw [show ((0 : Nat) : Int) = 0 from rfl] at h1
  rw [h1]
  simp only [Option.bind_some]
  rw [h2]; rfl
/-- What is in one list and not in another one. -/
def minus (a b : List ByteArray) : List ByteArray := a.filter fun x => !mem b x
theorem minus_len (a b : List ByteArray) : (minus a b).length ≤ a.length := List.length_filter_le _ _
theorem filter_step {p : ByteArray → Bool} {l : List ByteArray} {i : Nat} {x : ByteArray} (h : l[i]? = some x) : (l.drop i).filter p = (if p x then [x] else []) ++ (l.drop (i + 1)).filter p := by
  rw [drop_at h, List.filter_cons]
  split <;> rfl
theorem minus_l0 (a b : List ByteArray) (ha : a.length ≤ 1000000) (hb : b.length ≤ 1000000) : ∀ (d i : Nat) (acc : List ByteArray), i + d = a.length → acc.length ≤ i → ∀ k, b.length + d < k →
    fold_Minus.l0 k b acc a (a.length : Int) (i : Int) = some (acc ++ (a.drop i).filter fun x => !mem b x)
  | 0, i, acc, h, hc, k, hk => by
    obtain ⟨k, rfl⟩ : ∃ m, k = m + 1 := ⟨k - 1, by omega⟩
    simp only [fold_Minus.l0]
    rw [if_neg (by omega), List.drop_of_length_le (by omega)]
    simp
  | d + 1, i, acc, h, hc, k, hk => by
    obtain ⟨k, rfl⟩ : ∃ m, k = m + 1 := ⟨k - 1, by omega⟩
    obtain ⟨x, hx⟩ := get_some (show i < a.length by omega)
    simp only [fold_Minus.l0]
    rw [if_pos (by omega), if_pos (by omega), if_pos (by omega), rd_at hx, contains_f b x (by omega) (by omega), wrap_succ (by omega) (by omega), filter_step hx]
    simp only [Option.bind_some]
    cases e : mem b x with
    | true =>
      rw [if_pos rfl]
      exact minus_l0 a b ha hb d (i + 1) acc (by omega) (by omega) k (by omega)
    | false =>
      rw [if_neg (by simp), if_pos (by omega)]
      have := minus_l0 a b ha hb d (i + 1) (acc ++ [x]) (by omega) (by simp; omega) k (by omega)
      rw [List.append_assoc] at this
      exact this
theorem minus_f (a b : List ByteArray) (ha : a.length ≤ 1000000) (hb : b.length ≤ 1000000) {k : Nat} (hk : a.length + b.length < k) : fold_Minus.f k a b = some (minus a b) :=
  minus_l0 a b ha hb a.length 0 [] (by omega) (by simp) k (by omega)
theorem space_f (c : Int) : fold_Space.f c = some (spaceI c) := by
  unfold fold_Space.f spaceI
  repeat' split
  all_goals
    refine congrArg some ?_
    rw [Bool.eq_iff_iff]
    simp only [Bool.or_eq_true, decide_eq_true_eq, Bool.false_eq_true, eq_self, true_iff, false_iff, beq_iff_eq]
    omega
theorem trim_l1 : ∀ (n : Nat) (l : List UInt8), l.length = n → n ≤ 4000000000000000000 → ∀ k, n < k → fold_Trim.l1 k (mkS l) = some (mkS (rcut space l))
  | 0, l, h, hn, k, hk => by
    obtain ⟨k, rfl⟩ : ∃ m, k = m + 1 := ⟨k - 1, by omega⟩
    obtain rfl := List.eq_nil_of_length_eq_zero h
    simp only [fold_Trim.l1]
    rw [if_pos (by rw [mkS_toList])]
    rfl
  | n + 1, l, h, hn, k, hk => by
    obtain ⟨k, rfl⟩ : ∃ m, k = m + 1 := ⟨k - 1, by omega⟩
    obtain ⟨t, c, rfl⟩ : ∃ t c, l = t ++ [c] := ⟨l.dropLast, l.getLast (fun e => by simp [e] at h), (List.dropLast_concat_getLast _).symm⟩
    have ht : t.length = n := by simpa using h
    have hsz : (mkS (t ++ [c])).size = n + 1 := by rw [mkS_size]; exact h
    have hat : (mkS (t ++ [c])).data.toList[n]? = some c := by rw [mkS_list, List.getElem?_append_right (by omega)]; simp [ht]
    simp only [fold_Trim.l1]
    rw [if_neg (by rw [mkS_toList]; simp), hsz, show ((n + 1 : Nat) : Int) - 1 = (n : Int) by omega, wrap_id (by omega) (by omega), if_pos (by omega), if_pos (by omega), bt_c hat, space_f]
    simp only [Option.bind_some]
    rw [rcut_append_one]
    by_cases hs : space c = true
    · rw [if_pos hs, if_pos (show spaceI (c.toNat : Int) = true from hs), if_pos (by omega), Int.toNat_natCast, extract_pre, mkS_list]
      rw [show (t ++ [c]).take n = t from by rw [List.take_left' ht]]
      exact trim_l1 n t ht (by omega) k (by omega)
    · rw [if_neg hs, if_neg (show ¬ spaceI (c.toNat : Int) = true from hs)]
theorem trim_l0 : ∀ (n : Nat) (l : List UInt8), l.length = n → n ≤ 4000000000000000000 → ∀ k, 2 * n + 2 < k → fold_Trim.l0 k (mkS l) = some (mkS (trim l))
  | 0, l, h, hn, k, hk => by
    obtain ⟨k, rfl⟩ : ∃ m, k = m + 2 := ⟨k - 2, by omega⟩
    obtain rfl := List.eq_nil_of_length_eq_zero h
    simp only [fold_Trim.l0, fold_Trim.j1]
    rw [if_pos (by rw [mkS_toList])]
    exact trim_l1 0 [] rfl (by omega) k (by omega)
  | n + 1, [], h, hn, k, hk => by simp at h
  | n + 1, c :: t, h, hn, k, hk => by
    obtain ⟨k, rfl⟩ : ∃ m, k = m + 1 := ⟨k - 1, by omega⟩
    have ht : t.length = n := by simpa using h
    have hsz : (mkS (c :: t)).size = n + 1 := by rw [mkS_size]; exact h
    have hat : (mkS (c :: t)).data.toList[0]? = some c := rfl
    have hbt := bt_c hat
    rw [show ((0 : Nat) : Int) = 0 from rfl] at hbt
    have e : (mkS (c :: t)).extract 1 (n + 1) = mkS t := by
      rw [extract_mid, mkS_list]
      congr 1
      simp [← ht]
    have ih := trim_l0 n t ht (by omega) k (by omega)
    simp only [fold_Trim.l0]
    rw [if_neg (by rw [mkS_toList]; simp), hsz, if_pos (by omega), hbt, space_f]
    simp only [Option.bind_some]
    by_cases hs : space c = true
    · rw [if_pos (show spaceI (c.toNat : Int) = true from hs), if_pos (by omega), e, ih]
      unfold trim
      rw [List.dropWhile_cons, if_pos hs]
    · rw [if_neg (show ¬ spaceI (c.toNat : Int) = true from hs)]
      have : trim (c :: t) = rcut space (c :: t) := by unfold trim; rw [List.dropWhile_cons, if_neg hs]
      rw [this]
      obtain ⟨k, rfl⟩ : ∃ m, k = m + 1 := ⟨k - 1, by omega⟩
      simp only [fold_Trim.j1]
      exact trim_l1 (n + 1) (c :: t) h hn k (by omega)
theorem trim_f (s : ByteArray) (hs : s.size ≤ 4000000000000000000) {k : Nat} (hk : 2 * s.size + 2 < k) : fold_Trim.f k s = some (mkS (trim (dat s))) := by
  have := trim_l0 s.size (dat s) (by rw [Lib.size_eq]) hs k hk
  rw [show mkS (dat s) = s from mkS_data s] at this
  exact this
theorem lower_f (s : ByteArray) (hs : s.size ≤ 140737488351232) : fold_Lower.f s = some (mkS (lower (dat s))) := by
  unfold fold_Lower.f; exact bnd_of _ hs
theorem rlower_f (s : ByteArray) (hs : s.size ≤ 140737488351232) : boltingref02_Lower.f s = some (mkS (lower (dat s))) := by
  unfold boltingref02_Lower.f; exact bnd_of _ hs
theorem words_f (s : ByteArray) (hs : s.size < 4294967281) : fold_Words.f s = some (SS (words (dat s))) := by
  unfold fold_Words.f; exact bnd32_of _ hs
theorem same_f (a b : ByteArray) (ha : a.size ≤ 140737488351232) (hb : b.size ≤ 140737488351232) : fold_Same.f a b = some (lower (dat a) == lower (dat b)) := by
  unfold fold_Same.f
  rw [lower_f a ha, lower_f b hb]
  simp only [Option.bind_some]
  rw [mkS_toList, mkS_toList]
set_option maxRecDepth 10000 in
theorem fixed_f {k : Nat} (hk : 20 ≤ k) : boltinglaw02_fixed.f k = some true := by
  have e1 : fold_Find.f [⟨#[97]⟩, ⟨#[100]⟩] ⟨#[99]⟩ = some (1, false) := by decide +kernel
  have e2 : fold_Find.f [⟨#[97]⟩, ⟨#[100]⟩] ⟨#[100]⟩ = some (1, true) := by decide +kernel
  have e3 : fold_Lower.f ⟨#[97, 66, 195, 132]⟩ = some ⟨#[97, 98, 195, 132]⟩ := by decide +kernel
  have e4 : fold_Same.f ⟨#[79, 110]⟩ ⟨#[111, 78]⟩ = some true := by decide +kernel
  have e5 : fold_Same.f ⟨#[97]⟩ ⟨#[98]⟩ = some false := by decide +kernel
  have e6 : fold_Trim.f k ⟨#[32, 97, 32, 98, 10]⟩ = some ⟨#[97, 32, 98]⟩ := by
    rw [trim_f _ (by decide) (by show 2 * 5 + 2 < k; omega)]
    decide +kernel
  have e7 : fold_Words.f ⟨#[32, 97, 32, 32, 98, 32]⟩ = some [⟨#[97]⟩, ⟨#[98]⟩] := by decide +kernel
  have e8 : fold_Sorted.f [⟨#[98]⟩, ⟨#[97]⟩, ⟨#[98]⟩] = some [⟨#[97]⟩, ⟨#[98]⟩] := by
    rw [sorted_f _ (by decide)]
    have : sorted [[98], [97], [98]] = [[97], [98]] := up_ext (sorted_up _) (by unfold Up; decide +kernel) (fun x => by rw [sorted_mem]; simp only [List.mem_cons, List.not_mem_nil, or_false]; exact ⟨fun h => by rcases h with h | h | h <;> simp [h], fun h => by rcases h with h | h <;> simp [h]⟩)
    exact congrArg (fun l => some (SS l)) this
  have e9 : fold_Minus.f k [⟨#[98]⟩, ⟨#[97]⟩, ⟨#[98]⟩] [⟨#[97]⟩] = some [⟨#[98]⟩, ⟨#[98]⟩] := by
    rw [minus_f _ _ (by decide) (by decide) (by show 3 + 1 < k; omega)]
    rfl
  have q1 := equal_f [⟨#[97]⟩, ⟨#[98]⟩] (by decide) (k := k) (by show 2 < k; omega)
  have q2 := equal_f [⟨#[98]⟩, ⟨#[98]⟩] (by decide) (k := k) (by show 2 < k; omega)
  unfold boltinglaw02_fixed.f
  rw [e1, e2, e3, e4, e5, e6, e7, e8, e9]
  simp only [Option.bind_some]
  rw [q1, q2]
  decide +kernel
end Go.Proofs.Ytmbmjaiggefjmaa.Pure
