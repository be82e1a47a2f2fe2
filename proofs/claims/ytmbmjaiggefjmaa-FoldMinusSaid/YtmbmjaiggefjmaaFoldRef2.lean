/- What the printed functions of the reference, chapter 02, come to: plain Lean. -/
import Derived.Test.YtmbmjaiggefjmaaFoldRef
import Derived.Test.YtmbmjaiggefjmaaPrx10
namespace Go.Proofs.Ytmbmjaiggefjmaa.Pure
set_option linter.unusedVariables false
set_option linter.unusedSimpArgs false
open Go.RowKit Go.Proofs.Ytmbmjaiggefjmaa.Pr Go.Proofs.YtmbmjaiggefjmaaW.PrintWords Go.Proofs.YtmbmjaiggefjmaaW.PrintLast

theorem has_l0 (l : List ByteArray) (s : ByteArray) (hl : l.length ≤ 4000000000000000000) : ∀ (d i : Nat), i + d = l.length → ∀ k, d < k → boltingref02_Has.l0 k l s (i : Int) = some (mem (l.drop i) s)
  | 0, i, h, k, hk => by
    obtain ⟨k, rfl⟩ : ∃ m, k = m + 1 := ⟨k - 1, by omega⟩
    simp only [boltingref02_Has.l0]
    rw [if_neg (by omega), List.drop_of_length_le (by omega)]
    rfl
  | d + 1, i, h, k, hk => by
    obtain ⟨k, rfl⟩ : ∃ m, k = m + 1 := ⟨k - 1, by omega⟩
    obtain ⟨x, hx⟩ := get_some (show i < l.length by omega)
    simp only [boltingref02_Has.l0]
    rw [if_pos (by omega), if_pos (by omega), rd_at hx, mem_drop_at hx]
    by_cases e : x = s
    · subst e; rw [if_pos rfl]; simp
    · rw [if_neg (fun g => e (toList_inj g)), wrap_succ (by omega) (by omega), decide_eq_false e, Bool.false_or]
      exact has_l0 l s hl d (i + 1) (by omega) k (by omega)
theorem has_f (l : List ByteArray) (s : ByteArray) (hl : l.length ≤ 4000000000000000000) {k : Nat} (hk : l.length < k) : boltingref02_Has.f k l s = some (mem l s) :=
  has_l0 l s hl l.length 0 (by omega) k hk
theorem rminus_l0 (a b : List ByteArray) (ha : a.length ≤ 1000000) (hb : b.length ≤ 1000000) : ∀ (d i : Nat) (acc : List ByteArray), i + d = a.length → acc.length ≤ i → ∀ k, b.length + d < k →
    boltingref02_Minus.l0 k a b acc (i : Int) = some (acc ++ (a.drop i).filter fun x => !mem b x)
  | 0, i, acc, h, hc, k, hk => by
    obtain ⟨k, rfl⟩ : ∃ m, k = m + 1 := ⟨k - 1, by omega⟩
    simp only [boltingref02_Minus.l0]
    rw [if_neg (by omega), List.drop_of_length_le (by omega)]
    simp
  | d + 1, i, acc, h, hc, k, hk => by
    obtain ⟨k, rfl⟩ : ∃ m, k = m + 1 := ⟨k - 1, by omega⟩
    obtain ⟨x, hx⟩ := get_some (show i < a.length by omega)
    simp only [boltingref02_Minus.l0]
    rw [if_pos (by omega), if_pos (by omega), rd_at hx, has_f b x (by omega) (by omega), wrap_succ (by omega) (by omega), filter_step hx]
    simp only [Option.bind_some]
    cases e : mem b x with
    | true =>
      rw [if_pos rfl]
      exact rminus_l0 a b ha hb d (i + 1) acc (by omega) (by omega) k (by omega)
    | false =>
      rw [if_neg (by simp), if_pos (by omega)]
      have := rminus_l0 a b ha hb d (i + 1) (acc ++ [x]) (by omega) (by simp; omega) k (by omega)
      rw [List.append_assoc] at this
      exact this
theorem rminus_f (a b : List ByteArray) (ha : a.length ≤ 1000000) (hb : b.length ≤ 1000000) {k : Nat} (hk : a.length + b.length < k) : boltingref02_Minus.f k a b = some (minus a b) :=
  rminus_l0 a b ha hb a.length 0 [] (by omega) (by simp) k (by omega)
theorem less_f (a b : ByteArray) : Op.bytesLess a.toList b.toList = decide (dat a < dat b) := by
  rw [bytesLess_eq, Lib.toList_data, Lib.toList_data]
theorem below_l0 (l : List ByteArray) (s : ByteArray) (hl : l.length ≤ 4000000000000000000) : ∀ (d i n : Nat), i + d = l.length → n ≤ i → ∀ k, d < k → boltingref02_Below.l0 k l s (n : Int) (i : Int) = some ((n + belowL ((l.drop i).map dat) (dat s) : Nat) : Int)
  | 0, i, n, h, hn, k, hk => by
    obtain ⟨k, rfl⟩ : ∃ m, k = m + 1 := ⟨k - 1, by omega⟩
    simp only [boltingref02_Below.l0]
    rw [if_neg (by omega), List.drop_of_length_le (by omega)]
    rfl
  | d + 1, i, n, h, hn, k, hk => by
    obtain ⟨k, rfl⟩ : ∃ m, k = m + 1 := ⟨k - 1, by omega⟩
    obtain ⟨x, hx⟩ := get_some (show i < l.length by omega)
    simp only [boltingref02_Below.l0]
    rw [if_pos (by omega), if_pos (by omega), rd_at hx, less_f, wrap_succ (i := (i : Int)) (by omega) (by omega), drop_at hx, List.map_cons, belowL_cons]
    by_cases e : dat x < dat s
    · rw [decide_eq_true e, if_pos rfl, if_pos e, wrap_succ (i := (n : Int)) (by omega) (by omega)]
      have := below_l0 l s hl d (i + 1) (n + 1) (by omega) (by omega) k (by omega)
      rw [show n + 1 + belowL ((l.drop (i + 1)).map dat) (dat s) = n + (belowL ((l.drop (i + 1)).map dat) (dat s) + 1) by omega] at this
      exact this
    · rw [decide_eq_false e, if_neg (by simp), if_neg e]
      exact below_l0 l s hl d (i + 1) n (by omega) (by omega) k (by omega)
theorem below_f (l : List ByteArray) (s : ByteArray) (hl : l.length ≤ 4000000000000000000) {k : Nat} (hk : l.length < k) : boltingref02_Below.f k l s = some (belowL (l.map dat) (dat s) : Int) := by
  have := below_l0 l s hl l.length 0 0 (by omega) (by omega) k hk
  rw [Nat.zero_add] at this
  exact this
theorem SS_dat (l : List (List UInt8)) : (SS l).map dat = l := by
  unfold SS; rw [List.map_map]
  conv => rhs; rw [← List.map_id l]
  rfl
theorem mem_SS (l : List (List UInt8)) (s : ByteArray) : mem (SS l) s = decide (dat s ∈ l) := by
  rw [Bool.eq_iff_iff, mem_iff, decide_eq_true_eq]
  unfold SS
  rw [List.mem_map]
  constructor
  · rintro ⟨x, hx, rfl⟩; exact hx
  · intro h; exact ⟨_, h, mkS_data s⟩
/-- The inner loop: what stands in 'next' and what is left of the list. -/
theorem sorted_l1 (l : List ByteArray) (hl : l.length ≤ 1000000) (i : Nat) (x : ByteArray) (hx : l[i]? = some x) (out : List (List UInt8)) (ho : out.length ≤ 1000000) : ∀ (d j : Nat) (nx : List (List UInt8)) (put : Bool), j + d = out.length → nx.length ≤ 2 * j → ∀ k, d < k →
    boltingref02_Sorted.l1 k l (SS out) (i : Int) (SS nx) put (j : Int) = boltingref02_Sorted.l0 (k - d - 1) l (SS (nx ++ if put then out.drop j else insert1 (dat x) (out.drop j))) ((i + 1 : Nat) : Int)
  | 0, j, nx, put, h, hn, k, hk => by
    obtain ⟨k, rfl⟩ : ∃ m, k = m + 1 := ⟨k - 1, by omega⟩
    have hi := (List.getElem?_eq_some_iff.1 hx).1
    simp only [boltingref02_Sorted.l1]
    rw [if_neg (by rw [SS_len]; omega), List.drop_of_length_le (by omega), wrap_succ (by omega) (by omega)]
    cases put with
    | true => rw [if_pos rfl, if_pos rfl, List.append_nil]; rfl
    | false =>
      simp only [Bool.false_eq_true, if_false]
      rw [if_pos (by omega), if_pos (by omega), if_pos (by rw [SS_len]; omega), rd_at hx]
      have : SS nx ++ [x] = SS (nx ++ insert1 (dat x) []) := by
        conv => lhs; rw [← mkS_data x]
        exact SS_snoc nx (dat x)
      rw [this]; rfl
  | d + 1, j, nx, put, h, hn, k, hk => by
    obtain ⟨k, rfl⟩ : ∃ m, k = m + 1 := ⟨k - 1, by omega⟩
    have hi := (List.getElem?_eq_some_iff.1 hx).1
    obtain ⟨y, hy⟩ := get_some (show j < out.length by omega)
    have hry : rdOf ByteArray.empty (SS out) (j : Int) = mkS y := SS_at hy
    simp only [boltingref02_Sorted.l1]
    rw [if_pos (by rw [SS_len]; omega), hry, rd_at hx, drop_at hy, show k + 1 - (d + 1) - 1 = k - d - 1 by omega, wrap_succ (i := (j : Int)) (by omega) (by omega)]
    cases put with
    | true =>
      rw [if_pos rfl, if_pos (by omega), if_pos (by rw [SS_len]; omega), SS_snoc]
      have := sorted_l1 l hl i x hx out ho d (j + 1) (nx ++ [y]) true (by omega) (by simp; omega) k (by omega)
      rw [if_pos rfl, List.append_assoc] at this
      rw [if_pos rfl]
      exact this
    | false =>
      rw [if_neg (by simp), if_pos (by omega), if_pos (by omega), if_pos (by omega), less_f]
      simp only [Option.bind_some, Bool.false_eq_true, if_false]
      show (if decide (dat x < y) = true then _ else _) = _
      by_cases e : dat x < y
      · rw [decide_eq_true e, if_pos rfl, if_pos (by rw [SS_len]; omega), if_pos (by rw [List.length_append, SS_len]; simp; omega)]
        have e2 : SS nx ++ [x] ++ [mkS y] = SS (nx ++ [dat x, y]) := by
          have a : SS nx ++ [x] = SS (nx ++ [dat x]) := by
            conv => lhs; rw [← mkS_data x]
            exact SS_snoc nx (dat x)
          rw [a, SS_snoc]; simp
        rw [e2]
        have hi1 : insert1 (dat x) (y :: out.drop (j + 1)) = dat x :: y :: out.drop (j + 1) := by unfold insert1; rw [if_pos e]
        rw [hi1]
        have := sorted_l1 l hl i x hx out ho d (j + 1) (nx ++ [dat x, y]) true (by omega) (by simp; omega) k (by omega)
        rw [if_pos rfl, List.append_assoc] at this
        exact this
      · rw [decide_eq_false e, if_neg (by simp), if_pos (by rw [SS_len]; omega), SS_snoc]
        have := sorted_l1 l hl i x hx out ho d (j + 1) (nx ++ [y]) false (by omega) (by simp; omega) k (by omega)
        rw [if_neg (by simp), List.append_assoc] at this
        have hi1 : insert1 (dat x) (y :: out.drop (j + 1)) = y :: insert1 (dat x) (out.drop (j + 1)) := by
          conv => lhs; unfold insert1
          rw [if_neg e]
        rw [hi1]
        exact this
theorem insert1_len (x : List UInt8) : ∀ l : List (List UInt8), (insert1 x l).length = l.length + 1
  | [] => rfl
  | y :: t => by
    unfold insert1
    split
    · rfl
    · rw [List.length_cons, insert1_len x t]; rfl
theorem sorted_l0 (l : List ByteArray) (hl : l.length ≤ 1000000) : ∀ (d i : Nat) (out : List (List UInt8)), i + d = l.length → out.length ≤ i → ∀ k, (d + 1) * (l.length + 2) < k →
    boltingref02_Sorted.l0 k l (SS out) (i : Int) = some (SS (insAll out ((l.drop i).map dat)))
  | 0, i, out, h, ho, k, hk => by
    obtain ⟨k, rfl⟩ : ∃ m, k = m + 1 := ⟨k - 1, by omega⟩
    simp only [boltingref02_Sorted.l0]
    rw [if_neg (by omega), List.drop_of_length_le (by omega)]
    rfl
  | d + 1, i, out, h, ho, k, hk => by
    have hm : (d + 1 + 1) * (l.length + 2) = (d + 1) * (l.length + 2) + (l.length + 2) := Nat.succ_mul _ _
    have hm2 : l.length + 2 ≤ (d + 1) * (l.length + 2) := Nat.le_mul_of_pos_left _ (by omega)
    obtain ⟨k, rfl⟩ : ∃ m, k = m + 1 := ⟨k - 1, by omega⟩
    obtain ⟨x, hx⟩ := get_some (show i < l.length by omega)
    simp only [boltingref02_Sorted.l0]
    rw [if_pos (by omega), if_pos (by omega), rd_at hx, has_f (SS out) x (by rw [SS_len]; omega) (by rw [SS_len]; omega), mem_SS, drop_at hx, List.map_cons]
    simp only [Option.bind_some]
    have := sorted_l1 l hl i x hx out (by omega) out.length 0 [] (decide (dat x ∈ out)) (by omega) (by simp) k (by omega)
    rw [show ((0 : Nat) : Int) = 0 from rfl, show SS ([] : List (List UInt8)) = [] from rfl] at this
    rw [this, List.nil_append, List.drop_zero]
    show _ = some (SS (insAll (if dat x ∈ out then out else insert1 (dat x) out) _))
    by_cases e : dat x ∈ out
    · rw [decide_eq_true e, if_pos rfl, if_pos e]
      exact sorted_l0 l hl d (i + 1) out (by omega) (by omega) _ (by omega)
    · rw [decide_eq_false e, if_neg (by simp), if_neg e]
      exact sorted_l0 l hl d (i + 1) _ (by omega) (by rw [insert1_len]; omega) _ (by omega)
theorem rsorted_f (l : List ByteArray) (hl : l.length ≤ 1000000) {k : Nat} (hk : (l.length + 1) * (l.length + 2) < k) : boltingref02_Sorted.f k l = some (SS (sorted (l.map dat))) := by
  have := sorted_l0 l hl l.length 0 [] (by omega) (by simp) k hk
  rw [insAll_sorted] at this
  exact this
end Go.Proofs.Ytmbmjaiggefjmaa.Pure
