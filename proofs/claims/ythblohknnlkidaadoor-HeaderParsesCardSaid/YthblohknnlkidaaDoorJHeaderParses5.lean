/- The row of HeaderParses, with what stands under it.. -/
import Derived.Test.YthblohknnlkidaaDoorJHeaderParses4
import Derived.Test.YthblohknnlkidaaDoorJHeaderParses3
import Derived.Test.YthblohknnlkidaaDoorRows
import Derived.Test.YthblohknnlkidaaDoorJHeaderParses1
import Derived.Test.YthblohknnlkidaaDoorCards
import Derived.Test.YthblohknnlkidaaDoorTie
import Derived.SevenTiedAt
import Derived.WalkKit
import Derived.ProofKit
import Derived.OpenShut
import Derived.ShutString
import Derived.ChangeOld
import Derived.Below
import Derived.SizedLaws
/- What the reference's words come to: plain Lean. -/
namespace Go.Proofs.YthblohknnlkidaaDoor.Pure
set_option linter.unusedVariables false
set_option linter.unusedSimpArgs false
open Go.RowKit Go.Proofs.YthblohknnlkidaaDoor.Pr Go.Proofs.YthblohknnlkidaaDoorW.PrintWords Go.Proofs.YthblohknnlkidaaDoorW.PrintLast

theorem ref_space (c : Int) : boltingref02_Space.f c = some (spaceI c) := by
  unfold boltingref02_Space.f spaceI
  repeat' split
  all_goals
    refine congrArg some ?_
    rw [Bool.eq_iff_iff]
    simp only [Bool.or_eq_true, decide_eq_true_eq, Bool.false_eq_true, eq_self, true_iff, false_iff, beq_iff_eq]
    omega
theorem ref_words_l0 (s : ByteArray) (hs : s.size ≤ 1000000) : ∀ (d i : Nat) (acc : List (List UInt8)) (w : List UInt8), i + d = s.size → acc.length ≤ i → w.length ≤ i → ∀ k, d < k →
    boltingref02_Words.l0 k s (SS acc) (mkS w) (i : Int) = some (SS (acc ++ fieldsAux space (s.data.toList.drop i) w))
  | 0, i, acc, w, h, ha, hw, k, hk => by
    obtain ⟨k, rfl⟩ : ∃ m, k = m + 1 := ⟨k - 1, by omega⟩
    simp only [boltingref02_Words.l0]
    rw [if_neg (by omega), List.drop_of_length_le (by rw [← Lib.size_eq]; omega), mkS_toList]
    unfold fieldsAux
    by_cases e : w = []
    · rw [if_pos e, if_pos e]; simp
    · rw [if_neg e, if_neg e, if_pos (by rw [SS_len]; omega), SS_snoc]
  | d + 1, i, acc, w, h, ha, hw, k, hk => by
    obtain ⟨k, rfl⟩ : ∃ m, k = m + 1 := ⟨k - 1, by omega⟩
    obtain ⟨c, hc⟩ := at_some s (show i < s.size by omega)
    simp only [boltingref02_Words.l0]
    rw [if_pos (by omega), if_pos (by omega), bt_c hc, ref_space, wrap_succ (by omega) (by omega), drop_one hc]
    simp only [Option.bind_some]
    have hext : s.extract (i : Int).toNat ((i : Int) + 1).toNat = mkS [c] := by
      rw [show (i : Int).toNat = i by omega, show ((i : Int) + 1).toNat = i + 1 by omega]
      exact extract_one hc
    rw [hext, mkS_toList, mkS_size, mkS_size, mkS_app]
    show _ = some (SS (acc ++ (if space c then _ else _)))
    by_cases hsp : spaceI c.toNat = true
    · have hsp' : space c = true := hsp
      rw [if_pos hsp, if_pos hsp']
      by_cases e : w = []
      · rw [if_pos e, if_pos e]
        subst e
        exact ref_words_l0 s hs d (i + 1) acc [] (by omega) (by omega) (by simp) k (by omega)
      · rw [if_neg e, if_neg e, if_pos (by rw [SS_len]; omega), SS_snoc]
        have := ref_words_l0 s hs d (i + 1) (acc ++ [w]) [] (by omega) (by simp; omega) (by simp) k (by omega)
        rw [List.append_assoc] at this
        exact this
    · have hsp' : ¬ space c = true := hsp
      rw [if_neg hsp, if_neg hsp', if_pos (by omega), if_pos (by omega), if_pos (by simp; omega)]
      exact ref_words_l0 s hs d (i + 1) acc (w ++ [c]) (by omega) (by omega) (by simp; omega) k (by omega)
theorem ref_words (s : ByteArray) (hs : s.size ≤ 1000000) {k : Nat} (hk : s.size < k) : boltingref02_Words.f k s = some (SS (words s.data.toList)) :=
  ref_words_l0 s hs s.size 0 [] [] (by omega) (by simp) (by simp) k hk
end Go.Proofs.YthblohknnlkidaaDoor.Pure
/- What the reference's pieces, Parts and Parse of layer 15 come to: plain Lean. -/
namespace Go.Proofs.YthblohknnlkidaaDoor.Pure
set_option linter.unusedVariables false
set_option linter.unusedSimpArgs false
open Go.RowKit Go.Proofs.YthblohknnlkidaaDoor.Pr Go.Proofs.YthblohknnlkidaaDoorW.PrintWords Go.Proofs.YthblohknnlkidaaDoorW.PrintLast

theorem ref_pieces_l0 (s : ByteArray) (hs : s.size ≤ 100000) : ∀ (d i b : Nat) (out : List (List UInt8)), i + d = s.size → b ≤ i → out.length ≤ i → (∀ x ∈ (s.data.toList.drop b).take (i - b), x ≠ 59) → ∀ k, d < k →
    boltingref15_pieces.l0 k s (SS out) (b : Int) (i : Int) = some (SS (out ++ cutAt 59 (s.data.toList.drop b)))
  | 0, i, b, out, h, hb, ho, hn, k, hk => by
    obtain ⟨k, rfl⟩ : ∃ m, k = m + 1 := ⟨k - 1, by omega⟩
    simp only [boltingref15_pieces.l0]
    have hl : (s.data.toList.drop b).take (i - b) = s.data.toList.drop b := List.take_of_length_le (by rw [List.length_drop, ← Lib.size_eq]; omega)
    rw [hl] at hn
    have e : s.extract (b : Int).toNat s.size = mkS (s.data.toList.drop b) := by
      rw [extract_mid, show (b : Int).toNat = b by omega, List.take_of_length_le (by rw [List.length_drop, ← Lib.size_eq]; omega)]
    rw [if_neg (by omega), if_pos (by omega), if_pos (by omega), if_pos (by rw [SS_len]; omega), cutAt_none hn, ← SS_snoc, e]
  | d + 1, i, b, out, h, hb, ho, hn, k, hk => by
    obtain ⟨k, rfl⟩ : ∃ m, k = m + 1 := ⟨k - 1, by omega⟩
    obtain ⟨c, hc⟩ := at_some s (show i < s.size by omega)
    have hcb : (s.data.toList.drop b)[i - b]? = some c := by rw [List.getElem?_drop, show b + (i - b) = i by omega]; exact hc
    simp only [boltingref15_pieces.l0]
    rw [if_pos (by omega), if_pos (by omega), bt_c hc, wrap_succ (by omega) (by omega)]
    by_cases e : c = 59
    · have e' : (c.toNat : Int) = 59 := by rw [e]; rfl
      have e2 : s.extract (b : Int).toNat (i : Int).toNat = mkS ((s.data.toList.drop b).take (i - b)) := by
        rw [extract_mid, show (b : Int).toNat = b by omega, show (i : Int).toNat = i by omega]
      have e3 : s.data.toList.drop b = (s.data.toList.drop b).take (i - b) ++ 59 :: s.data.toList.drop (i + 1) := by
        have := List.take_append_drop (i - b) (s.data.toList.drop b)
        rw [drop_at hcb, e, List.drop_drop, show b + (i - b + 1) = i + 1 by omega] at this
        exact this.symm
      have e4 := (congrArg (cutAt 59) e3).trans (cutAt_app _ hn)
      rw [if_pos e', if_pos (by omega), if_pos (by omega), if_pos (by omega), if_pos (by rw [SS_len]; omega), e2, SS_snoc, e4]
      have ih := ref_pieces_l0 s hs d (i + 1) (i + 1) (out ++ [(s.data.toList.drop b).take (i - b)]) (by omega) (by omega) (by simp; omega) (by simp) k (by omega)
      rw [List.append_assoc] at ih
      exact ih
    · have e' : ¬ (c.toNat : Int) = 59 := fun h => e (UInt8.toNat_inj.1 (by show c.toNat = 59; omega))
      rw [if_neg e']
      refine ref_pieces_l0 s hs d (i + 1) b out (by omega) (by omega) (by omega) ?_ k (by omega)
      intro x hx
      rw [show i + 1 - b = i - b + 1 by omega, take_at hcb] at hx
      rcases List.mem_append.1 hx with hx | hx
      · exact hn x hx
      · rw [List.mem_singleton] at hx; subst hx; exact e
theorem ref_pieces (s : ByteArray) (hs : s.size ≤ 100000) {k : Nat} (hk : s.size < k) : boltingref15_pieces.f k s = some (SS (cutAt 59 s.data.toList)) := by
  have := ref_pieces_l0 s hs s.size 0 0 [] (by omega) (by omega) (by simp) (by simp) k hk
  rw [List.drop_zero, List.nil_append] at this
  exact this
theorem ref_parts_l1 (out : List (List (List UInt8))) (hne : ∀ h ∈ out, h ≠ []) (w : List UInt8) (t pcs : List (List UInt8)) (i : Nat) (r : List (List ByteArray)) (m : Nat) (hs : out.length ≤ 100000) (hi : i ≤ 100000)
    (hr : ∀ k, m < k → boltingref15_Parts.l0 k (OO (if hasName out w then out else out ++ [w :: t])) (SS pcs) ((i : Int) + 1) = some r) :
    ∀ (d j : Nat), j + d = out.length → ∀ k, m + d + 1 < k → boltingref15_Parts.l1 k (OO out) (SS pcs) (i : Int) (SS (w :: t)) (!hasName (out.take j) w) (j : Int) = some r
  | 0, j, h, k, hk => by
    obtain ⟨k, rfl⟩ : ∃ m, k = m + 1 := ⟨k - 1, by omega⟩
    simp only [boltingref15_Parts.l1]
    rw [List.take_of_length_le (by omega), if_neg (by rw [OO_len]; omega), wrap_succ (by omega) (by omega)]
    cases hn : hasName out w with
    | false =>
      rw [hn] at hr
      rw [if_pos (by simp), if_pos (by rw [OO_len]; omega), OO_snoc]
      exact hr k (by omega)
    | true =>
      rw [hn] at hr
      rw [if_neg (by simp)]
      exact hr k (by omega)
  | d + 1, j, h, k, hk => by
    obtain ⟨k, rfl⟩ : ∃ m, k = m + 1 := ⟨k - 1, by omega⟩
    obtain ⟨x, hx⟩ := get_some (show j < out.length by omega)
    have hxm : x ∈ out := List.mem_iff_getElem?.2 ⟨j, hx⟩
    obtain ⟨h0, ht, rfl⟩ : ∃ h0 ht, x = h0 :: ht := by
      cases x with
      | nil => exact absurd rfl (hne _ hxm)
      | cons a b => exact ⟨a, b, rfl⟩
    have ih := ref_parts_l1 out hne w t pcs i r m hs hi hr d (j + 1) (by omega) k (by omega)
    rw [take_at hx, hasName_snoc] at ih
    simp only [boltingref15_Parts.l1]
    rw [if_pos (by rw [OO_len]; omega), wrap_succ (i := (j : Int)) (by omega) (by omega)]
    cases hn : hasName (out.take j) w with
    | false =>
      rw [hn] at ih
      rw [if_pos (by simp), if_pos (by omega), OO_at hx, SS_len, SS_len, if_pos (by simp; try omega), if_pos (by simp; try omega), SS_zero, SS_zero, mkS_toList, mkS_toList]
      exact ih
    | true =>
      rw [hn] at ih
      rw [if_neg (by simp)]
      exact ih
theorem ref_parts_l0 (pcs : List (List UInt8)) (hp : pcs.length ≤ 100000) (hz : ∀ p ∈ pcs, p.length ≤ 100000) : ∀ (d i : Nat) (out : List (List (List UInt8))), i + d = pcs.length → (∀ h ∈ out, h ≠ []) → out.length ≤ i → ∀ k, d * (pcs.length + 2) + 100001 < k →
    boltingref15_Parts.l0 k (OO out) (SS pcs) (i : Int) = some (OO ((pcs.drop i).foldl stepP out))
  | 0, i, out, h, hne, hl, k, hk => by
    obtain ⟨k, rfl⟩ : ∃ m, k = m + 1 := ⟨k - 1, by omega⟩
    simp only [boltingref15_Parts.l0]
    rw [if_neg (by rw [SS_len]; omega), List.drop_of_length_le (by omega)]
    rfl
  | d + 1, i, out, h, hne, hl, k, hk => by
    obtain ⟨k, rfl⟩ : ∃ m, k = m + 1 := ⟨k - 1, by omega⟩
    rw [Nat.succ_mul] at hk
    obtain ⟨x, hx⟩ := get_some (show i < pcs.length by omega)
    have hxm : x ∈ pcs := List.mem_iff_getElem?.2 ⟨i, hx⟩
    have hxl := hz x hxm
    simp only [boltingref15_Parts.l0]
    rw [if_pos (by rw [SS_len]; omega), if_pos (by omega), SS_at hx]
    have hW : boltingref02_Words.f k (mkS x) = some (SS (words x)) := by
      have := ref_words (mkS x) (by rw [mkS_size]; omega) (k := k) (by rw [mkS_size]; omega)
      rw [mkS_list] at this
      exact this
    rw [hW, drop_at hx]
    simp only [Option.bind_some, List.foldl_cons]
    cases hw : words x with
    | nil =>
      rw [if_pos (by rw [SS_len]; rfl), wrap_succ (by omega) (by omega)]
      have : stepP out x = out := by unfold stepP; rw [hw]
      rw [this]
      exact ref_parts_l0 pcs hp hz d (i + 1) out (by omega) hne (by omega) k (by omega)
    | cons w t =>
      have hwl : w.length ≤ x.length := words_len (by rw [hw]; simp)
      rw [if_neg (by rw [SS_len]; simp; omega), if_pos (by rw [SS_len]; simp; try omega), SS_zero]
      have hL : boltingref02_Lower.f (mkS w) = some (mkS (lower w)) := bnd_of _ (by rw [mkS_size]; omega)
      rw [hL]
      simp only [Option.bind_some]
      have hset : (SS (w :: t)).set (0 : Int).toNat (mkS (lower w)) = SS (lower w :: t) := rfl
      rw [hset]
      have hst : stepP out x = if hasName out (lower w) then out else out ++ [lower w :: t] := by unfold stepP; rw [hw]
      refine ref_parts_l1 out hne (lower w) t pcs i _ (d * (pcs.length + 2) + 100001) (by omega) (by omega) ?_ out.length 0 (by omega) k (by omega)
      intro k hk
      rw [← hst]
      exact ref_parts_l0 pcs hp hz d (i + 1) (stepP out x) (by omega) (stepP_ne hne x) (by have := stepP_count out x; omega) k hk
theorem ref_parts (s : ByteArray) (hs : s.size ≤ 1500) {k : Nat} (hk : 3000001 ≤ k) : boltingref15_Parts.f k s = some (OO (partsL s.data.toList)) := by
  unfold boltingref15_Parts.f
  rw [ref_pieces s (by omega) (by omega)]
  simp only [Option.bind_some]
  have hc := cutAt_count 59 s.data.toList
  rw [← Lib.size_eq] at hc
  refine ref_parts_l0 (cutAt 59 s.data.toList) (by omega) (fun p hp => by
    have := cutAt_len 59 s.data.toList p hp
    rw [← Lib.size_eq] at this
    omega) (cutAt 59 s.data.toList).length 0 [] (Nat.zero_add _) (by simp) (by simp) k ?_
  have : (cutAt 59 s.data.toList).length * ((cutAt 59 s.data.toList).length + 2) ≤ 1501 * 1503 := Nat.mul_le_mul (by omega) (by omega)
  omega

/-! ### what directives ask -/
def stepN (ns : List (List UInt8)) (v : List UInt8) : List (List UInt8) := if mayL v && !ns.contains v then ns ++ [v] else ns
theorem stepN_count (ns : List (List UInt8)) (v : List UInt8) : (stepN ns v).length ≤ ns.length + 1 := by
  unfold stepN
  split <;> simp
theorem stepV_split : ∀ (l : List (List UInt8)) (g : Asked), (l.foldl stepV g).names = l.foldl stepN g.names ∧ (l.foldl stepV g).any = (g.any || l.contains star) ∧ (l.foldl stepV g).twice = (g.twice || l.contains dup)
  | [], g => by simp
  | v :: l, g => by
    obtain ⟨h1, h2, h3⟩ := stepV_split l (stepV g v)
    rw [List.foldl_cons, List.foldl_cons, h1, h2, h3, List.contains_cons, List.contains_cons]
    unfold stepV stepN
    by_cases e1 : v = star
    · subst e1
      rw [if_pos rfl]
      refine ⟨by simp [show mayL star = false by decide], by simp, by simp [show (dup == star) = false by decide]⟩
    · rw [if_neg e1]
      have e1' : (star == v) = false := beq_eq_false_iff_ne.2 (fun h => e1 h.symm)
      by_cases e2 : v = dup
      · subst e2
        rw [if_pos rfl]
        refine ⟨by simp [show mayL dup = false by decide], by simp [e1'], by simp⟩
      · rw [if_neg e2]
        have e2' : (dup == v) = false := beq_eq_false_iff_ne.2 (fun h => e2 h.symm)
        split
        · exact ⟨rfl, by simp [e1'], by simp [e2']⟩
        · exact ⟨rfl, by simp [e1'], by simp [e2']⟩
theorem ref_parse_l1 (P : List (List ByteArray)) (i : Nat) (hi : i ≤ 100000) (v : List (List UInt8)) (hv : v.length ≤ 50000) (hz : ∀ x ∈ v, x.length ≤ 100000) (on rep any twice : Bool) (r : Bool × Bool × List ByteArray × Bool × Bool) (m : Nat) (hm : 100001 ≤ m) (names : List (List UInt8))
    (hr : ∀ k, m < k → boltingref15_Parse.l0 k P ((i : Int) + 1) on rep (SS names) any twice = some r) :
    ∀ (d j : Nat) (ns : List (List UInt8)), j + d = v.length → ns.length ≤ j → (v.drop j).foldl stepN ns = names → ∀ k, m + d + 1 < k →
      boltingref15_Parse.l1 k P (i : Int) (SS v) (j : Int) on rep (SS ns) any twice = some r
  | 0, j, ns, h, hl, hf, k, hk => by
    obtain ⟨k, rfl⟩ : ∃ m, k = m + 1 := ⟨k - 1, by omega⟩
    simp only [boltingref15_Parse.l1]
    rw [List.drop_of_length_le (by omega)] at hf
    subst hf
    rw [if_neg (by rw [SS_len]; omega), wrap_succ (by omega) (by omega)]
    exact hr k (by omega)
  | d + 1, j, ns, h, hl, hf, k, hk => by
    obtain ⟨k, rfl⟩ : ∃ m, k = m + 1 := ⟨k - 1, by omega⟩
    obtain ⟨x, hx⟩ := get_some (show j < v.length by omega)
    have hxm : x ∈ v := List.mem_iff_getElem?.2 ⟨j, hx⟩
    have hxl := hz x hxm
    rw [drop_at hx, List.foldl_cons] at hf
    have next := ref_parse_l1 P i hi v hv hz on rep any twice r m hm names hr d (j + 1) (stepN ns x) (by omega) (by have := stepN_count ns x; omega) hf k (by omega)
    simp only [boltingref15_Parse.l1]
    rw [if_pos (by rw [SS_len]; omega), if_pos (by omega), SS_at hx, ref_may _ (by rw [mkS_size]; omega) (by rw [mkS_size]; omega), mkS_list, wrap_succ (i := (j : Int)) (by omega) (by omega)]
    simp only [Option.bind_some]
    unfold stepN at next
    by_cases h3 : mayL x = true
    · rw [if_pos h3, ref_has ns (mkS x) (by omega) (by omega), mkS_list]
      simp only [Option.bind_some]
      by_cases h4 : ns.contains x = true
      · rw [if_pos h4]
        rw [if_neg (by rw [h4]; simp)] at next
        exact next
      · rw [if_neg h4, SS_len, if_pos (by omega), SS_snoc]
        rw [if_pos (by rw [h3]; simpa using h4)] at next
        exact next
    · rw [if_neg h3]
      rw [if_neg (by simp [h3])] at next
      exact next
theorem namedL_snoc (l : List (List (List UInt8))) (x : List (List UInt8)) (n : List UInt8) : namedL (l ++ [x]) n = if hasName l n then namedL l n else if x.headD [] == n then (x.tail, true) else ([], false) := by
  unfold namedL hasName
  rw [List.find?_append]
  cases hf : l.find? (fun h => h.headD [] == n) with
  | some y =>
    rw [if_pos]
    · rfl
    · rw [List.any_eq_true]
      exact ⟨y, List.mem_of_find?_eq_some hf, by simpa using List.find?_some hf⟩
  | none =>
    rw [if_neg]
    · have e : [x].find? (fun h => h.headD [] == n) = if x.headD [] == n then some x else none := by
        simp only [List.find?]
        cases (x.headD [] == n) <;> rfl
      rw [Option.none_or, e]
      cases (x.headD [] == n) <;> rfl
    · intro h
      rw [List.any_eq_true] at h
      obtain ⟨y, hy, e⟩ := h
      exact List.find?_eq_none.1 hf y hy e
theorem namedL_none {l : List (List (List UInt8))} {n : List UInt8} (h : hasName l n = false) : namedL l n = ([], false) := by
  unfold namedL
  rw [List.find?_eq_none.2 (fun y hy e => by
    have : hasName l n = true := List.any_eq_true.2 ⟨y, hy, e⟩
    rw [h] at this; cases this)]
theorem hasName_take {P : List (List (List UInt8))} (hon : (heads P).Nodup) {i : Nat} {x : List (List UInt8)} (hx : P[i]? = some x) : hasName (P.take i) (x.headD []) = false := by
  rw [Bool.eq_false_iff]
  intro h
  obtain ⟨y, hy, e⟩ := List.any_eq_true.1 h
  obtain ⟨j, hj⟩ := List.mem_iff_getElem?.1 hy
  rw [List.getElem?_take] at hj
  split at hj
  · rename_i hji
    have gx : (heads P)[i]? = some (x.headD []) := by unfold heads; rw [List.getElem?_map, hx]; rfl
    have gy : (heads P)[j]? = some (y.headD []) := by unfold heads; rw [List.getElem?_map, hj]; rfl
    have hl : (heads P).length = P.length := List.length_map _
    have hi : i < P.length := (List.getElem?_eq_some_iff.1 hx).1
    have a1 : (heads P)[i]'(by omega) = x.headD [] := Option.some.inj ((List.getElem?_eq_getElem _).symm.trans gx)
    have a2 : (heads P)[j]'(by omega) = y.headD [] := Option.some.inj ((List.getElem?_eq_getElem _).symm.trans gy)
    have e' : y.headD [] = x.headD [] := by simpa using e
    have := (List.getElem_inj hon).1 (a2.trans (e'.trans a1.symm))
    omega
  · cases hj
/-- How far the reference has come: what the directives told so far ask. -/
def onOf (P : List (List (List UInt8))) : Bool := (namedL P requireN).1.contains scriptV
def anyOf (P : List (List (List UInt8))) : Bool := if (namedL P typesN).2 then (namedL P typesN).1.contains star else true
def twiceOf (P : List (List (List UInt8))) : Bool := if (namedL P typesN).2 then (namedL P typesN).1.contains dup else true
def namesOf (P : List (List (List UInt8))) : List (List UInt8) := if (namedL P typesN).2 then (namedL P typesN).1.foldl stepN [] else []
set_option maxRecDepth 100000 in
theorem parseG_of (P : List (List (List UInt8))) (rep : Bool) : parseG P rep = ⟨onOf P, rep, namesOf P, anyOf P, twiceOf P⟩ := by
  unfold parseG onOf namesOf anyOf twiceOf
  obtain ⟨h1, h2, h3⟩ := stepV_split (namedL P typesN).1 ⟨[], false, false⟩
  cases (namedL P typesN).2 with
  | true =>
    simp only [if_true]
    rw [h1, h2, h3]
    simp
  | false => simp
set_option maxRecDepth 100000 in
theorem ref_parse_l0 (P : List (List (List UInt8))) (hP : P.length ≤ 50000) (hne : ∀ x ∈ P, x ≠ []) (hon : (heads P).Nodup) (hz : ∀ d ∈ P, d.length ≤ 50000 ∧ ∀ x ∈ d, x.length ≤ 100000) (rep : Bool) : ∀ (d i : Nat), i + d = P.length → ∀ k, 50004 * d + 100001 < k →
    boltingref15_Parse.l0 k (OO P) (i : Int) (onOf (P.take i)) rep (SS (namesOf (P.take i))) (anyOf (P.take i)) (twiceOf (P.take i)) = some (onOf P, rep, SS (namesOf P), anyOf P, twiceOf P)
  | 0, i, h, k, hk => by
    obtain ⟨k, rfl⟩ : ∃ m, k = m + 1 := ⟨k - 1, by omega⟩
    simp only [boltingref15_Parse.l0]
    rw [if_neg (by rw [OO_len]; omega), List.take_of_length_le (by omega)]
  | d + 1, i, h, k, hk => by
    obtain ⟨k, rfl⟩ : ∃ m, k = m + 1 := ⟨k - 1, by omega⟩
    obtain ⟨x, hx⟩ := get_some (show i < P.length by omega)
    have hxm : x ∈ P := List.mem_iff_getElem?.2 ⟨i, hx⟩
    have hfree := hasName_take hon hx
    obtain ⟨h0, v, rfl⟩ : ∃ h0 ht, x = h0 :: ht := by
      cases x with
      | nil => exact absurd rfl (hne _ hxm)
      | cons a b => exact ⟨a, b, rfl⟩
    obtain ⟨hvl, hvz⟩ := hz _ hxm
    have hvl' : v.length ≤ 50000 := by simp at hvl; omega
    have hvz' : ∀ x ∈ v, x.length ≤ 100000 := fun x hx => hvz x (by simp [hx])
    have ih := fun k hk => ref_parse_l0 P hP hne hon hz rep d (i + 1) (by omega) k hk
    rw [take_at hx] at ih
    change hasName (P.take i) h0 = false at hfree
    obtain ⟨T, hT⟩ : ∃ T, P.take i = T := ⟨_, rfl⟩
    rw [hT] at hfree ih ⊢
    have j1 : ∀ k on', on' = onOf (T ++ [h0 :: v]) → 50004 * d + 150003 < k → boltingref15_Parse.j1 k (OO P) (i : Int) (SS v) on' rep (SS (namesOf T)) (anyOf T) (twiceOf T) = some (onOf P, rep, SS (namesOf P), anyOf P, twiceOf P) := by
      rintro k on' rfl hk
      obtain ⟨k, rfl⟩ : ∃ m, k = m + 1 := ⟨k - 1, by omega⟩
      simp only [boltingref15_Parse.j1]
      rw [if_pos (by omega), if_pos (by rw [OO_len]; omega), OO_at hx, SS_len, if_pos (by simp; try omega), SS_zero, mkS_toList]
      by_cases e : h0 = typesN
      · have e' : h0 = ([116, 114, 117, 115, 116, 101, 100, 45, 116, 121, 112, 101, 115] : List UInt8) := e
        rw [if_pos e']
        have hs1 := ref_has v (⟨#[42]⟩ : ByteArray) (by omega) (show 100001 ≤ k by omega)
        have hs2 := ref_has v (⟨#[39, 97, 108, 108, 111, 119, 45, 100, 117, 112, 108, 105, 99, 97, 116, 101, 115, 39]⟩ : ByteArray) (by omega) (show 100001 ≤ k by omega)
        rw [hs1]
        simp only [Option.bind_some]
        rw [hs2]
        simp only [Option.bind_some]
        have hn0 : namedL T typesN = ([], false) := namedL_none (by rw [← e]; exact hfree)
        have hn1 : namedL (T ++ [h0 :: v]) typesN = (v, true) := by
          rw [namedL_snoc, if_neg (by rw [← e, hfree]; simp), if_pos (by rw [e]; simp)]
          rfl
        have b1 : namesOf T = [] := by unfold namesOf; rw [hn0]; rfl
        have b2 : namesOf (T ++ [h0 :: v]) = v.foldl stepN [] := by unfold namesOf; rw [hn1]; rfl
        have b3 : anyOf (T ++ [h0 :: v]) = v.contains star := by unfold anyOf; rw [hn1]; rfl
        have b4 : twiceOf (T ++ [h0 :: v]) = v.contains dup := by unfold twiceOf; rw [hn1]; rfl
        rw [b1]
        rw [b2, b3, b4] at ih
        exact ref_parse_l1 (OO P) i (by omega) v hvl' hvz' (onOf (T ++ [h0 :: v])) rep (v.contains star) (v.contains dup) _ (50004 * d + 100001) (by omega) (v.foldl stepN []) ih v.length 0 [] (by omega) (by simp) (by simp) k (by omega)
      · have e' : ¬ h0 = ([116, 114, 117, 115, 116, 101, 100, 45, 116, 121, 112, 101, 115] : List UInt8) := e
        rw [if_neg e', wrap_succ (by omega) (by omega)]
        have hn1 : namedL (T ++ [h0 :: v]) typesN = namedL T typesN := by
          rw [namedL_snoc]
          cases hh : hasName T typesN with
          | true => simp
          | false => rw [namedL_none hh, if_neg (by simp), if_neg (by simpa using e)]
        have b2 : namesOf (T ++ [h0 :: v]) = namesOf T := by unfold namesOf; rw [hn1]
        have b3 : anyOf (T ++ [h0 :: v]) = anyOf T := by unfold anyOf; rw [hn1]
        have b4 : twiceOf (T ++ [h0 :: v]) = twiceOf T := by unfold twiceOf; rw [hn1]
        rw [b2, b3, b4] at ih
        exact ih k (by omega)
    simp only [boltingref15_Parse.l0]
    have hdrop : List.drop 1 (SS (h0 :: v)) = SS v := rfl
    rw [if_pos (by rw [OO_len]; omega), if_pos (by omega), OO_at hx, SS_len, if_pos (by simp; try omega), hdrop]
    simp only [Option.bind_some]
    rw [if_pos (by simp; try omega), SS_zero, mkS_toList]
    by_cases e : h0 = requireN
    · have e' : h0 = ([114, 101, 113, 117, 105, 114, 101, 45, 116, 114, 117, 115, 116, 101, 100, 45, 116, 121, 112, 101, 115, 45, 102, 111, 114] : List UInt8) := e
      rw [if_pos e']
      have hs1 := ref_has v (⟨#[39, 115, 99, 114, 105, 112, 116, 39]⟩ : ByteArray) (by omega) (show 100001 ≤ k by omega)
      rw [hs1]
      simp only [Option.bind_some]
      refine j1 k _ ?_ (by omega)
      unfold onOf
      rw [namedL_snoc, if_neg (by rw [← e, hfree]; simp), if_pos (by rw [e]; simp)]
      rfl
    · have e' : ¬ h0 = ([114, 101, 113, 117, 105, 114, 101, 45, 116, 114, 117, 115, 116, 101, 100, 45, 116, 121, 112, 101, 115, 45, 102, 111, 114] : List UInt8) := e
      rw [if_neg e']
      refine j1 k _ ?_ (by omega)
      unfold onOf
      rw [namedL_snoc]
      cases hh : hasName T requireN with
      | true => simp
      | false => rw [namedL_none hh, if_neg (by simp), if_neg (by simpa using e)]
theorem ref_parse (s : ByteArray) (hs : s.size ≤ 1500) (rep : Bool) {k : Nat} (hk : 80000000 ≤ k) :
    boltingref15_Parse.f k s rep = some ((parseG (partsL s.data.toList) rep).on, (parseG (partsL s.data.toList) rep).report, SS (parseG (partsL s.data.toList) rep).names, (parseG (partsL s.data.toList) rep).any, (parseG (partsL s.data.toList) rep).twice) := by
  have hne := partsL_ne s.data.toList
  have hcn := partsL_count s.data.toList
  have hwd := partsL_words s.data.toList
  have hon := partsL_once s.data.toList
  rw [← Lib.size_eq] at hcn hwd
  unfold boltingref15_Parse.f
  rw [ref_parts s hs (by omega), parseG_of]
  simp only [Option.bind_some]
  generalize partsL s.data.toList = P at hne hcn hwd hon ⊢
  have := ref_parse_l0 P (by omega) hne hon (fun d hd => ⟨by have := (hwd d hd).1; omega, fun x hx => by have := (hwd d hd).2 x hx; omega⟩) rep P.length 0 (by omega) k (by
    have : 50004 * P.length ≤ 50004 * 1501 := Nat.mul_le_mul (Nat.le_refl _) (by omega)
    omega)
  exact this
end Go.Proofs.YthblohknnlkidaaDoor.Pure
/- HeaderParses' law in the form that the row asks for. -/
namespace Go.Proofs.YthblohknnlkidaaDoor.Pr
set_option linter.unusedVariables false
open Go.RowKit Go.Lib Go.Shelf Go.Proofs.YthblohknnlkidaaDoor Go.Proofs.YthblohknnlkidaaDoorW.PrintWords
def boltinglaw15_HeaderParses.f (k : Nat) (a0 : ByteArray) (a1 : Bool) : Option Bool := if a0.size ≤ 140737488351232 then some true else none
theorem boltinglaw15_HeaderParses.calls (k : Nat) (a0 : ByteArray) (a1 : Bool) (r : Bool) (w : World) (h : boltinglaw15_HeaderParses.f k a0 a1 = some r) :
    Calls Tryd.prog 3 #[.string a0, .bool a1] w fun e w' => e = .returned (.bool r) ∧ Below w.heap.size w w' := by
  unfold boltinglaw15_HeaderParses.f at h
  split at h
  · cases h
    rename_i hs
    obtain ⟨X, hX⟩ : ∃ X, a0.extract 0 (min a0.size 500) = X := ⟨_, rfl⟩
    have hXs : X.size ≤ 500 := by rw [← hX, ByteArray.size_extract]; omega
    obtain ⟨K, hK⟩ : ∃ K, 80000000 ≤ K := ⟨_, Nat.le_refl _⟩
    obtain ⟨hn1, hn2⟩ := Pure.parse_len X.data.toList a1
    have hc := Pure.partsL_count X.data.toList
    have hw := Pure.partsL_words X.data.toList
    rw [← Lib.size_eq] at hn1 hc hw
    have e1 : ∀ p ∈ Pure.OO (Pure.partsL X.data.toList), ∃ d ∈ Pure.partsL X.data.toList, p = SS d := fun p hp => by
      obtain ⟨d, hd, e⟩ := List.mem_map.1 hp
      exact ⟨d, hd, e.symm⟩
    refine Pure.parses_law (k := K) w hX (Pure.parts_f X (by omega) (by omega)) (Pure.ref_parts X (by omega) (by omega)) (Pure.parse_f X (by omega) a1 (by omega)) (Pure.ref_parse X (by omega) a1 hK) (Pure.same_f _ _ _ _ _ (by omega) (by omega)) (fun p hp => ?_) (Pure.fixed_true (by omega)) (by rw [Pure.OO_len]; omega) (fun p hp => ?_) (by rw [SS_len]; omega) hs
    · obtain ⟨d, hd, rfl⟩ := e1 p hp
      have := (hw d hd).1
      exact Pure.equal_f d (by omega) (by omega)
    · obtain ⟨d, hd, rfl⟩ := e1 p hp
      have := (hw d hd).1
      rw [SS_len]; omega
  · cases h
end Go.Proofs.YthblohknnlkidaaDoor.Pr
/- HeaderParses of the document's chapter 15: it answers true whatever the input. -/
namespace Go.Proofs.YthblohknnlkidaaDoor
set_option linter.unusedVariables false
open Go.Proofs.YthblohknnlkidaaDoor.Pr
theorem Pure.HeaderParses (a0 : ByteArray) (a1 : Bool) (h0 : a0.size ≤ 140737488351232) : ∃ k : Nat, boltinglaw15_HeaderParses.f k a0 a1 = some true := ⟨0, by unfold boltinglaw15_HeaderParses.f; rw [if_pos h0]⟩
end Go.Proofs.YthblohknnlkidaaDoor
/- The row of HeaderParses. -/
namespace Go.Proofs.YthblohknnlkidaaDoor.headerParses
open Go.ChangeShapes Go.WideShapes Go.ChangeAt Go.RowKit
open Go.ChangeMaps (open_string shut_string)
set_option linter.unusedVariables false
set_option linter.unusedSimpArgs false
theorem own : ownKnob Tryd.prog.godebug = none := by kernel_rfl
theorem witness_row (os : Os) {H : Type} (enc : TypeId × Value → H) :
    (OpenSpec.ofChange Rows.headerParsesSpec).preRow enc Tryd.prog Tryd.f3 Rows.headerParsesRow.domain false Rows.headerParsesRow.laid ((laidWorld os).forCall (fun _ _ => 0) ⟨#[], #[.string ByteArray.empty, .bool false], []⟩).memory #[.string ByteArray.empty, .bool false] := by
  obtain ⟨x, hx⟩ : ∃ x, DataW.whole enc Tryd.prog ((laidWorld os).forCall (fun _ _ => 0) ⟨#[], #[.string ByteArray.empty, .bool false], []⟩).memory Tryd.f3.params.toList (OpenSpec.ofChange Rows.headerParsesSpec).vars false (#[.string ByteArray.empty, .bool false] : Array Value).toList 8 = some x := Option.isSome_iff_exists.1 (by kernel_rfl)
  exact OpenSpec.preRow_of_cond 8 hx rfl (fun k hk => by cases hk) (by kernel_rfl) (laid_met os _)
set_option maxRecDepth 100000 in
theorem lifted (os : Os) (started : os.Started) (H : Type) (enc : TypeId × Value → H) :
    ReturnsInHanded {} Tryd.checked os 3 .any ((OpenSpec.ofChange Rows.headerParsesSpec).preRow enc Tryd.prog Tryd.f3 Rows.headerParsesRow.domain false Rows.headerParsesRow.laid) (Rows.headerParsesSpec.post enc Tryd.prog Tryd.f3 false true false false) := by
  refine returnsInHanded_of_row (C := Tryd.checked) (s := OpenSpec.ofChange Rows.headerParsesSpec) (F := fun _ _ _ => 0) own started (by kernel_rfl) Tryd.func3
    (witness_row_atRef (enc := enc) (C := Tryd.checked) false (laidWorld os) #[.string ByteArray.empty, .bool false] rfl (by kernel_rfl) (by kernel_rfl) (by kernel_rfl) (witness_row os enc)) ?_
  intro W base args ds gs before hval0 hW hcnd _ hsz0 hLaid hShape _
  have hsz : (DataW.weightsEach Tryd.prog (Tryd.f3.params.toList ++ Rows.headerParsesSpec.plain.varTypes Tryd.prog) (ds ++ gs)).all (· ≤ reachBytes) = true := hsz0
  have hval : ∀ (j : Nat) t v, Tryd.f3.params[j]? = some t → args[j]? = some v → Value.okWide Tryd.prog W .any base t v := hval0
  have hW' := hW
  obtain ⟨p, q, hA0, hV, rfl, hfz, hnd⟩ := hW
  have hA : DataW.TrodAll enc Tryd.prog W 0 (fun _ => true) true Tryd.f3.params.toList args.toList ds p := hA0
  rw [Tryd.params3] at hA hval hsz
  obtain ⟨v0, vs0, d0, ds0, p0, q0, hargs, rfl, rfl, h0, r0⟩ := trodAll_cons hA
  obtain ⟨v1, vs1, d1, ds1, p1, q1, rfl, rfl, rfl, h1, r1⟩ := trodAll_cons r0
  obtain ⟨rfl, rfl, rfl⟩ := trodAll_nil r1
  obtain rfl : args = #[v0, v1] := by cases args; simp_all
  obtain ⟨rfl, rfl⟩ := trodVars_none hV
  obtain ⟨a0, rfl, rfl, rfl, y0⟩ := open_string Tryd.underlying9 (hval 0 9 v0 rfl rfl) h0
  have w0 : a0.size ≤ 140737488351232 := by
    have z := sized_string hsz (j := 0) (t := 9) rfl rfl
    rw [Array.length_toList] at z
    exact z
  obtain ⟨a1, rfl, rfl, rfl⟩ := open_bool Tryd.underlying4 (hval 1 4 v1 rfl rfl) h1
  clear hA0 hval0 hsz0 hsz
  obtain ⟨k, hk⟩ := Pure.HeaderParses a0 a1 w0
  refine (Pr.boltinglaw15_HeaderParses.calls k a0 a1 true W  hk).mono fun e W' ⟨he, bel0⟩ => ?_
  have bel : Below W.heap.size W W' := by first | exact bel0 | exact below_of_drawn0 bel0
  subst he
  exact ⟨_, rfl, _, _, _, [], _, [], hW', trodAll_mk1 (shut_bool Tryd.underlying4 _), (trodAll_cons_mk (shut_string Tryd.underlying9 y0) (trodAll_cons_mk (shut_bool Tryd.underlying4 _) trodAll_mk0)), rfl, bel.frame _, fun h => by cases h⟩
theorem over : Rows.headerParsesRow.holds Tryd.pinned (OpenSpec.ofChange Rows.headerParsesSpec) :=
  OpenClaim.holds_of_wide 3 Tryd.f3 rfl rfl rfl rfl rfl rfl rfl ⟨rfl, rfl, rfl, rfl, rfl⟩ rfl rfl rfl rfl rfl (by kernel_rfl) Tryd.func3 (by kernel_rfl)
    (of_decide_eq_true (by kernel_rfl)) (by unfold Func.isWrapper; first | (rw [if_pos (by decide +kernel)]; kernel_rfl) | (rw [if_neg (by decide +kernel)]; exact ⟨rfl, rfl⟩))
    (fun os started H enc _ => by rw [OpenClaim.pre_eq_preRow]; exact lifted os started H enc)
theorem proved : Rows.HeaderParsesSaid := over
#print axioms proved
end Go.Proofs.YthblohknnlkidaaDoor.headerParses
namespace Go.Proofs.YthblohknnlkidaaDoor
-- the tied card
set_option maxRecDepth 100000 in
theorem headerParses_holds : Rows.HeaderParsesCardSaid :=
  Claim7.holds_tied_plain_at .later [] [.data, .pinned] true (true, "cc96d9593d00dcaaa7c4e779a0d7255df1ed2c9d7622b88e64acb75c1c0318b0") false
    headerParses.proved (fun _ h => by cases h) (by kernel_rfl) (fun _ h => by cases h) headerParses_row_tie rfl ⟨rfl, rfl⟩ (by kernel_rfl) rfl
    (fun f fn hf hfn => by
      obtain rfl : f = 3 := Option.some.inj ((show Tryd.prog.funcNamed "bolting/boltinglaw15.HeaderParses" = some 3 by kernel_rfl).symm.trans hf) |>.symm
      obtain rfl : fn = Tryd.f3 := (Option.some.inj (Tryd.func3.symm.trans hfn)).symm
      exact ⟨by kernel_rfl, fun j t ht => by
        have hm : t ∈ Tryd.f3.params.toList := Array.mem_toList_iff.2 (Array.mem_of_getElem? ht)
        have := List.all_eq_true.1 (show (Tryd.f3.params.toList.all fun t => !(Tryd.prog.wantsStandIn t)) = true by kernel_rfl) t hm
        have h2 : Tryd.prog.wantsStandIn t = false := by simpa using this
        exact h2⟩)
    (by kernel_rfl)
#print axioms headerParses_holds
end Go.Proofs.YthblohknnlkidaaDoor
