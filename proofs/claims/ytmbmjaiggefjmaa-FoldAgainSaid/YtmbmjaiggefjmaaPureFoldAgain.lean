/- FoldAgain of the document's chapter 02: it answers true whatever the input. -/
import Derived.Test.YtmbmjaiggefjmaaFoldRef
import Derived.Test.YtmbmjaiggefjmaaPrx8
namespace Go.Proofs.Ytmbmjaiggefjmaa
set_option linter.unusedVariables false
set_option linter.unusedSimpArgs false
open Go.RowKit Go.Proofs.Ytmbmjaiggefjmaa.Pr Go.Proofs.Ytmbmjaiggefjmaa.Pure Go.Proofs.YtmbmjaiggefjmaaW.PrintWords Go.Proofs.YtmbmjaiggefjmaaW.PrintLast
theorem again_j0 (s : ByteArray) (hs : s.size ≤ 1000) (k : Nat) (hk : 100 < k) : boltinglaw02_FoldAgain.j0 k s (mkS (trim (dat s))) (mkS (lower (dat s))) false = some true := by
  obtain ⟨k, rfl⟩ : ∃ m, k = m + 1 := ⟨k - 1, by omega⟩
  have hds : (dat s).length = s.size := (Lib.size_eq s).symm
  have htl := trim_len (dat s)
  have hwl := words_count (dat s)
  have hll : (lower (dat s)).length = s.size := by unfold lower; rw [List.length_map]; exact hds
  have hsame : fold_Same.f s (mkS (lower (dat s))) = some true := by
    rw [same_f s _ (by omega) (by rw [mkS_size]; omega)]
    show some (lower (dat s) == lower (lower (dat s))) = _
    rw [lower_lower, beq_self_eq_true]
  have hfix := fixed_f (k := k) (by omega)
  have hw := words_f s (by omega)
  simp only [boltinglaw02_FoldAgain.j0]
  rw [if_neg (by simp), mkS_toList]
  cases ht : trim (dat s) with
  | nil =>
    rw [if_pos rfl, hw]
    simp only [Option.bind_some]
    rw [(words_nil_iff (dat s)).2 ht]
    rw [if_pos (by decide), hsame]
    simp only [Option.bind_some, if_true]
    rw [hfix]; rfl
  | cons c t =>
    have hc := trim_head c t ht
    have hne : words (dat s) ≠ [] := fun e => by have := (words_nil_iff (dat s)).1 e; rw [ht] at this; cases this
    obtain ⟨u, d, hd⟩ : ∃ u d, c :: t = u ++ [d] := ⟨(c :: t).dropLast, (c :: t).getLast (by simp), (List.dropLast_concat_getLast _).symm⟩
    have hl := trim_last d u (ht.trans hd)
    have hlen : (c :: t).length = u.length + 1 := by rw [hd]; simp
    have hlt : (c :: t).length ≤ 1000 := by rw [← ht]; omega
    have hb0 : bt (mkS (c :: t)) 0 = (c.toNat : Int) := bt_c (s := mkS (c :: t)) (k := 0) rfl
    have hb1 : bt (mkS (c :: t)) (u.length : Int) = (d.toNat : Int) := bt_c (s := mkS (c :: t)) (by rw [mkS_list, hd, List.getElem?_append_right (Nat.le_refl _)]; simp)
    rw [if_neg (by simp), mkS_size, if_pos (by rw [hlen]; omega), hb0, space_f]
    simp only [Option.bind_some]
    rw [if_neg (show ¬ spaceI (c.toNat : Int) = true by rw [show spaceI (c.toNat : Int) = false from hc]; simp), hlen, show (((u.length + 1 : Nat) : Int) - 1) = (u.length : Int) by omega, wrap_id (by omega) (by omega), if_pos (by omega), if_pos (by omega), hb1, space_f]
    simp only [Option.bind_some]
    rw [if_neg (show ¬ spaceI (d.toNat : Int) = true by rw [show spaceI (d.toNat : Int) = false from hl]; simp), hw]
    simp only [Option.bind_some]
    rw [if_pos (by
      have h1 : ((c :: t) == ([] : List UInt8)) = false := rfl
      have h2 : (((SS (words (dat s))).length : Int) == 0) = false := by
        rw [beq_eq_false_iff_ne, SS_len]
        intro e
        exact hne (List.eq_nil_of_length_eq_zero (by omega))
      rw [h1, h2]; rfl), hsame]
    simp only [Option.bind_some, if_true]
    rw [hfix]; rfl
theorem Pure.FoldAgain : boltinglaw02_FoldAgain.Pure := by
  intro a0 h0
  obtain ⟨p1, p2, p3⟩ := takeS a0 1000 (by omega)
  refine ⟨10000, ?_⟩
  unfold boltinglaw02_FoldAgain.f
  rw [if_pos p1, if_pos p2]
  obtain ⟨s, hs⟩ : ∃ s, a0.extract 0 (mn (a0.size : Int) 1000).toNat = s := ⟨_, rfl⟩
  rw [hs] at p3 ⊢
  have hs' : s.size ≤ 1000 := by omega
  have hds : (dat s).length = s.size := (Lib.size_eq s).symm
  have htl := trim_len (dat s)
  have hwl := words_count (dat s)
  have hll : (lower (dat s)).length = s.size := by unfold lower; rw [List.length_map]; exact hds
  rw [trim_f s (by omega) (by omega), lower_f s (by omega)]
  simp only [Option.bind_some]
  have e1 : fold_Trim.f 10000 (mkS (trim (dat s))) = some (mkS (trim (dat s))) := by
    rw [trim_f _ (by rw [mkS_size]; omega) (by rw [mkS_size]; omega)]
    exact congrArg (fun l => some (mkS l)) (trim_trim (dat s))
  have e2 : fold_Lower.f (mkS (lower (dat s))) = some (mkS (lower (dat s))) := by
    rw [lower_f _ (by rw [mkS_size]; omega)]
    exact congrArg (fun l => some (mkS l)) (lower_lower (dat s))
  have e3 : fold_Words.f (mkS (trim (dat s))) = some (SS (words (dat s))) := by
    rw [words_f _ (by rw [mkS_size]; omega)]
    exact congrArg (fun l => some (SS l)) (words_trim (dat s))
  rw [e1]
  simp only [Option.bind_some, if_true]
  rw [e2]
  simp only [Option.bind_some, if_true]
  rw [if_pos (by rw [mkS_size]; omega), e3, words_f s (by omega)]
  simp only [Option.bind_some]
  rw [equal_f _ (by rw [SS_len]; omega) (by rw [SS_len]; omega)]
  simp only [Option.bind_some, if_true]
  rw [show decide (((mkS (trim (dat s))).size : Int) > (s.size : Int)) = false from decide_eq_false (by rw [mkS_size]; omega)]
  exact again_j0 s hs' 10000 (by omega)
end Go.Proofs.Ytmbmjaiggefjmaa
