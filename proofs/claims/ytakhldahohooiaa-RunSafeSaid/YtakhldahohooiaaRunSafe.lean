/- risk.Safe, run.Nothing and the rest of chapter 19 over rows: plain Lean. -/
import Derived.Test.YtakhldahohooiaaRunLaws
import Derived.Test.YtakhldahohooiaaPrx5
import Derived.Test.YtakhldahohooiaaPrx7
import Derived.Test.YtakhldahohooiaaPrxRightA
import Derived.Test.YtakhldahohooiaaPrx20
namespace Go.Proofs.Ytakhldahohooiaa.Pure
set_option linter.unusedVariables false
set_option linter.unusedSimpArgs false
open Go.RowKit Go.Proofs.Ytakhldahohooiaa.Pr Go.Proofs.YtakhldahohooiaaW.PrintWords Go.Proofs.YtakhldahohooiaaW.PrintLast Go.Proofs.YtakhldahohooiaaW.PrintMore

abbrev dat (s : ByteArray) : List UInt8 := s.data.toList
theorem toList_dat (s : ByteArray) : s.toList = dat s := Lib.toList_data s
theorem dat_inj {a b : ByteArray} (h : dat a = dat b) : a = b := by rw [← Lib.mk_data a, ← Lib.mk_data b]; exact congrArg (fun l : List UInt8 => (⟨l.toArray⟩ : ByteArray)) h
theorem dat_len (s : ByteArray) : (dat s).length = s.size := (Lib.size_eq s).symm
theorem dat_app (a b : ByteArray) : dat (a ++ b) = dat a ++ dat b := by simp
theorem more {α : Type} {f : Nat → Option α} (hm : ∀ k, LeO (f k) (f (k + 1))) {m k : Nat} (hk : m ≤ k) {r : α} (h : f m = some r) : f k = some r := by
  induction hk with
  | refl => exact h
  | step _ ih => exact hm _ _ ih
set_option maxRecDepth 100000 in
theorem fixed_f {k : Nat} (hk : 40 ≤ k) : boltinglaw19_fixed.f k = some true :=
  more (f := fun k => boltinglaw19_fixed.f k) boltinglaw19_fixed.mono hk (by decide +kernel)
theorem extract_pre' (s : ByteArray) (n : Nat) : (s.extract 0 n).toList = (dat s).take n := by rw [Lib.toList_data, extract_pre]
theorem isPrefix_take (s p : List UInt8) : p.isPrefixOf s = decide (s.take p.length = p) := by
  rw [Bool.eq_iff_iff, List.isPrefixOf_iff_prefix, decide_eq_true_eq, List.prefix_iff_eq_take]
  exact ⟨fun h => h.symm, fun h => h.symm⟩
theorem prefix_f (s p : ByteArray) (hs : s.size ≤ 4000000000000000000) : strings_HasPrefix.f s p = some (Lib.hasPrefix (dat s) (dat p)) := by
  unfold strings_HasPrefix.f stringslite_HasPrefix.f
  unfold Lib.hasPrefix
  rw [isPrefix_take, dat_len]
  by_cases h : (s.size : Int) ≥ (p.size : Int)
  · rw [if_pos h, if_pos (by omega), if_pos (by omega)]
    simp only [Option.bind_some]
    rw [extract_pre', Int.toNat_natCast, toList_dat]
    refine congrArg some ?_
    rw [Bool.eq_iff_iff, beq_iff_eq, decide_eq_true_eq]
  · rw [if_neg h]
    simp only [Option.bind_some]
    refine congrArg some (Eq.symm (decide_eq_false ?_))
    intro e
    have := congrArg List.length e
    rw [List.length_take, dat_len, dat_len] at this
    omega
theorem handler_f (s : ByteArray) (hs : s.size ≤ 4000000000000000000) : risk_Handler.f s = some (handlerB s) := by
  unfold risk_Handler.f handlerB
  rw [prefix_f s _ hs]
  simp only [Option.bind_some]
  show (if Lib.hasPrefix (dat s) [111, 110] = true then _ else _) = _
  cases Lib.hasPrefix (dat s) [111, 110] with
  | true =>
    rw [if_pos rfl, Bool.true_and]
    refine congrArg some ?_
    rw [decide_eq_decide]; omega
  | false => rfl
theorem get_some {α : Type} {l : List α} {i : Nat} (h : i < l.length) : ∃ x, l[i]? = some x := ⟨_, List.getElem?_eq_getElem h⟩
theorem drop_at {α : Type} {l : List α} {i : Nat} {x : α} (h : l[i]? = some x) : l.drop i = x :: l.drop (i + 1) := by
  rw [List.drop_eq_getElem?_toList_append, h]
  simp
/-- Does a text stand in a list? -/
def mem (l : List ByteArray) (s : ByteArray) : Bool := l.any fun x => decide (x = s)
def sinkF (x y : ByteArray) : Int := if handlerB y = true then 2 else sinkI x y
def unsafeL : List ByteArray := [⟨#[98, 97, 115, 101]⟩, ⟨#[101, 109, 98, 101, 100]⟩, ⟨#[102, 114, 97, 109, 101]⟩, ⟨#[105, 102, 114, 97, 109, 101]⟩, ⟨#[108, 105, 110, 107]⟩, ⟨#[109, 101, 116, 97]⟩, ⟨#[111, 98, 106, 101, 99, 116]⟩, ⟨#[115, 99, 114, 105, 112, 116]⟩]
theorem element_f (s : ByteArray) : risk_Element.f s = some (mem unsafeL s) := by
  have e : ∀ (l : List UInt8), (s.toList = l) = (mkS l = s) := fun l => by
    rw [toList_dat]
    exact propext ⟨fun h => by rw [← h]; exact mkS_data s, fun h => by rw [← h]; rfl⟩
  unfold risk_Element.f mem unsafeL
  simp only [e, List.any_cons, List.any_nil, Bool.or_false]
  repeat' split
  all_goals
    refine congrArg some (Eq.symm ?_)
    first
    | (rw [Bool.eq_iff_iff]; simp only [Bool.or_eq_true, decide_eq_true_eq, eq_self, iff_true]; simp_all [mkS]; done)
    | (simp_all [mkS]; done)
/-- Is an attribute not safe? -/
def attrB (e n v : ByteArray) : Bool := decide (sinkF e n ≠ 0) || (navB e n && script (dat v))
theorem attr_f (e n v : ByteArray) (hv : v.size ≤ 140737488351232) : risk_Attr.f e n v = some (attrB e n v) := by
  unfold risk_Attr.f risk_Sink.f risk_Nav.f attrB
  simp only [Option.bind_some]
  show (if sinkF e n = 0 then _ else _) = _
  by_cases h : sinkF e n = 0
  · rw [if_pos h, h]
    cases hb : navB e n with
    | true => rw [if_pos rfl, show link_Script.f v = some (script (dat v)) from bnd_of _ hv]; simp
    | false => rw [if_neg (by simp)]; simp
  · rw [if_neg h]; simp [h]
/-- Is a node safe? -/
def rowB (x : S34) : Bool := if x.f1 = 0 then !mem unsafeL x.f2 && x.f4.all (fun a => !attrB x.f2 a.f0 a.f1) else true
/-- A row whose texts are no longer than texts are. -/
def Fits (x : S34) : Prop := ∀ y ∈ x.f4, y.f1.size ≤ 140737488351232
theorem t37_at {l : List S34} {i : Nat} {x : S34} (h : l[i]? = some x) : rd_T34 l (i : Int) = x := by
  unfold rd_T34
  rw [Int.toNat_natCast, List.getD_eq_getElem?_getD, h]
  rfl
theorem t30_at {l : List S39} {i : Nat} {x : S39} (h : l[i]? = some x) : rd_T39 l (i : Int) = x := by
  unfold rd_T39
  rw [Int.toNat_natCast, List.getD_eq_getElem?_getD, h]
  rfl
/-- The inner loop: the attributes from one on. -/
theorem safe_l1 (l : List S34) (n i : Int) (ats : List S39) (hl : ats.length ≤ 1000000) (e : ByteArray) (f0 f1 : Int) (f3 : ByteArray) (f4 : List S39) (hs : ∀ y ∈ ats, y.f1.size ≤ 140737488351232) (d j : Nat) : j + d = ats.length → ∀ k, d < k →
    risk_Safe.l1 k l n i ats (ats.length : Int) (j : Int) f0 f1 e f3 f4 = if (ats.drop j).all (fun a => !attrB e a.f0 a.f1) = true then risk_Safe.l0 (k - d - 1) l n (wrap64 (i + 1)) else some false := by
  induction d generalizing j with
  | zero =>
    intro h k hk
    obtain ⟨k, rfl⟩ : ∃ m, k = m + 1 := ⟨k - 1, by omega⟩
    simp only [risk_Safe.l1]
    rw [if_neg (by omega), List.drop_of_length_le (by omega)]
    rfl
  | succ d ih =>
    intro h k hk
    obtain ⟨k, rfl⟩ : ∃ m, k = m + 1 := ⟨k - 1, by omega⟩
    obtain ⟨a, ha⟩ := get_some (show j < ats.length by omega)
    simp only [risk_Safe.l1]
    rw [if_pos (by omega), if_pos (by omega), if_pos (by omega), t30_at ha, attr_f e a.f0 a.f1 (hs a (List.mem_of_getElem? ha)), drop_at ha, List.all_cons]
    simp only [Option.bind_some]
    cases hb : attrB e a.f0 a.f1 with
    | true => rw [if_pos rfl]; simp
    | false =>
      rw [if_neg (by simp), wrap_succ (by omega) (by omega)]
      have := ih (j + 1) (by omega) k (by omega)
      rw [show ((j : Int) + 1) = ((j + 1 : Nat) : Int) by omega, this, show k + 1 - (d + 1) - 1 = k - d - 1 by omega]
      simp
theorem safe_l0 (l : List S34) (hl : l.length ≤ 1000) (hf : ∀ x ∈ l, Fits x) (ha : ∀ x ∈ l, x.f4.length ≤ 1000) (M : Nat) (hM : 1002 ≤ M) (d i : Nat) : i + d = l.length → ∀ k, d * M + 1 ≤ k → risk_Safe.l0 k l (l.length : Int) (i : Int) = some ((l.drop i).all rowB) := by
  induction d generalizing i with
  | zero =>
    intro h k hk
    obtain ⟨k, rfl⟩ : ∃ m, k = m + 1 := ⟨k - 1, by omega⟩
    simp only [risk_Safe.l0]
    rw [if_neg (by omega), List.drop_of_length_le (by omega)]
    rfl
  | succ d ih =>
    intro h k hk
    obtain ⟨k, rfl⟩ : ∃ m, k = m + 1 := ⟨k - 1, by omega⟩
    obtain ⟨x, hx⟩ := get_some (show i < l.length by omega)
    have hk' : d * M + M ≤ k := by rw [← Nat.succ_mul]; exact Nat.le_of_succ_le_succ hk
    obtain ⟨D, hD⟩ : ∃ D, d * M = D := ⟨_, rfl⟩
    rw [hD] at hk' ih
    clear hk hD
    have hm : x ∈ l := List.mem_of_getElem? hx
    have hlen := ha x hm
    simp only [risk_Safe.l0]
    rw [if_pos (by omega), if_pos (by omega), if_pos (by omega), t37_at hx, drop_at hx, List.all_cons]
    have hw : wrap64 ((i : Int) + 1) = ((i + 1 : Nat) : Int) := by rw [wrap_succ (by omega) (by omega)]; omega
    by_cases h1 : x.f1 = 0
    · rw [if_pos h1, element_f]
      simp only [Option.bind_some]
      have hr : rowB x = (!mem unsafeL x.f2 && x.f4.all (fun a => !attrB x.f2 a.f0 a.f1)) := by unfold rowB; rw [if_pos h1]
      cases hu : mem unsafeL x.f2 with
      | true => rw [if_pos rfl, hr, hu]; simp
      | false =>
        rw [if_neg (by simp)]
        have := safe_l1 l (l.length : Int) (i : Int) x.f4 (by omega) x.f2 x.f0 x.f1 x.f3 x.f4 (hf x hm) x.f4.length 0 (by omega) k (by omega)
        rw [show ((0 : Nat) : Int) = 0 from rfl, List.drop_zero] at this
        rw [this, hr, hu, hw]
        cases hall : x.f4.all (fun a => !attrB x.f2 a.f0 a.f1) with
        | true =>
          rw [if_pos rfl]
          have := ih (i + 1) (by omega) (k - x.f4.length - 1) (by omega)
          rw [this]
          simp
        | false => rw [if_neg (by simp)]; simp
    · rw [if_neg h1, hw]
      have hr : rowB x = true := by unfold rowB; rw [if_neg h1]
      rw [hr, Bool.true_and]
      exact ih (i + 1) (by omega) k (by omega)
theorem safe_f (l : List S34) (hl : l.length ≤ 1000) (hf : ∀ x ∈ l, Fits x) (ha : ∀ x ∈ l, x.f4.length ≤ 1000) {k : Nat} (hk : 1100000 ≤ k) : risk_Safe.f k l = some (l.all rowB) := by
  have h1 : l.length * 1002 ≤ 1000 * 1002 := Nat.mul_le_mul_right _ hl
  have := safe_l0 l hl hf ha 1002 (Nat.le_refl _) l.length 0 (Nat.zero_add _) k (Nat.le_trans (Nat.succ_le_succ h1) (Nat.le_trans (by decide) hk))
  rw [List.drop_zero] at this
  exact this
/-! ### no more rows than a statement can hold -/
def cut8 (x : S34) : S34 := ⟨x.f0, x.f1, x.f2, x.f3, x.f4.take (mn (x.f4.length : Int) 8).toNat⟩
def bnd40 (l : List S34) : List S34 := (l.take 40).map cut8
theorem bound_l0 (l : List S34) (hl : l.length ≤ 9223372036854775807) (N : Nat) (hN : N = 40) : ∀ (d i : Nat), i + d = N → i ≤ l.length → ∀ k, d < k → boltinglaw19_bound.l0 k l ((l.take i).map cut8) (i : Int) = some ((l.take N).map cut8) := by
  intro d
  induction d with
  | zero =>
    intro i h hi k hk
    obtain ⟨k, rfl⟩ : ∃ m, k = m + 1 := ⟨k - 1, by omega⟩
    obtain rfl : i = N := by omega
    simp only [boltinglaw19_bound.l0]
    split
    · rw [if_neg (by omega)]
    · rfl
  | succ d ih =>
    intro i h hi k hk
    obtain ⟨k, rfl⟩ : ∃ m, k = m + 1 := ⟨k - 1, by omega⟩
    simp only [boltinglaw19_bound.l0]
    by_cases hlt : i < l.length
    · obtain ⟨x, hx⟩ := get_some hlt
      have hmn : 0 ≤ mn (x.f4.length : Int) 8 ∧ mn (x.f4.length : Int) 8 ≤ (x.f4.length : Int) := by unfold mn; split <;> omega
      rw [if_pos (by omega), if_pos (by omega), if_pos (by omega), t37_at hx, if_pos hmn.1, if_pos hmn.2, if_pos (by rw [List.length_map, List.length_take]; omega), wrap_succ (by omega) (by omega)]
      have e : (l.take i).map cut8 ++ [(⟨x.f0, x.f1, x.f2, x.f3, x.f4.take (mn (x.f4.length : Int) 8).toNat⟩ : S34)] = (l.take (i + 1)).map cut8 := by
        rw [List.take_add_one, hx, List.map_append]; rfl
      rw [e]
      exact ih (i + 1) (by omega) (by omega) k (by omega)
    · rw [if_neg (by omega)]
      refine congrArg some ?_
      rw [List.take_of_length_le (show l.length ≤ i by omega), List.take_of_length_le (show l.length ≤ N by omega)]
theorem bound_f (l : List S34) (hl : l.length ≤ 9223372036854775807) {k : Nat} (hk : 50 < k) : boltinglaw19_bound.f k l = some (bnd40 l) := by
  obtain ⟨N, hN⟩ : ∃ N : Nat, N = 40 := ⟨_, rfl⟩
  have := bound_l0 l hl N hN N 0 (by omega) (by omega) k (by omega)
  unfold bnd40
  rw [← hN]
  exact this
theorem bnd_len (l : List S34) : (bnd40 l).length ≤ 40 := by unfold bnd40; rw [List.length_map, List.length_take]; omega
theorem bnd_mem {l : List S34} {x : S34} (h : x ∈ bnd40 l) : ∃ y ∈ l, x = cut8 y := by
  obtain ⟨y, hy, rfl⟩ := List.mem_map.1 h
  exact ⟨y, List.mem_of_mem_take hy, rfl⟩
theorem cut8_len (x : S34) : (cut8 x).f4.length ≤ 8 := by
  unfold cut8
  show (x.f4.take _).length ≤ 8
  rw [List.length_take]
  unfold mn; split <;> omega
theorem cut8_fits {x : S34} (h : Fits x) : Fits (cut8 x) := fun y hy => h y (List.mem_of_mem_take hy)

/-! ### what runs nothing -/
def tagS : ByteArray := ⟨#[115, 99, 114, 105, 112, 116]⟩
def followB (x : S34) : Bool := decide (x.f1 = 0) && x.f4.any fun a => navB x.f2 a.f0 && script (dat a.f1)
def isS (x : S34) : Bool := decide (x.f1 = 0) && decide (x.f2 = tagS)
def quietB (x : S34) : Bool := !followB x && !isS x && (!decide (x.f1 = 0) || x.f4.all fun a => !handlerB a.f0)
theorem source_some (l : List UInt8) (h : script l = true) : (source l).isSome = true := by
  unfold source; rw [if_pos h]; rfl
theorem follow_l0 (ats : List S39) (hl : ats.length ≤ 1000000) (hs : ∀ y ∈ ats, y.f1.size ≤ 140737488351232) (f0 f1 : Int) (e f3 : ByteArray) (f4 : List S39) (d j : Nat) : j + d = ats.length → ∀ k, d < k →
    ∃ s, run_Follow.l0 k ats (ats.length : Int) (j : Int) f0 f1 e f3 f4 = some (s, (ats.drop j).any fun a => navB e a.f0 && script (dat a.f1)) := by
  induction d generalizing j with
  | zero =>
    intro h k hk
    obtain ⟨k, rfl⟩ : ∃ m, k = m + 1 := ⟨k - 1, by omega⟩
    simp only [run_Follow.l0]
    rw [if_neg (by omega), List.drop_of_length_le (by omega)]
    exact ⟨_, rfl⟩
  | succ d ih =>
    intro h k hk
    obtain ⟨k, rfl⟩ : ∃ m, k = m + 1 := ⟨k - 1, by omega⟩
    obtain ⟨a, ha⟩ := get_some (show j < ats.length by omega)
    have hz := hs a (List.mem_of_getElem? ha)
    obtain ⟨s, ih⟩ := ih (j + 1) (by omega) k (by omega)
    simp only [run_Follow.l0]
    rw [if_pos (by omega), if_pos (by omega), if_pos (by omega), t30_at ha, drop_at ha, List.any_cons, show risk_Nav.f e a.f0 = some (navB e a.f0) from rfl, wrap_succ (by omega) (by omega), show ((j : Int) + 1) = ((j + 1 : Nat) : Int) by omega, ih]
    simp only [Option.bind_some]
    cases hb : navB e a.f0 with
    | false => rw [if_neg (by simp)]; exact ⟨s, by simp⟩
    | true =>
      rw [if_pos rfl, show link_Script.f a.f1 = some (script (dat a.f1)) from bnd_of _ hz]
      simp only [Option.bind_some]
      cases hsc : script (dat a.f1) with
      | false => rw [if_neg (by simp)]; exact ⟨s, by simp⟩
      | true =>
        rw [if_pos rfl, show link_Source.f a.f1 = some (mkS ((source (dat a.f1)).getD []), (source (dat a.f1)).isSome) from bnd_of _ hz]
        simp only [Option.bind_some]
        rw [source_some _ hsc]
        exact ⟨mkS ((source (dat a.f1)).getD []), by simp⟩
theorem follow_f (x : S34) (hf : Fits x) (hl : x.f4.length ≤ 1000) {k : Nat} (hk : 1001 < k) : ∃ s, run_Follow.f k x.f0 x.f1 x.f2 x.f3 x.f4 = some (s, followB x) := by
  unfold run_Follow.f followB
  by_cases h : x.f1 = 0
  · rw [if_pos h]
    obtain ⟨s, hs⟩ := follow_l0 x.f4 (by omega) hf x.f0 x.f1 x.f2 x.f3 x.f4 x.f4.length 0 (by omega) k (by omega)
    rw [show ((0 : Nat) : Int) = 0 from rfl, List.drop_zero] at hs
    rw [hs]
    exact ⟨s, by simp [h]⟩
  · rw [if_neg h]; exact ⟨⟨#[]⟩, by simp [h]⟩
theorem is_f (x : S34) (t : ByteArray) : run_is.f x.f0 x.f1 x.f2 x.f3 x.f4 t = some (decide (x.f1 = 0) && decide (x.f2 = t)) := by
  unfold run_is.f
  by_cases h : x.f1 = 0
  · rw [if_pos h, toList_dat, toList_dat]
    refine congrArg some ?_
    rw [Bool.eq_iff_iff, beq_iff_eq]
    simp only [h, decide_true, Bool.true_and, decide_eq_true_eq]
    exact ⟨dat_inj, fun e => by rw [e]⟩
  · rw [if_neg h]; simp [h]
theorem nothing_l1 (l : List S34) (n i : Int) (ats : List S39) (hl : ats.length ≤ 1000000) (hh : ∀ y ∈ ats, y.f0.size ≤ 4000000000000000000) (d j : Nat) : j + d = ats.length → ∀ k, d < k →
    run_Nothing.l1 k l n i ats (ats.length : Int) (j : Int) = if (ats.drop j).all (fun a => !handlerB a.f0) = true then run_Nothing.l0 (k - d - 1) l n (wrap64 (i + 1)) else some false := by
  induction d generalizing j with
  | zero =>
    intro h k hk
    obtain ⟨k, rfl⟩ : ∃ m, k = m + 1 := ⟨k - 1, by omega⟩
    simp only [run_Nothing.l1]
    rw [if_neg (by omega), List.drop_of_length_le (by omega)]
    rfl
  | succ d ih =>
    intro h k hk
    obtain ⟨k, rfl⟩ : ∃ m, k = m + 1 := ⟨k - 1, by omega⟩
    obtain ⟨a, ha⟩ := get_some (show j < ats.length by omega)
    simp only [run_Nothing.l1]
    rw [if_pos (by omega), if_pos (by omega), if_pos (by omega), t30_at ha, handler_f a.f0 (hh a (List.mem_of_getElem? ha)), drop_at ha, List.all_cons]
    simp only [Option.bind_some]
    cases hb : handlerB a.f0 with
    | true => rw [if_pos rfl]; simp
    | false =>
      rw [if_neg (by simp), wrap_succ (by omega) (by omega)]
      have := ih (j + 1) (by omega) k (by omega)
      rw [show ((j : Int) + 1) = ((j + 1 : Nat) : Int) by omega, this, show k + 1 - (d + 1) - 1 = k - d - 1 by omega]
      simp
theorem nothing_l0 (l : List S34) (hl : l.length ≤ 1000) (hf : ∀ x ∈ l, Fits x) (hh : ∀ x ∈ l, ∀ y ∈ x.f4, y.f0.size ≤ 4000000000000000000) (ha : ∀ x ∈ l, x.f4.length ≤ 1000) (M : Nat) (hM : 1004 ≤ M) (d i : Nat) : i + d = l.length → ∀ k, d * M + 2000 ≤ k → run_Nothing.l0 k l (l.length : Int) (i : Int) = some ((l.drop i).all quietB) := by
  induction d generalizing i with
  | zero =>
    intro h k hk
    obtain ⟨k, rfl⟩ : ∃ m, k = m + 1 := ⟨k - 1, by omega⟩
    simp only [run_Nothing.l0]
    rw [if_neg (by omega), List.drop_of_length_le (by omega)]
    rfl
  | succ d ih =>
    intro h k hk
    have hk' : d * M + M + 2000 ≤ k := by rw [← Nat.succ_mul]; exact hk
    obtain ⟨D, hD⟩ : ∃ D, d * M = D := ⟨_, rfl⟩
    rw [hD] at hk' ih
    clear hk hD
    obtain ⟨k, rfl⟩ : ∃ m, k = m + 2 := ⟨k - 2, by omega⟩
    obtain ⟨x, hx⟩ := get_some (show i < l.length by omega)
    have hm : x ∈ l := List.mem_of_getElem? hx
    have hlen := ha x hm
    obtain ⟨s, hfo⟩ := follow_f x (hf x hm) hlen (k := k + 1) (by omega)
    have hw : wrap64 ((i : Int) + 1) = ((i + 1 : Nat) : Int) := by rw [wrap_succ (by omega) (by omega)]; omega
    simp only [run_Nothing.l0]
    rw [if_pos (by omega), if_pos (by omega), if_pos (by omega), t37_at hx, hfo, drop_at hx, List.all_cons, is_f x]
    simp only [Option.bind_some]
    have hq : quietB x = (!followB x && !isS x && (!decide (x.f1 = 0) || x.f4.all fun a => !handlerB a.f0)) := rfl
    rw [hq]
    show (if followB x = true then _ else run_Nothing.j1 (k + 1) l (l.length : Int) (i : Int) (isS x) x.f0 x.f1 x.f2 x.f3 x.f4) = _
    cases hfb : followB x with
    | true =>
      rw [if_pos rfl]
      simp only [run_Nothing.j1]
      rw [if_pos trivial]; simp
    | false =>
      rw [if_neg (by simp)]
      simp only [run_Nothing.j1]
      cases his : isS x with
      | true => rw [if_pos rfl]; simp
      | false =>
        rw [if_neg (by simp)]
        by_cases h1 : x.f1 = 0
        · rw [if_pos h1]
          have := nothing_l1 l (l.length : Int) (i : Int) x.f4 (by omega) (hh x hm) x.f4.length 0 (by omega) k (by omega)
          rw [show ((0 : Nat) : Int) = 0 from rfl, List.drop_zero] at this
          rw [this, hw, decide_eq_true h1]
          cases hall : x.f4.all (fun a => !handlerB a.f0) with
          | true =>
            rw [if_pos rfl, ih (i + 1) (by omega) (k - x.f4.length - 1) (by omega)]
            simp
          | false => rw [if_neg (by simp)]; simp
        · rw [if_neg h1, hw, ih (i + 1) (by omega) k (by omega), decide_eq_false h1]
          simp
theorem nothing_f (l : List S34) (hl : l.length ≤ 1000) (hf : ∀ x ∈ l, Fits x) (hh : ∀ x ∈ l, ∀ y ∈ x.f4, y.f0.size ≤ 4000000000000000000) (ha : ∀ x ∈ l, x.f4.length ≤ 1000) {k : Nat} (hk : 1100000 ≤ k) : run_Nothing.f k l = some (l.all quietB) := by
  have h1 : l.length * 1004 ≤ 1000 * 1004 := Nat.mul_le_mul_right _ hl
  have := nothing_l0 l hl hf hh ha 1004 (Nat.le_refl _) l.length 0 (Nat.zero_add _) k (Nat.le_trans (Nat.add_le_add_right h1 2000) (Nat.le_trans (by decide) hk))
  rw [List.drop_zero] at this
  exact this
/-- Safe rows run nothing. -/
theorem safe_quiet {x : S34} (h : rowB x = true) : quietB x = true := by
  unfold rowB at h
  unfold quietB followB isS
  by_cases h1 : x.f1 = 0
  · rw [if_pos h1, Bool.and_eq_true, List.all_eq_true] at h
    obtain ⟨g1, g2⟩ := h
    rw [decide_eq_true h1]
    have e1 : (x.f4.any fun a => navB x.f2 a.f0 && script (dat a.f1)) = false := List.any_eq_false.2 (fun a ha => by
      have := g2 a ha
      unfold attrB at this
      simp at this
      cases hn : navB x.f2 a.f0 with
      | false => simp
      | true => rw [hn] at this; simpa using this.2)
    have e2 : decide (x.f2 = tagS) = false := by
      refine decide_eq_false (fun e => ?_)
      rw [e] at g1
      revert g1
      decide
    have e3 : (x.f4.all fun a => !handlerB a.f0) = true := List.all_eq_true.2 (fun a ha => by
      have := g2 a ha
      unfold attrB sinkF at this
      cases hn : handlerB a.f0 with
      | false => rfl
      | true => rw [hn] at this; simp at this)
    rw [e1, e2, e3]
    rfl
  · rw [decide_eq_false h1]
    rfl
end Go.Proofs.Ytakhldahohooiaa.Pure
