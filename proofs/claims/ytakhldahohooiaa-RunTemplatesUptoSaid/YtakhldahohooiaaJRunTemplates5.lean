/- The row of RunTemplates, with what stands under it.. -/
import Derived.Test.YtakhldahohooiaaJRunTemplates4
import Derived.Test.YtakhldahohooiaaJRunTemplates2
import Derived.Test.YtakhldahohooiaaRows
import Derived.Test.YtakhldahohooiaaJRunTemplates3
import Derived.Deep.CondSized
import Derived.WalkKit
import Derived.ProofKit
import Derived.OpenShut
import Derived.ShutString
import Derived.ChangeOld
import Derived.Below
import Derived.SizedLaws
/- risk.Safe, run.Nothing and the rest of chapter 19 over rows: plain Lean. -/
namespace Go.Proofs.Ytakhldahohooiaa.Pure
set_option linter.unusedVariables false
set_option linter.unusedSimpArgs false
open Go.RowKit Go.Proofs.Ytakhldahohooiaa.Pr Go.Proofs.YtakhldahohooiaaW.PrintWords Go.Proofs.YtakhldahohooiaaW.PrintLast Go.Proofs.YtakhldahohooiaaW.PrintMore

abbrev dat (s : ByteArray) : List UInt8 := s.data.toList
theorem toList_dat (s : ByteArray) : s.toList = dat s := Lib.toList_data s
theorem dat_inj {a b : ByteArray} (h : dat a = dat b) : a = b := by rw [← Lib.mk_data a, ← Lib.mk_data b]; exact congrArg (fun l : List UInt8 => (⟨l.toArray⟩ : ByteArray)) h
theorem dat_len (s : ByteArray) : (dat s).length = s.size := (Lib.size_eq s).symm
theorem more {α : Type} {f : Nat → Option α} (hm : ∀ k, LeO (f k) (f (k + 1))) {m k : Nat} (hk : m ≤ k) {r : α} (h : f m = some r) : f k = some r := by
  induction hk with
  | refl => exact h
  | step _ ih => exact hm _ _ ih
set_option maxRecDepth 100000 in
theorem fixed_f {k : Nat} (hk : 40 ≤ k) : boltinglaw19_fixed.f k = some true :=
  more (f := fun k => boltinglaw19_fixed.f k) boltinglaw19_fixed.mono hk (by decide +kernel)
theorem extract_pre' (s : ByteArray) (n : Nat) : (s.extract 0 n).toList = (dat s).take n := by rw [Lib.toList_data, extract_pre]
theorem isPrefix_take (s p : List UInt8) : p.isPrefixOf s = decide (s.take p.length = p) := by
  rw [Bool.eq_iff_iff, List.isPrefixOf_iff_prefix, decide_eq_true_eq, List.prefix_iff_eq_take]
  exact ⟨fun h => h.symm, fun h => h.symm⟩
theorem prefix_f (s p : ByteArray) (hs : s.size ≤ 4000000000000000000) : strings_HasPrefix.f s p = some (Lib.hasPrefix (dat s) (dat p)) := by
  unfold strings_HasPrefix.f stringslite_HasPrefix.f
  unfold Lib.hasPrefix
  rw [isPrefix_take, dat_len]
  by_cases h : (s.size : Int) ≥ (p.size : Int)
  · rw [if_pos h, if_pos (by omega), if_pos (by omega)]
    simp only [Option.bind_some]
    rw [extract_pre', Int.toNat_natCast, toList_dat]
    refine congrArg some ?_
    rw [Bool.eq_iff_iff, beq_iff_eq, decide_eq_true_eq]
  · rw [if_neg h]
    simp only [Option.bind_some]
    refine congrArg some (Eq.symm (decide_eq_false ?_))
    intro e
    have := congrArg List.length e
    rw [List.length_take, dat_len, dat_len] at this
    omega
theorem handler_f (s : ByteArray) (hs : s.size ≤ 4000000000000000000) : risk_Handler.f s = some (handlerB s) := by
  unfold risk_Handler.f handlerB
  rw [prefix_f s _ hs]
  simp only [Option.bind_some]
  show (if Lib.hasPrefix (dat s) [111, 110] = true then _ else _) = _
  cases Lib.hasPrefix (dat s) [111, 110] with
  | true =>
    rw [if_pos rfl, Bool.true_and]
    refine congrArg some ?_
    rw [decide_eq_decide]; omega
  | false => rfl
theorem get_some {α : Type} {l : List α} {i : Nat} (h : i < l.length) : ∃ x, l[i]? = some x := ⟨_, List.getElem?_eq_getElem h⟩
theorem drop_at {α : Type} {l : List α} {i : Nat} {x : α} (h : l[i]? = some x) : l.drop i = x :: l.drop (i + 1) := by
  rw [List.drop_eq_getElem?_toList_append, h]
  simp
/-- Does a text stand in a list? -/
def mem (l : List ByteArray) (s : ByteArray) : Bool := l.any fun x => decide (x = s)
def sinkF (x y : ByteArray) : Int := if handlerB y = true then 2 else sinkI x y
def unsafeL : List ByteArray := [⟨#[98, 97, 115, 101]⟩, ⟨#[101, 109, 98, 101, 100]⟩, ⟨#[102, 114, 97, 109, 101]⟩, ⟨#[105, 102, 114, 97, 109, 101]⟩, ⟨#[108, 105, 110, 107]⟩, ⟨#[109, 101, 116, 97]⟩, ⟨#[111, 98, 106, 101, 99, 116]⟩, ⟨#[115, 99, 114, 105, 112, 116]⟩]
/-- Is an attribute not safe? -/
def attrB (e n v : ByteArray) : Bool := decide (sinkF e n ≠ 0) || (navB e n && script (dat v))
theorem attr_f (e n v : ByteArray) (hv : v.size ≤ 140737488351232) : risk_Attr.f e n v = some (attrB e n v) := by
  unfold risk_Attr.f risk_Sink.f risk_Nav.f attrB
  simp only [Option.bind_some]
  show (if sinkF e n = 0 then _ else _) = _
  by_cases h : sinkF e n = 0
  · rw [if_pos h, h]
    cases hb : navB e n with
    | true => rw [if_pos rfl, show link_Script.f v = some (script (dat v)) from bnd_of _ hv]; simp
    | false => rw [if_neg (by simp)]; simp
  · rw [if_neg h]; simp [h]
/-- Is a node safe? -/
def rowB (x : S34) : Bool := if x.f1 = 0 then !mem unsafeL x.f2 && x.f4.all (fun a => !attrB x.f2 a.f0 a.f1) else true
/-- A row whose texts are no longer than texts are. -/
def Fits (x : S34) : Prop := ∀ y ∈ x.f4, y.f1.size ≤ 140737488351232
theorem t37_at {l : List S34} {i : Nat} {x : S34} (h : l[i]? = some x) : rd_T34 l (i : Int) = x := by
  unfold rd_T34
  rw [Int.toNat_natCast, List.getD_eq_getElem?_getD, h]
  rfl
theorem t30_at {l : List S39} {i : Nat} {x : S39} (h : l[i]? = some x) : rd_T39 l (i : Int) = x := by
  unfold rd_T39
  rw [Int.toNat_natCast, List.getD_eq_getElem?_getD, h]
  rfl
/-- The inner loop: the attributes from one on. -/
theorem safe_l1 (l : List S34) (n i : Int) (ats : List S39) (hl : ats.length ≤ 1000000) (e : ByteArray) (f0 f1 : Int) (f3 : ByteArray) (f4 : List S39) (hs : ∀ y ∈ ats, y.f1.size ≤ 140737488351232) (d j : Nat) : j + d = ats.length → ∀ k, d < k →
    risk_Safe.l1 k l n i ats (ats.length : Int) (j : Int) f0 f1 e f3 f4 = if (ats.drop j).all (fun a => !attrB e a.f0 a.f1) = true then risk_Safe.l0 (k - d - 1) l n (wrap64 (i + 1)) else some false := by
  induction d generalizing j with
  | zero =>
    intro h k hk
    obtain ⟨k, rfl⟩ : ∃ m, k = m + 1 := ⟨k - 1, by omega⟩
    simp only [risk_Safe.l1]
    rw [if_neg (by omega), List.drop_of_length_le (by omega)]
    rfl
  | succ d ih =>
    intro h k hk
    obtain ⟨k, rfl⟩ : ∃ m, k = m + 1 := ⟨k - 1, by omega⟩
    obtain ⟨a, ha⟩ := get_some (show j < ats.length by omega)
    simp only [risk_Safe.l1]
    rw [if_pos (by omega), if_pos (by omega), if_pos (by omega), t30_at ha, attr_f e a.f0 a.f1 (hs a (List.mem_of_getElem? ha)), drop_at ha, List.all_cons]
    simp only [Option.bind_some]
    cases hb : attrB e a.f0 a.f1 with
    | true => rw [if_pos rfl]; simp
    | false =>
      rw [if_neg (by simp), wrap_succ (by omega) (by omega)]
      have := ih (j + 1) (by omega) k (by omega)
      rw [show ((j : Int) + 1) = ((j + 1 : Nat) : Int) by omega, this, show k + 1 - (d + 1) - 1 = k - d - 1 by omega]
      simp
/-! ### no more rows than a statement can hold -/
def cut8 (x : S34) : S34 := ⟨x.f0, x.f1, x.f2, x.f3, x.f4.take (mn (x.f4.length : Int) 8).toNat⟩
def bnd40 (l : List S34) : List S34 := (l.take 40).map cut8
theorem bound_l0 (l : List S34) (hl : l.length ≤ 9223372036854775807) (N : Nat) (hN : N = 40) : ∀ (d i : Nat), i + d = N → i ≤ l.length → ∀ k, d < k → boltinglaw19_bound.l0 k l ((l.take i).map cut8) (i : Int) = some ((l.take N).map cut8) := by
  intro d
  induction d with
  | zero =>
    intro i h hi k hk
    obtain ⟨k, rfl⟩ : ∃ m, k = m + 1 := ⟨k - 1, by omega⟩
    obtain rfl : i = N := by omega
    simp only [boltinglaw19_bound.l0]
    split
    · rw [if_neg (by omega)]
    · rfl
  | succ d ih =>
    intro i h hi k hk
    obtain ⟨k, rfl⟩ : ∃ m, k = m + 1 := ⟨k - 1, by omega⟩
    simp only [boltinglaw19_bound.l0]
    by_cases hlt : i < l.length
    · obtain ⟨x, hx⟩ := get_some hlt
      have hmn : 0 ≤ mn (x.f4.length : Int) 8 ∧ mn (x.f4.length : Int) 8 ≤ (x.f4.length : Int) := by unfold mn; split <;> omega
      rw [if_pos (by omega), if_pos (by omega), if_pos (by omega), t37_at hx, if_pos hmn.1, if_pos hmn.2, if_pos (by rw [List.length_map, List.length_take]; omega), wrap_succ (by omega) (by omega)]
      have e : (l.take i).map cut8 ++ [(⟨x.f0, x.f1, x.f2, x.f3, x.f4.take (mn (x.f4.length : Int) 8).toNat⟩ : S34)] = (l.take (i + 1)).map cut8 := by
        rw [List.take_add_one, hx, List.map_append]; rfl
      rw [e]
      exact ih (i + 1) (by omega) (by omega) k (by omega)
    · rw [if_neg (by omega)]
      refine congrArg some ?_
      rw [List.take_of_length_le (show l.length ≤ i by omega), List.take_of_length_le (show l.length ≤ N by omega)]
theorem bound_f (l : List S34) (hl : l.length ≤ 9223372036854775807) {k : Nat} (hk : 50 < k) : boltinglaw19_bound.f k l = some (bnd40 l) := by
  obtain ⟨N, hN⟩ : ∃ N : Nat, N = 40 := ⟨_, rfl⟩
  have := bound_l0 l hl N hN N 0 (by omega) (by omega) k (by omega)
  unfold bnd40
  rw [← hN]
  exact this
theorem bnd_len (l : List S34) : (bnd40 l).length ≤ 40 := by unfold bnd40; rw [List.length_map, List.length_take]; omega
theorem bnd_mem {l : List S34} {x : S34} (h : x ∈ bnd40 l) : ∃ y ∈ l, x = cut8 y := by
  obtain ⟨y, hy, rfl⟩ := List.mem_map.1 h
  exact ⟨y, List.mem_of_mem_take hy, rfl⟩
theorem cut8_len (x : S34) : (cut8 x).f4.length ≤ 8 := by
  unfold cut8
  show (x.f4.take _).length ≤ 8
  rw [List.length_take]
  unfold mn; split <;> omega
/-! ### what runs nothing -/
def tagS : ByteArray := ⟨#[115, 99, 114, 105, 112, 116]⟩
def followB (x : S34) : Bool := decide (x.f1 = 0) && x.f4.any fun a => navB x.f2 a.f0 && script (dat a.f1)
def isS (x : S34) : Bool := decide (x.f1 = 0) && decide (x.f2 = tagS)
def quietB (x : S34) : Bool := !followB x && !isS x && (!decide (x.f1 = 0) || x.f4.all fun a => !handlerB a.f0)
theorem source_some (l : List UInt8) (h : script l = true) : (source l).isSome = true := by
  unfold source; rw [if_pos h]; rfl
theorem follow_l0 (ats : List S39) (hl : ats.length ≤ 1000000) (hs : ∀ y ∈ ats, y.f1.size ≤ 140737488351232) (f0 f1 : Int) (e f3 : ByteArray) (f4 : List S39) (d j : Nat) : j + d = ats.length → ∀ k, d < k →
    ∃ s, run_Follow.l0 k ats (ats.length : Int) (j : Int) f0 f1 e f3 f4 = some (s, (ats.drop j).any fun a => navB e a.f0 && script (dat a.f1)) := by
  induction d generalizing j with
  | zero =>
    intro h k hk
    obtain ⟨k, rfl⟩ : ∃ m, k = m + 1 := ⟨k - 1, by omega⟩
    simp only [run_Follow.l0]
    rw [if_neg (by omega), List.drop_of_length_le (by omega)]
    exact ⟨_, rfl⟩
  | succ d ih =>
    intro h k hk
    obtain ⟨k, rfl⟩ : ∃ m, k = m + 1 := ⟨k - 1, by omega⟩
    obtain ⟨a, ha⟩ := get_some (show j < ats.length by omega)
    have hz := hs a (List.mem_of_getElem? ha)
    obtain ⟨s, ih⟩ := ih (j + 1) (by omega) k (by omega)
    simp only [run_Follow.l0]
    rw [if_pos (by omega), if_pos (by omega), if_pos (by omega), t30_at ha, drop_at ha, List.any_cons, show risk_Nav.f e a.f0 = some (navB e a.f0) from rfl, wrap_succ (by omega) (by omega), show ((j : Int) + 1) = ((j + 1 : Nat) : Int) by omega, ih]
    simp only [Option.bind_some]
    cases hb : navB e a.f0 with
    | false => rw [if_neg (by simp)]; exact ⟨s, by simp⟩
    | true =>
      rw [if_pos rfl, show link_Script.f a.f1 = some (script (dat a.f1)) from bnd_of _ hz]
      simp only [Option.bind_some]
      cases hsc : script (dat a.f1) with
      | false => rw [if_neg (by simp)]; exact ⟨s, by simp⟩
      | true =>
        rw [if_pos rfl, show link_Source.f a.f1 = some (mkS ((source (dat a.f1)).getD []), (source (dat a.f1)).isSome) from bnd_of _ hz]
        simp only [Option.bind_some]
        rw [source_some _ hsc]
        exact ⟨mkS ((source (dat a.f1)).getD []), by simp⟩
theorem follow_f (x : S34) (hf : Fits x) (hl : x.f4.length ≤ 1000) {k : Nat} (hk : 1001 < k) : ∃ s, run_Follow.f k x.f0 x.f1 x.f2 x.f3 x.f4 = some (s, followB x) := by
  unfold run_Follow.f followB
  by_cases h : x.f1 = 0
  · rw [if_pos h]
    obtain ⟨s, hs⟩ := follow_l0 x.f4 (by omega) hf x.f0 x.f1 x.f2 x.f3 x.f4 x.f4.length 0 (by omega) k (by omega)
    rw [show ((0 : Nat) : Int) = 0 from rfl, List.drop_zero] at hs
    rw [hs]
    exact ⟨s, by simp [h]⟩
  · rw [if_neg h]; exact ⟨⟨#[]⟩, by simp [h]⟩
theorem is_f (x : S34) (t : ByteArray) : run_is.f x.f0 x.f1 x.f2 x.f3 x.f4 t = some (decide (x.f1 = 0) && decide (x.f2 = t)) := by
  unfold run_is.f
  by_cases h : x.f1 = 0
  · rw [if_pos h, toList_dat, toList_dat]
    refine congrArg some ?_
    rw [Bool.eq_iff_iff, beq_iff_eq]
    simp only [h, decide_true, Bool.true_and, decide_eq_true_eq]
    exact ⟨dat_inj, fun e => by rw [e]⟩
  · rw [if_neg h]; simp [h]
theorem nothing_l1 (l : List S34) (n i : Int) (ats : List S39) (hl : ats.length ≤ 1000000) (hh : ∀ y ∈ ats, y.f0.size ≤ 4000000000000000000) (d j : Nat) : j + d = ats.length → ∀ k, d < k →
    run_Nothing.l1 k l n i ats (ats.length : Int) (j : Int) = if (ats.drop j).all (fun a => !handlerB a.f0) = true then run_Nothing.l0 (k - d - 1) l n (wrap64 (i + 1)) else some false := by
  induction d generalizing j with
  | zero =>
    intro h k hk
    obtain ⟨k, rfl⟩ : ∃ m, k = m + 1 := ⟨k - 1, by omega⟩
    simp only [run_Nothing.l1]
    rw [if_neg (by omega), List.drop_of_length_le (by omega)]
    rfl
  | succ d ih =>
    intro h k hk
    obtain ⟨k, rfl⟩ : ∃ m, k = m + 1 := ⟨k - 1, by omega⟩
    obtain ⟨a, ha⟩ := get_some (show j < ats.length by omega)
    simp only [run_Nothing.l1]
    rw [if_pos (by omega), if_pos (by omega), if_pos (by omega), t30_at ha, handler_f a.f0 (hh a (List.mem_of_getElem? ha)), drop_at ha, List.all_cons]
    simp only [Option.bind_some]
    cases hb : handlerB a.f0 with
    | true => rw [if_pos rfl]; simp
    | false =>
      rw [if_neg (by simp), wrap_succ (by omega) (by omega)]
      have := ih (j + 1) (by omega) k (by omega)
      rw [show ((j : Int) + 1) = ((j + 1 : Nat) : Int) by omega, this, show k + 1 - (d + 1) - 1 = k - d - 1 by omega]
      simp
theorem nothing_l0 (l : List S34) (hl : l.length ≤ 1000) (hf : ∀ x ∈ l, Fits x) (hh : ∀ x ∈ l, ∀ y ∈ x.f4, y.f0.size ≤ 4000000000000000000) (ha : ∀ x ∈ l, x.f4.length ≤ 1000) (M : Nat) (hM : 1004 ≤ M) (d i : Nat) : i + d = l.length → ∀ k, d * M + 2000 ≤ k → run_Nothing.l0 k l (l.length : Int) (i : Int) = some ((l.drop i).all quietB) := by
  induction d generalizing i with
  | zero =>
    intro h k hk
    obtain ⟨k, rfl⟩ : ∃ m, k = m + 1 := ⟨k - 1, by omega⟩
    simp only [run_Nothing.l0]
    rw [if_neg (by omega), List.drop_of_length_le (by omega)]
    rfl
  | succ d ih =>
    intro h k hk
    have hk' : d * M + M + 2000 ≤ k := by rw [← Nat.succ_mul]; exact hk
    obtain ⟨D, hD⟩ : ∃ D, d * M = D := ⟨_, rfl⟩
    rw [hD] at hk' ih
    clear hk hD
    obtain ⟨k, rfl⟩ : ∃ m, k = m + 2 := ⟨k - 2, by omega⟩
    obtain ⟨x, hx⟩ := get_some (show i < l.length by omega)
    have hm : x ∈ l := List.mem_of_getElem? hx
    have hlen := ha x hm
    obtain ⟨s, hfo⟩ := follow_f x (hf x hm) hlen (k := k + 1) (by omega)
    have hw : wrap64 ((i : Int) + 1) = ((i + 1 : Nat) : Int) := by rw [wrap_succ (by omega) (by omega)]; omega
    simp only [run_Nothing.l0]
    rw [if_pos (by omega), if_pos (by omega), if_pos (by omega), t37_at hx, hfo, drop_at hx, List.all_cons, is_f x]
    simp only [Option.bind_some]
    have hq : quietB x = (!followB x && !isS x && (!decide (x.f1 = 0) || x.f4.all fun a => !handlerB a.f0)) := rfl
    rw [hq]
    show (if followB x = true then _ else run_Nothing.j1 (k + 1) l (l.length : Int) (i : Int) (isS x) x.f0 x.f1 x.f2 x.f3 x.f4) = _
    cases hfb : followB x with
    | true =>
      rw [if_pos rfl]
      simp only [run_Nothing.j1]
      rw [if_pos trivial]; simp
    | false =>
      rw [if_neg (by simp)]
      simp only [run_Nothing.j1]
      cases his : isS x with
      | true => rw [if_pos rfl]; simp
      | false =>
        rw [if_neg (by simp)]
        by_cases h1 : x.f1 = 0
        · rw [if_pos h1]
          have := nothing_l1 l (l.length : Int) (i : Int) x.f4 (by omega) (hh x hm) x.f4.length 0 (by omega) k (by omega)
          rw [show ((0 : Nat) : Int) = 0 from rfl, List.drop_zero] at this
          rw [this, hw, decide_eq_true h1]
          cases hall : x.f4.all (fun a => !handlerB a.f0) with
          | true =>
            rw [if_pos rfl, ih (i + 1) (by omega) (k - x.f4.length - 1) (by omega)]
            simp
          | false => rw [if_neg (by simp)]; simp
        · rw [if_neg h1, hw, ih (i + 1) (by omega) k (by omega), decide_eq_false h1]
          simp
theorem nothing_f (l : List S34) (hl : l.length ≤ 1000) (hf : ∀ x ∈ l, Fits x) (hh : ∀ x ∈ l, ∀ y ∈ x.f4, y.f0.size ≤ 4000000000000000000) (ha : ∀ x ∈ l, x.f4.length ≤ 1000) {k : Nat} (hk : 1100000 ≤ k) : run_Nothing.f k l = some (l.all quietB) := by
  have h1 : l.length * 1004 ≤ 1000 * 1004 := Nat.mul_le_mul_right _ hl
  have := nothing_l0 l hl hf hh ha 1004 (Nat.le_refl _) l.length 0 (Nat.zero_add _) k (Nat.le_trans (Nat.add_le_add_right h1 2000) (Nat.le_trans (by decide) hk))
  rw [List.drop_zero] at this
  exact this
/-- Safe rows run nothing. -/
theorem safe_quiet {x : S34} (h : rowB x = true) : quietB x = true := by
  unfold rowB at h
  unfold quietB followB isS
  by_cases h1 : x.f1 = 0
  · rw [if_pos h1, Bool.and_eq_true, List.all_eq_true] at h
    obtain ⟨g1, g2⟩ := h
    rw [decide_eq_true h1]
    have e1 : (x.f4.any fun a => navB x.f2 a.f0 && script (dat a.f1)) = false := List.any_eq_false.2 (fun a ha => by
      have := g2 a ha
      unfold attrB at this
      simp at this
      cases hn : navB x.f2 a.f0 with
      | false => simp
      | true => rw [hn] at this; simpa using this.2)
    have e2 : decide (x.f2 = tagS) = false := by
      refine decide_eq_false (fun e => ?_)
      rw [e] at g1
      revert g1
      decide
    have e3 : (x.f4.all fun a => !handlerB a.f0) = true := List.all_eq_true.2 (fun a ha => by
      have := g2 a ha
      unfold attrB sinkF at this
      cases hn : handlerB a.f0 with
      | false => rfl
      | true => rw [hn] at this; simp at this)
    rw [e1, e2, e3]
    rfl
  · rw [decide_eq_false h1]
    rfl
end Go.Proofs.Ytakhldahohooiaa.Pure
namespace Go.Proofs.Ytakhldahohooiaa.Pr
open Go.RowKit Go.Proofs.YtakhldahohooiaaW.PrintWords Go.Proofs.YtakhldahohooiaaW.PrintLast Go.Proofs.YtakhldahohooiaaW.PrintMore
attribute [local go_sem] max2_int min2_int max_two min_two max_three min_three max_four min_four   -- for this text's walks alone
set_option linter.unusedVariables false
set_option linter.unusedSimpArgs false

/-! ### boltingref04_Parent: function 39 -/
mutual
def boltingref04_Parent.l0 : Nat → List (S34) → Int → Int → Int → Option (Int)
  | 0, _, _, _, _ => none
  | k + 1, x0, x1, x5, x6 => if x6 < x1 then (boltingref04_Parent.j1 k x0 x1 x5 x6 (decide (x1 < (x0.length : Int)))) else (boltingref04_Parent.j1 k x0 x1 x5 x6 false)
def boltingref04_Parent.j1 : Nat → List (S34) → Int → Int → Int → Bool → Option (Int)
  | 0, _, _, _, _, _ => none
  | k + 1, x0, x1, x5, x6, x15 => if x15 = true then (if 0 ≤ x6 then (if x6 < (x0.length : Int) then (if 0 ≤ x1 then (if x1 < (x0.length : Int) then (if ((rd_T34 x0 x6).f0) = (wrap64 (((rd_T34 x0 x1).f0) - 1)) then (boltingref04_Parent.l0 k x0 x1 x6 (wrap64 (x6 + 1))) else (boltingref04_Parent.l0 k x0 x1 x5 (wrap64 (x6 + 1)))) else (none)) else (none)) else (none)) else (none)) else (some x5)
end
def boltingref04_Parent.f (k : Nat) (l0 : List (S34)) (a1 : Int) : Option (Int) := boltingref04_Parent.l0 k l0 a1 (-1) 0
/-! ### boltingref19_inert: function 25 -/
def boltingref19_inert.l0 : Nat → List (S34) → Int → Option (Bool)
  | 0, _, _ => none
  | k + 1, x0, x1 => if x1 ≥ 0 then (if 0 ≤ x1 then (if x1 < (x0.length : Int) then (if ((rd_T34 x0 x1).f1) = 0 then (if ((rd_T34 x0 x1).f2).toList = ([116, 101, 109, 112, 108, 97, 116, 101] : List UInt8) then (some true) else ((boltingref04_Parent.f k x0 x1).bind fun t210 => (boltingref19_inert.l0 k x0 t210))) else ((boltingref04_Parent.f k x0 x1).bind fun t211 => (boltingref19_inert.l0 k x0 t211))) else (none)) else (none)) else (some false)
def boltingref19_inert.f (k : Nat) (l0 : List (S34)) (a1 : Int) : Option (Bool) := boltingref19_inert.l0 k l0 a1
/-! ### boltingref19_Value: function 26 -/
mutual
def boltingref19_Value.l0 : Nat → ByteArray → Int → Int → Int → ByteArray → ByteArray → List (S39) → Option (ByteArray × Bool)
  | 0, _, _, _, _, _, _, _ => none
  | k + 1, x1, x6, x213000, x213001, x213002, x213003, x213004 => if x6 < (x213004.length : Int) then (boltingref19_Value.j1 k x1 x6 (x213001 == 0) x213000 x213001 x213002 x213003 x213004) else (boltingref19_Value.j1 k x1 x6 false x213000 x213001 x213002 x213003 x213004)
def boltingref19_Value.j1 : Nat → ByteArray → Int → Bool → Int → Int → ByteArray → ByteArray → List (S39) → Option (ByteArray × Bool)
  | 0, _, _, _, _, _, _, _, _ => none
  | k + 1, x1, x6, x16, x213000, x213001, x213002, x213003, x213004 => if x16 = true then (if 0 ≤ x6 then (if x6 < (x213004.length : Int) then (if ((rd_T39 x213004 x6).f0).toList = x1.toList then (some ((rd_T39 x213004 x6).f1, true)) else (boltingref19_Value.l0 k x1 (wrap64 (x6 + 1)) x213000 x213001 x213002 x213003 x213004)) else (none)) else (none)) else (some ((⟨#[]⟩ : ByteArray), false))
end
def boltingref19_Value.f (k : Nat) (a0_0 : Int) (a0_1 : Int) (a0_2 : ByteArray) (a0_3 : ByteArray) (l0_4 : List (S39)) (a1 : ByteArray) : Option (ByteArray × Bool) := boltingref19_Value.l0 k a1 0 a0_0 a0_1 a0_2 a0_3 l0_4
end Go.Proofs.Ytakhldahohooiaa.Pr
namespace Go.Proofs.Ytakhldahohooiaa.Pr
open Go.RowKit Go.Proofs.YtakhldahohooiaaW.PrintWords Go.Proofs.YtakhldahohooiaaW.PrintLast Go.Proofs.YtakhldahohooiaaW.PrintMore
attribute [local go_sem] max2_int min2_int max_two min_two max_three min_three max_four min_four   -- for this text's walks alone
set_option linter.unusedVariables false
set_option linter.unusedSimpArgs false

/-! ### boltingref04_End: function 40 -/
mutual
def boltingref04_End.j0 : Nat → List (S34) → Int → Bool → Option (Int)
  | 0, _, _, _ => none
  | k + 1, x0, x1, x13 => if x13 = true then (some 0) else (boltingref04_End.l0 k x0 x1 (wrap64 (x1 + 1)))
def boltingref04_End.l0 : Nat → List (S34) → Int → Int → Option (Int)
  | 0, _, _, _ => none
  | k + 1, x0, x1, x5 => if x5 < (x0.length : Int) then (if 0 ≤ x5 then (if 0 ≤ x1 then (if x1 < (x0.length : Int) then (if ((rd_T34 x0 x5).f0) ≤ ((rd_T34 x0 x1).f0) then (some x5) else (boltingref04_End.l0 k x0 x1 (wrap64 (x5 + 1)))) else (none)) else (none)) else (none)) else (some (x0.length : Int))
end
def boltingref04_End.f (k : Nat) (l0 : List (S34)) (a1 : Int) : Option (Int) := if a1 < 0 then (boltingref04_End.j0 k l0 a1 true) else (boltingref04_End.j0 k l0 a1 (decide (a1 ≥ (l0.length : Int))))
/-! ### boltingref04_Text: function 27 -/
mutual
def boltingref04_Text.j0 : Nat → List (S34) → Int → ByteArray → Int → Int → Option (ByteArray)
  | 0, _, _, _, _, _ => none
  | k + 1, x0, x1, x5, x6, x7 => boltingref04_Text.l0 k x0 x1 x5 x7 x6
def boltingref04_Text.l0 : Nat → List (S34) → Int → ByteArray → Int → Int → Option (ByteArray)
  | 0, _, _, _, _, _ => none
  | k + 1, x0, x1, x5, x7, x8 => if x8 < x7 then (boltingref04_Text.j2 k x0 x1 x5 x7 x8 (decide (x1 ≥ (-1)))) else (boltingref04_Text.j2 k x0 x1 x5 x7 x8 false)
def boltingref04_Text.j2 : Nat → List (S34) → Int → ByteArray → Int → Int → Bool → Option (ByteArray)
  | 0, _, _, _, _, _, _ => none
  | k + 1, x0, x1, x5, x7, x8, x27 => if x27 = true then (if 0 ≤ x8 then (if x8 < (x0.length : Int) then (if ((rd_T34 x0 x8).f1) = 1 then (if x5.size + ((rd_T34 x0 x8).f3).size ≤ 9223372036854775807 then (boltingref04_Text.l0 k x0 x1 (x5 ++ ((rd_T34 x0 x8).f3)) x7 (wrap64 (x8 + 1))) else (none)) else (boltingref04_Text.l0 k x0 x1 x5 x7 (wrap64 (x8 + 1)))) else (none)) else (none)) else (some x5)
end
def boltingref04_Text.f (k : Nat) (l0 : List (S34)) (a1 : Int) : Option (ByteArray) := if a1 ≥ 0 then ((boltingref04_End.f k l0 a1).bind fun t217 => (boltingref04_Text.j0 k l0 a1 (⟨#[]⟩ : ByteArray) (mn a1 (l0.length : Int)) t217)) else (boltingref04_Text.j0 k l0 a1 (⟨#[]⟩ : ByteArray) 0 (l0.length : Int))
end Go.Proofs.Ytakhldahohooiaa.Pr
namespace Go.Proofs.Ytakhldahohooiaa.Pr
open Go.RowKit Go.Proofs.YtakhldahohooiaaW.PrintWords Go.Proofs.YtakhldahohooiaaW.PrintLast Go.Proofs.YtakhldahohooiaaW.PrintMore
attribute [local go_sem] max2_int min2_int max_two min_two max_three min_three max_four min_four   -- for this text's walks alone
set_option linter.unusedVariables false
set_option linter.unusedSimpArgs false

/-! ### boltingref19_Scripts: function 12 -/
mutual
def boltingref19_Scripts.l0 : Nat → List (S34) → List (S30) → Int → Option ((List (S30)))
  | 0, _, _, _ => none
  | k + 1, x0, x3, x4 => if x4 < (x0.length : Int) then (if 0 ≤ x4 then (if ((rd_T34 x0 x4).f1) = 0 then (if ((rd_T34 x0 x4).f2).toList = ([115, 99, 114, 105, 112, 116] : List UInt8) then ((boltingref19_inert.f k x0 x4).bind fun t225 => (boltingref19_Scripts.j1 k x0 x3 x4 t225)) else (boltingref19_Scripts.j1 k x0 x3 x4 true)) else (boltingref19_Scripts.j1 k x0 x3 x4 true)) else (none)) else (some x3)
def boltingref19_Scripts.j1 : Nat → List (S34) → List (S30) → Int → Bool → Option ((List (S30)))
  | 0, _, _, _, _ => none
  | k + 1, x0, x3, x4, x33 => if x33 = true then (boltingref19_Scripts.l0 k x0 x3 (wrap64 (x4 + 1))) else (if 0 ≤ x4 then (if x4 < (x0.length : Int) then ((boltingref19_Value.f k ((rd_T34 x0 x4).f0) ((rd_T34 x0 x4).f1) ((rd_T34 x0 x4).f2) ((rd_T34 x0 x4).f3) ((rd_T34 x0 x4).f4) (⟨#[115, 114, 99]⟩ : ByteArray)).bind fun bt227 => ((boltingref04_Text.f k x0 x4).bind fun t229 => (if bt227.2 = true then (if x3.length < 4398046511104 then (boltingref19_Scripts.l0 k x0 (x3 ++ [(⟨x4, 3, bt227.1⟩ : S30)]) (wrap64 (x4 + 1))) else (none)) else (if t229.toList = ([] : List UInt8) then (boltingref19_Scripts.l0 k x0 x3 (wrap64 (x4 + 1))) else (if x3.length < 4398046511104 then (boltingref19_Scripts.l0 k x0 (x3 ++ [(⟨x4, 2, t229⟩ : S30)]) (wrap64 (x4 + 1))) else (none)))))) else (none)) else (none))
end
def boltingref19_Scripts.f (k : Nat) (l0 : List (S34)) : Option ((List (S30))) := boltingref19_Scripts.l0 k l0 (([] : List (S30))) 0
/-! ### boltingref09_Strip: function 53 -/
mutual
def boltingref09_Strip.l0 : Nat → ByteArray → Int → Int → Int → Option (ByteArray)
  | 0, _, _, _, _ => none
  | k + 1, x0, x3, x4, x5 => if x5 < (x0.size : Int) then (if 0 ≤ x5 then (if (bt x0 x5) > 32 then (if x3 < 0 then (boltingref09_Strip.l0 k x0 x5 x5 (wrap64 (x5 + 1))) else (boltingref09_Strip.l0 k x0 x3 x5 (wrap64 (x5 + 1)))) else (boltingref09_Strip.l0 k x0 x3 x4 (wrap64 (x5 + 1)))) else (none)) else (boltingref09_Strip.l1 k x0 x4 (([] : List Int)) (mx 0 x3))
def boltingref09_Strip.l1 : Nat → ByteArray → Int → List Int → Int → Option (ByteArray)
  | 0, _, _, _, _ => none
  | k + 1, x0, x4, x6, x7 => if x7 ≤ x4 then (if 0 ≤ x7 then (if x7 < (x0.size : Int) then (if (bt x0 x7) = 9 then (boltingref09_Strip.l1 k x0 x4 x6 (wrap64 (x7 + 1))) else (if (bt x0 x7) = 10 then (boltingref09_Strip.l1 k x0 x4 x6 (wrap64 (x7 + 1))) else (if (bt x0 x7) = 13 then (boltingref09_Strip.l1 k x0 x4 x6 (wrap64 (x7 + 1))) else (if x6.length < 140737488355328 then (boltingref09_Strip.l1 k x0 x4 (x6 ++ [bt x0 x7]) (wrap64 (x7 + 1))) else (none))))) else (none)) else (none)) else (some (strOfNums x6))
end
def boltingref09_Strip.f (k : Nat) (a0 : ByteArray) : Option (ByteArray) := boltingref09_Strip.l0 k a0 (-1) (-1) 0
/-! ### boltingref02_Letter: function 69 -/
def boltingref02_Letter.f (a0 : Int) : Option (Bool) := if a0 ≥ 65 then (if a0 ≤ 90 then (some true) else (if a0 ≥ 97 then (some (decide (a0 ≤ 122))) else (some false))) else (if a0 ≥ 97 then (some (decide (a0 ≤ 122))) else (some false))
end Go.Proofs.Ytakhldahohooiaa.Pr
namespace Go.Proofs.Ytakhldahohooiaa.Pr
open Go.RowKit Go.Proofs.YtakhldahohooiaaW.PrintWords Go.Proofs.YtakhldahohooiaaW.PrintLast Go.Proofs.YtakhldahohooiaaW.PrintMore
attribute [local go_sem] max2_int min2_int max_two min_two max_three min_three max_four min_four   -- for this text's walks alone
set_option linter.unusedVariables false
set_option linter.unusedSimpArgs false

/-! ### boltingref09_colon: function 55 -/
mutual
def boltingref09_colon.l0 : Nat → ByteArray → Int → Option (Int)
  | 0, _, _ => none
  | k + 1, x0, x3 => if x3 < (x0.size : Int) then (if 0 ≤ x3 then (if (bt x0 x3) = 58 then (boltingref09_colon.j1 k x0 x3 (bt x0 x3) (decide (x3 > 0))) else (boltingref09_colon.j1 k x0 x3 (bt x0 x3) false)) else (none)) else (some (-1))
def boltingref09_colon.j1 : Nat → ByteArray → Int → Int → Bool → Option (Int)
  | 0, _, _, _, _ => none
  | k + 1, x0, x3, x4, x19 => if x19 = true then (some x3) else ((boltingref02_Letter.f x4).bind fun t242 => (if t242 = true then (boltingref09_colon.l0 k x0 (wrap64 (x3 + 1))) else (if x3 = 0 then (some (-1)) else (if x4 ≥ 48 then (if x4 ≤ 57 then (boltingref09_colon.l0 k x0 (wrap64 (x3 + 1))) else (if x4 = 43 then (boltingref09_colon.l0 k x0 (wrap64 (x3 + 1))) else (if x4 = 45 then (boltingref09_colon.l0 k x0 (wrap64 (x3 + 1))) else (if x4 = 46 then (boltingref09_colon.l0 k x0 (wrap64 (x3 + 1))) else (some (-1)))))) else (if x4 = 43 then (boltingref09_colon.l0 k x0 (wrap64 (x3 + 1))) else (if x4 = 45 then (boltingref09_colon.l0 k x0 (wrap64 (x3 + 1))) else (if x4 = 46 then (boltingref09_colon.l0 k x0 (wrap64 (x3 + 1))) else (some (-1)))))))))
end
def boltingref09_colon.f (k : Nat) (a0 : ByteArray) : Option (Int) := boltingref09_colon.l0 k a0 0
/-! ### boltingref09_Scheme: function 52 -/
def boltingref09_Scheme.f (k : Nat) (a0 : ByteArray) : Option (ByteArray × Bool) := (boltingref09_Strip.f k a0).bind fun t243 => ((boltingref09_colon.f k t243).bind fun t244 => (if t244 < 0 then (some ((⟨#[]⟩ : ByteArray), false)) else (if 0 ≤ t244 then (if t244 ≤ (t243.size : Int) then ((boltingref02_Lower.f (t243.extract 0 (t244 : Int).toNat)).bind fun t245 => (some (t245, true))) else (none)) else (none))))
/-! ### boltingref09_digit: function 68 -/
mutual
def boltingref09_digit.j0 : Nat → Int → Bool → Option (Int)
  | 0, _, _ => none
  | k + 1, x0, x8 => if x8 = true then (some (wrap64 ((wrap64 (x0)) - 48))) else (if x0 ≥ 97 then (boltingref09_digit.j1 k x0 (decide (x0 ≤ 102))) else (boltingref09_digit.j1 k x0 false))
def boltingref09_digit.j1 : Nat → Int → Bool → Option (Int)
  | 0, _, _ => none
  | k + 1, x0, x17 => if x17 = true then (some (wrap64 ((wrap64 (x0)) - 87))) else (if x0 ≥ 65 then (if x0 ≤ 70 then (some (wrap64 ((wrap64 (x0)) - 55))) else (some (-1))) else (some (-1)))
end
def boltingref09_digit.f (k : Nat) (a0 : Int) : Option (Int) := if a0 ≥ 48 then (boltingref09_digit.j0 k a0 (decide (a0 ≤ 57))) else (boltingref09_digit.j0 k a0 false)
end Go.Proofs.Ytakhldahohooiaa.Pr
namespace Go.Proofs.Ytakhldahohooiaa.Pr
open Go.RowKit Go.Proofs.YtakhldahohooiaaW.PrintWords Go.Proofs.YtakhldahohooiaaW.PrintLast Go.Proofs.YtakhldahohooiaaW.PrintMore
attribute [local go_sem] max2_int min2_int max_two min_two max_three min_three max_four min_four   -- for this text's walks alone
set_option linter.unusedVariables false
set_option linter.unusedSimpArgs false

/-! ### boltingref09_Percent: function 54 -/
mutual
def boltingref09_Percent.l0 : Nat → ByteArray → List Int → Int → Option (ByteArray)
  | 0, _, _, _ => none
  | k + 1, x0, x3, x4 => if x4 < (x0.size : Int) then (if 0 ≤ x4 then (if (bt x0 x4) = 37 then (if (wrap64 (x4 + 2)) < (x0.size : Int) then (if 0 ≤ (wrap64 (x4 + 1)) then (if (wrap64 (x4 + 1)) < (x0.size : Int) then ((boltingref09_digit.f k (bt x0 (wrap64 (x4 + 1)))).bind fun t249 => (if t249 ≥ 0 then (if 0 ≤ (wrap64 (x4 + 2)) then ((boltingref09_digit.f k (bt x0 (wrap64 (x4 + 2)))).bind fun t250 => (boltingref09_Percent.j1 k x0 x3 x4 (decide (t250 ≥ 0)))) else (none)) else (boltingref09_Percent.j1 k x0 x3 x4 false))) else (none)) else (none)) else (boltingref09_Percent.j1 k x0 x3 x4 false)) else (boltingref09_Percent.j1 k x0 x3 x4 false)) else (none)) else (some (strOfNums x3))
def boltingref09_Percent.j1 : Nat → ByteArray → List Int → Int → Bool → Option (ByteArray)
  | 0, _, _, _, _ => none
  | k + 1, x0, x3, x4, x5 => if x5 = true then (if 0 ≤ (wrap64 (x4 + 1)) then (if (wrap64 (x4 + 1)) < (x0.size : Int) then ((boltingref09_digit.f k (bt x0 (wrap64 (x4 + 1)))).bind fun t251 => (if 0 ≤ (wrap64 (x4 + 2)) then (if (wrap64 (x4 + 2)) < (x0.size : Int) then ((boltingref09_digit.f k (bt x0 (wrap64 (x4 + 2)))).bind fun t252 => (if x3.length < 140737488355328 then (boltingref09_Percent.l0 k x0 (x3 ++ [(wrap64 ((wrap64 (16 * t251)) + t252)) % 256]) (wrap64 ((wrap64 (x4 + 2)) + 1))) else (none))) else (none)) else (none))) else (none)) else (none)) else (if 0 ≤ x4 then (if x4 < (x0.size : Int) then (if x3.length < 140737488355328 then (boltingref09_Percent.l0 k x0 (x3 ++ [bt x0 x4]) (wrap64 (x4 + 1))) else (none)) else (none)) else (none))
end
def boltingref09_Percent.f (k : Nat) (a0 : ByteArray) : Option (ByteArray) := boltingref09_Percent.l0 k a0 (([] : List Int)) 0
def boltingref09_Percent.T7 : Bool × List (List Nat × List Nat) := (true, [([], []), ([], []), ([], []), ([2], [2]), ([1, 3], [1, 3]), ([4], [4]), ([5], [5]), ([], []), ([], []), ([8], [8]), ([7, 9], [7, 9]), ([10, 5], [10]), ([6, 11], [6, 11]), ([12], [12]), ([13], [13]), ([0, 14, 11], [0, 14]), ([15, 15, 0, 1, 2, 3, 4, 5, 6, 7, 8, 9, 10, 11, 12, 13, 14, 15], [0, 15])])
def boltingref09_Percent.B7 : List Nat := [0, 0, 0, 4, 14, 30, 62, 0, 0, 256, 896, 1982, 4094, 8190, 16382, 32767, 65535]
/-! ### boltingref09_Source: function 42 -/
def boltingref09_Source.f (k : Nat) (a0 : ByteArray) : Option (ByteArray × Bool) := (boltingref09_Scheme.f k a0).bind fun bt259 => (if bt259.1.toList = ([106, 97, 118, 97, 115, 99, 114, 105, 112, 116] : List UInt8) then ((boltingref09_Strip.f k a0).bind fun t261 => ((boltingref09_colon.f k t261).bind fun t262 => (if 0 ≤ (wrap64 (t262 + 1)) then (if (wrap64 (t262 + 1)) ≤ (t261.size : Int) then ((boltingref09_Percent.f k (t261.extract ((wrap64 (t262 + 1)) : Int).toNat t261.size)).bind fun t263 => (some (t263, true))) else (none)) else (none)))) else (some ((⟨#[]⟩ : ByteArray), false)))
/-! ### boltingref02_Has: function 70 -/
def boltingref02_Has.l0 : Nat → List ByteArray → ByteArray → Int → Option (Bool)
  | 0, _, _, _ => none
  | k + 1, x0, x1, x5 => if x5 < (x0.length : Int) then (if 0 ≤ x5 then (if (rdOf ByteArray.empty x0 x5).toList = x1.toList then (some true) else (boltingref02_Has.l0 k x0 x1 (wrap64 (x5 + 1)))) else (none)) else (some false)
def boltingref02_Has.f (k : Nat) (l0 : List ByteArray) (a1 : ByteArray) : Option (Bool) := boltingref02_Has.l0 k l0 a1 0
/-! ### boltingref10_plain: function 71 -/
def boltingref10_plain.l0 : Nat → ByteArray → Int → Option (Bool)
  | 0, _, _ => none
  | k + 1, x0, x3 => if x3 < (x0.size : Int) then (if 0 ≤ x3 then (if (bt x0 x3) = 32 then (some false) else (boltingref10_plain.l0 k x0 (wrap64 (x3 + 1)))) else (none)) else (some true)
def boltingref10_plain.f (k : Nat) (a0 : ByteArray) : Option (Bool) := boltingref10_plain.l0 k a0 0
end Go.Proofs.Ytakhldahohooiaa.Pr
namespace Go.Proofs.Ytakhldahohooiaa.Pr
open Go.RowKit Go.Proofs.YtakhldahohooiaaW.PrintWords Go.Proofs.YtakhldahohooiaaW.PrintLast Go.Proofs.YtakhldahohooiaaW.PrintMore
attribute [local go_sem] max2_int min2_int max_two min_two max_three min_three max_four min_four   -- for this text's walks alone
set_option linter.unusedVariables false
set_option linter.unusedSimpArgs false

/-! ### boltingref10_pair: function 56 -/
def boltingref10_pair.l0 : Nat → List ByteArray → ByteArray → ByteArray → Int → Option (Bool)
  | 0, _, _, _, _ => none
  | k + 1, x0, x1, x2, x7 => if x7 < (x0.length : Int) then (if 0 ≤ x7 then (if x1.size + 1 ≤ 9223372036854775807 then (if (x1 ++ (⟨#[32]⟩ : ByteArray)).size + x2.size ≤ 9223372036854775807 then (if (rdOf ByteArray.empty x0 x7).toList = ((x1 ++ (⟨#[32]⟩ : ByteArray)) ++ x2).toList then ((boltingref02_Has.f k (([x1, x2] : List ByteArray)) (⟨#[]⟩ : ByteArray)).bind fun t269 => (if t269 = true then (boltingref10_pair.l0 k x0 x1 x2 (wrap64 (x7 + 1))) else ((boltingref10_plain.f k x1).bind fun t270 => (if t270 = true then (some true) else (boltingref10_pair.l0 k x0 x1 x2 (wrap64 (x7 + 1))))))) else (boltingref10_pair.l0 k x0 x1 x2 (wrap64 (x7 + 1)))) else (none)) else (none)) else (none)) else (some false)
def boltingref10_pair.f (k : Nat) (l0 : List ByteArray) (a1 : ByteArray) (a2 : ByteArray) : Option (Bool) := boltingref10_pair.l0 k l0 a1 a2 0
/-! ### boltingref10_leads: function 57 -/
def boltingref10_leads.f  : Option (List ByteArray) := some (([(⟨#[97, 32, 104, 114, 101, 102]⟩ : ByteArray), (⟨#[97, 114, 101, 97, 32, 104, 114, 101, 102]⟩ : ByteArray), (⟨#[98, 117, 116, 116, 111, 110, 32, 102, 111, 114, 109, 97, 99, 116, 105, 111, 110]⟩ : ByteArray), (⟨#[101, 109, 98, 101, 100, 32, 115, 114, 99]⟩ : ByteArray), (⟨#[102, 111, 114, 109, 32, 97, 99, 116, 105, 111, 110]⟩ : ByteArray), (⟨#[102, 114, 97, 109, 101, 32, 115, 114, 99]⟩ : ByteArray), (⟨#[105, 102, 114, 97, 109, 101, 32, 115, 114, 99]⟩ : ByteArray), (⟨#[105, 110, 112, 117, 116, 32, 102, 111, 114, 109, 97, 99, 116, 105, 111, 110]⟩ : ByteArray), (⟨#[111, 98, 106, 101, 99, 116, 32, 100, 97, 116, 97]⟩ : ByteArray)] : List ByteArray))
/-! ### boltingref10_Nav: function 43 -/
def boltingref10_Nav.f (k : Nat) (a0 : ByteArray) (a1 : ByteArray) : Option (Bool) := (boltingref10_leads.f).bind fun t274 => ((boltingref10_pair.f k t274 a0 a1).bind fun t277 => (some t277))
end Go.Proofs.Ytakhldahohooiaa.Pr
namespace Go.Proofs.Ytakhldahohooiaa.Pr
open Go.RowKit Go.Proofs.YtakhldahohooiaaW.PrintWords Go.Proofs.YtakhldahohooiaaW.PrintLast Go.Proofs.YtakhldahohooiaaW.PrintMore
attribute [local go_sem] max2_int min2_int max_two min_two max_three min_three max_four min_four   -- for this text's walks alone
set_option linter.unusedVariables false
set_option linter.unusedSimpArgs false

/-! ### boltingref19_Follow: function 29 -/
mutual
def boltingref19_Follow.l0 : Nat → Int → Int → Int → ByteArray → ByteArray → List (S39) → Option (ByteArray × Bool)
  | 0, _, _, _, _, _, _ => none
  | k + 1, x4, x279000, x279001, x279002, x279003, x279004 => if x4 < (x279004.length : Int) then (boltingref19_Follow.j1 k x4 (x279001 == 0) x279000 x279001 x279002 x279003 x279004) else (boltingref19_Follow.j1 k x4 false x279000 x279001 x279002 x279003 x279004)
def boltingref19_Follow.j1 : Nat → Int → Bool → Int → Int → ByteArray → ByteArray → List (S39) → Option (ByteArray × Bool)
  | 0, _, _, _, _, _, _, _ => none
  | k + 1, x4, x16, x279000, x279001, x279002, x279003, x279004 => if x16 = true then (if 0 ≤ x4 then (if x4 < (x279004.length : Int) then ((boltingref09_Source.f k ((rd_T39 x279004 x4).f1)).bind fun bt280 => (if bt280.2 = true then ((boltingref10_Nav.f k x279002 ((rd_T39 x279004 x4).f0)).bind fun t283 => (if t283 = true then (some (bt280.1, true)) else (boltingref19_Follow.l0 k (wrap64 (x4 + 1)) x279000 x279001 x279002 x279003 x279004))) else (boltingref19_Follow.l0 k (wrap64 (x4 + 1)) x279000 x279001 x279002 x279003 x279004))) else (none)) else (none)) else (some ((⟨#[]⟩ : ByteArray), false))
end
def boltingref19_Follow.f (k : Nat) (a0_0 : Int) (a0_1 : Int) (a0_2 : ByteArray) (a0_3 : ByteArray) (l0_4 : List (S39)) : Option (ByteArray × Bool) := boltingref19_Follow.l0 k 0 a0_0 a0_1 a0_2 a0_3 l0_4
def boltingref19_Follow.T5 : Bool × List (List Nat × List Nat) := (true, [([], []), ([0], [0]), ([1], [1]), ([2, 1], [1, 2]), ([1], [1]), ([4, 1], [1, 4]), ([1], [1]), ([5, 6, 1], [1, 5, 6]), ([7, 1], [1, 7]), ([8, 1], [1, 8]), ([3, 9, 1, 1], [1, 3, 9]), ([1, 10], [1, 10])])
def boltingref19_Follow.B5 : List Nat := [0, 1, 3, 7, 3, 19, 3, 115, 243, 499, 1023, 2047]
/-! ### boltingref10_Handler: function 30 -/
def boltingref10_Handler.f (a0 : ByteArray) : Option (Bool) := if (a0.size : Int) > 2 then (if 0 < (a0.size : Int) then (if (bt a0 0) = 111 then (if 1 < (a0.size : Int) then (some ((bt a0 1) == 110)) else (none)) else (some false)) else (none)) else (some false)
end Go.Proofs.Ytakhldahohooiaa.Pr
/- The reference's functions of layers 9 and 10, in chapter 19: plain Lean over the printed functions. -/
namespace Go.Proofs.Ytakhldahohooiaa.Pure
set_option linter.unusedVariables false
set_option linter.unusedSimpArgs false
open Go.RowKit Go.Proofs.Ytakhldahohooiaa.Pr Go.Proofs.YtakhldahohooiaaW.PrintWords Go.Proofs.YtakhldahohooiaaW.PrintLast Go.Proofs.YtakhldahohooiaaW.PrintMore

/-- From behind the first byte on. -/
def colF : List UInt8 → Nat → Int
  | [], _ => -1
  | c :: t, i => if c = 58 then i else if inScheme c then colF t (i + 1) else -1
/-- Where a scheme's colon stands. -/
def colon (l : List UInt8) : Int := if l.contains 58 && okName (bef 58 l) then ((bef 58 l).length : Int) else -1
def plain (l : List UInt8) : Bool := l.all fun c => decide (c ≠ 32)
/-- A row of the reference's lists tells of a pair. -/
def pairAt (x y z : ByteArray) : Bool := decide (dat z = dat x ++ 32 :: dat y) && !mem [x, y] ByteArray.empty && plain (dat x)
end Go.Proofs.Ytakhldahohooiaa.Pure
/- Trees as rows: which rows stand in a row's tree; parents; rows within a tree that bears a mark. Plain Lean. -/
namespace Go.Proofs.Ytakhldahohooiaa.Tree
set_option linter.unusedVariables false

/-- The depths of right rows. -/
structure RightD (D : Nat → Int) (n : Nat) : Prop where
  root : 0 < n → D 0 = 0
  pos : ∀ i, i < n → 0 ≤ D i
  step : ∀ i, i + 1 < n → D (i + 1) ≤ D i + 1
/-- Row m stands in the tree of row j. -/
def InT (D : Nat → Int) (j m : Nat) : Prop := j ≤ m ∧ ∀ x, j < x → x ≤ m → D j < D x
theorem inT_less {D : Nat → Int} {j m k : Nat} (h : InT D j m) (h1 : j ≤ k) (h2 : k ≤ m) : InT D j k := ⟨h1, fun x a b => h.2 x a (by omega)⟩
/-- Row p is the last one ahead of m that stands one less deep. -/
def IsPar (D : Nat → Int) (m p : Nat) : Prop := p < m ∧ D p = D m - 1 ∧ ∀ x, p < x → x < m → D x ≠ D m - 1
/-- Row m stands in the tree of a row that bears the mark. -/
def Marked (T : Nat → Prop) (D : Nat → Int) (m : Nat) : Prop := ∃ j, T j ∧ InT D j m
/-- e is where the tree of row i ends. -/
structure TEnds (D : Nat → Int) (n i e : Nat) : Prop where
  lt : i < e
  le : e ≤ n
  within : ∀ x, i < x → x < e → D i < D x
  out : e = n ∨ D e ≤ D i
theorem TEnds.inT {D : Nat → Int} {n i e : Nat} (h : TEnds D n i e) {m : Nat} (h1 : i ≤ m) (h2 : m < e) : InT D i m := ⟨h1, fun x a b => h.within x a (by omega)⟩
/-- No row ahead of i that bears the mark has row i in its tree. -/
def Free (T : Nat → Prop) (D : Nat → Int) (i : Nat) : Prop := ∀ j, j < i → T j → ¬ InT D j i
theorem free_zero (T : Nat → Prop) (D : Nat → Int) : Free T D 0 := fun j h => by omega
theorem free_next {T : Nat → Prop} {D : Nat → Int} {i : Nat} (h : Free T D i) (hi : ¬ T i) : Free T D (i + 1) := fun j hj hT hI => by
  by_cases e : j = i
  · rw [e] at hT; exact hi hT
  · exact h j (by omega) hT (inT_less hI (by omega) (by omega))
theorem free_end {T : Nat → Prop} {D : Nat → Int} {n i e : Nat} (h : Free T D i) (he : TEnds D n i e) (hn : e < n) : Free T D e := fun j hj hT hI => by
  have h1 := he.lt
  have ho : D e ≤ D i := by rcases he.out with h2 | h2; omega; exact h2
  by_cases c : j < i
  · exact h j c hT (inT_less hI (by omega) (by omega))
  · have h3 := hI.2 e hj (Nat.le_refl _)
    by_cases c2 : j = i
    · rw [c2] at h3; omega
    · have := he.within j (by omega) hj
      omega
theorem free_not {T : Nat → Prop} {D : Nat → Int} {i : Nat} (h : Free T D i) (hi : ¬ T i) : ¬ Marked T D i := by
  rintro ⟨j, h1, h2⟩
  by_cases e : j = i
  · rw [e] at h1; exact hi h1
  · exact h j (by have := h2.1; omega) h1 h2
theorem marked_in {T : Nat → Prop} {D : Nat → Int} {n i e m : Nat} (he : TEnds D n i e) (hi : T i) (h1 : i ≤ m) (h2 : m < e) : Marked T D m := ⟨i, hi, he.inT h1 h2⟩
end Go.Proofs.Ytakhldahohooiaa.Tree
/- Rows as trees in chapter 19: right rows, parents, ends, texts, values: what the printed functions come to. Plain Lean. -/
namespace Go.Proofs.Ytakhldahohooiaa.Pure
set_option linter.unusedVariables false
set_option linter.unusedSimpArgs false
open Go.RowKit Go.Proofs.Ytakhldahohooiaa.Pr Go.Proofs.Ytakhldahohooiaa.Tree Go.Proofs.YtakhldahohooiaaW.PrintWords Go.Proofs.YtakhldahohooiaaW.PrintLast Go.Proofs.YtakhldahohooiaaW.PrintMore

/-- How deep row j stands. -/
def dep (l : List S34) (j : Nat) : Int := (rd_T34 l (j : Int)).f0
def okAt (l : List S34) (j : Nat) : Prop := 0 ≤ dep l j ∧ dep l j ≤ j ∧ (j = 0 → dep l j = 0) ∧ (0 < j → dep l j ≤ dep l (j - 1) + 1)
theorem right_true_l0 (l : List S34) (hl : l.length ≤ 1000) (d i : Nat) : i + d = l.length → (0 < i → okAt l (i - 1)) → ∀ k, boltingref04_Right.l0 k l (i : Int) = some true → ∀ j, i ≤ j → j < l.length → okAt l j := by
  induction d generalizing i with
  | zero => intro h _ k _ j h1 h2; omega
  | succ d ih =>
    intro h hp k hk j h1 h2
    cases k with
    | zero => simp [boltingref04_Right.l0] at hk
    | succ k =>
      simp only [boltingref04_Right.l0] at hk
      rw [if_pos (by omega), if_pos (by omega)] at hk
      obtain ⟨b, _, hk⟩ := Option.bind_eq_some_iff.1 hk
      -- the join: what it says of row i
      have hj : ∀ b k, boltingref04_Right.j1 k l (i : Int) (rd_T34 l (i : Int)).f0 b = some true → b = false ∧ (0 < i → dep l i ≤ dep l (i - 1) + 1) ∧ ∃ k, boltingref04_Right.l0 k l ((i + 1 : Nat) : Int) = some true := by
        intro b k hk
        cases k with
        | zero => simp [boltingref04_Right.j1] at hk
        | succ k =>
          have hw : wrap64 ((i : Int) + 1) = ((i + 1 : Nat) : Int) := by rw [wrap_succ (by omega) (by omega)]; omega
          simp only [boltingref04_Right.j1] at hk
          rw [hw] at hk
          cases b with
          | true => simp at hk
          | false =>
            rw [if_neg (by simp)] at hk
            refine ⟨rfl, ?_⟩
            by_cases h0 : (i : Int) > 0
            · have hq := hp (by omega)
              have e1 : wrap64 ((i : Int) - 1) = ((i - 1 : Nat) : Int) := by rw [wrap_id (by omega) (by omega)]; omega
              rw [if_pos h0, e1, if_pos (by omega), if_pos (by omega)] at hk
              have e2 : wrap64 ((rd_T34 l ((i - 1 : Nat) : Int)).f0 + 1) = dep l (i - 1) + 1 := wrap_succ (by have := hq.1; show -1 ≤ dep l (i - 1); omega) (by have := hq.2.1; show dep l (i - 1) < _; omega)
              rw [e2] at hk
              split at hk
              · cases hk
              · rename_i hle
                have hle' : dep l i ≤ dep l (i - 1) + 1 := by
                  have : ¬ (dep l i > dep l (i - 1) + 1) := hle
                  omega
                refine ⟨fun _ => hle', ?_⟩
                split at hk
                · split at hk
                  · exact ⟨k, hk⟩
                  · cases hk
                · exact ⟨k, hk⟩
            · rw [if_neg h0] at hk
              exact ⟨fun h => by omega, k, hk⟩
      have hok : okAt l i ∧ ∃ k, boltingref04_Right.l0 k l ((i + 1 : Nat) : Int) = some true := by
        have fin : ∀ b k, (i = 0 → b = false → dep l i = 0) → 0 ≤ dep l i → boltingref04_Right.j1 k l (i : Int) (rd_T34 l (i : Int)).f0 b = some true → okAt l i ∧ ∃ k, boltingref04_Right.l0 k l ((i + 1 : Nat) : Int) = some true := by
          intro b k hb hge hk
          obtain ⟨rfl, h2, h3⟩ := hj b k hk
          refine ⟨⟨hge, ?_, fun h => hb h rfl, h2⟩, h3⟩
          by_cases e : i = 0
          · rw [hb e rfl]; omega
          · have := h2 (by omega)
            have := (hp (by omega)).2.1
            omega
        split at hk
        · split at hk
          · have := (hj _ _ hk).1; cases this
          · rename_i hge
            have hge' : 0 ≤ dep l i := by
              have : ¬ (dep l i < 0) := hge
              omega
            split at hk
            · rename_i h0
              refine fin _ _ (fun _ hb => ?_) hge' hk
              have : ((rd_T34 l (i : Int)).f0 != 0) = false := hb
              simpa [dep] using this
            · rename_i h0
              exact fin _ _ (fun h _ => absurd (by rw [h]; rfl) h0) hge' hk
        · have := (hj _ _ hk).1; cases this
      obtain ⟨hoi, k', hk'⟩ := hok
      by_cases e : j = i
      · rw [e]; exact hoi
      · exact ih (i + 1) (by omega) (fun _ => by simpa using hoi) k' hk' j (by omega) h2
theorem right_true {l : List S34} (hl : l.length ≤ 1000) {k : Nat} (h : boltingref04_Right.f k l = some true) : ∀ j, j < l.length → okAt l j :=
  fun j hj => right_true_l0 l hl l.length 0 (by omega) (fun h => by omega) k h j (Nat.zero_le _) hj
/-! ### ends -/
theorem endN_spec (l : List S34) {i : Nat} (hi : i < l.length) : TEnds (dep l) l.length i (endN l i) := by
  obtain ⟨h1, h2⟩ := endN_le l i hi
  obtain ⟨x, hx⟩ : ∃ x, rd_T34 l (i : Int) = x := ⟨_, rfl⟩
  have hd : dep l i = x.f0 := by unfold dep; rw [hx]
  have he : endN l i = i + 1 + ((l.drop (i + 1)).takeWhile fun y => decide (x.f0 < y.f0)).length := by unfold endN; rw [hx]
  have key : ∀ (m : List S34) (p : S34 → Bool) (j : Nat), j < (m.takeWhile p).length → ∃ y, m[j]? = some y ∧ p y = true := by
    intro m p
    induction m with
    | nil => intro j hj; simp at hj
    | cons a m ih =>
      intro j hj
      rw [List.takeWhile_cons] at hj
      by_cases ha : p a = true
      · rw [if_pos ha] at hj
        cases j with
        | zero => exact ⟨a, rfl, ha⟩
        | succ j =>
          obtain ⟨y, hy, hp⟩ := ih j (by simpa using hj)
          exact ⟨y, by simpa using hy, hp⟩
      · rw [if_neg ha] at hj; simp at hj
  have key2 : ∀ (m : List S34) (p : S34 → Bool) (y : S34), m[(m.takeWhile p).length]? = some y → p y = false := by
    intro m
    induction m with
    | nil => intro p y h; simp at h
    | cons a m ih =>
      intro p y h
      rw [List.takeWhile_cons] at h
      by_cases ha : p a = true
      · rw [if_pos ha] at h
        exact ih p y (by simpa using h)
      · rw [if_neg ha] at h
        simp at h
        rw [← h]; simpa using ha
  refine ⟨by omega, h2, fun z a b => ?_, ?_⟩
  · obtain ⟨y, hy, hp⟩ := key (l.drop (i + 1)) (fun y => decide (x.f0 < y.f0)) (z - (i + 1)) (by rw [he] at b; omega)
    rw [List.getElem?_drop, show i + 1 + (z - (i + 1)) = z by omega] at hy
    rw [hd]
    unfold dep
    rw [t37_at hy]
    simpa using hp
  · by_cases e : endN l i = l.length
    · exact .inl e
    · right
      have hlt : endN l i < l.length := by omega
      obtain ⟨y, hy⟩ := get_some hlt
      have hp := key2 (l.drop (i + 1)) (fun y => decide (x.f0 < y.f0)) y (by rw [List.getElem?_drop, ← he]; exact hy)
      rw [hd]
      unfold dep
      rw [t37_at hy]
      have : ¬ (x.f0 < y.f0) := by simpa using hp
      omega
/-! ### texts -/
def textAt (l : List S34) (m : Nat) : List UInt8 := datas ((l.take (endN l m)).drop m)
theorem ptext_f (l : List S34) (i : Nat) (hi : i < l.length) (hl : l.length ≤ 1000000) (hd : (datas l).length ≤ 140737488355328) : rows_Text.f l (i : Int) = some (mkS (textAt l i)) := by
  unfold rows_Text.f
  rw [if_pos ⟨by omega, by omega, hl, hd⟩, Int.toNat_natCast]
  rfl

def tagT : ByteArray := ⟨#[116, 101, 109, 112, 108, 97, 116, 101]⟩
/-- Row j is a template. -/
def isT (l : List S34) (j : Nat) : Prop := (rd_T34 l (j : Int)).f1 = 0 ∧ (rd_T34 l (j : Int)).f2 = tagT
/-! ### an attribute's value -/
def valueO (ats : List S39) (nm : ByteArray) : Option ByteArray := (ats.find? fun a => decide (a.f0 = nm)).map (·.f1)
def valueR (o : Option ByteArray) : ByteArray × Bool := (o.getD ⟨#[]⟩, o.isSome)
theorem pvalue_l0 (ats : List S39) (hl : ats.length ≤ 1000) (nm : ByteArray) (d j : Nat) : j + d = ats.length → ∀ k, d < k → run_value.l0 k nm ats (ats.length : Int) (j : Int) = some (valueR (valueO (ats.drop j) nm)) := by
  induction d generalizing j with
  | zero =>
    intro h k hk
    obtain ⟨k, rfl⟩ : ∃ m, k = m + 1 := ⟨k - 1, by omega⟩
    simp only [run_value.l0]
    rw [if_neg (by omega), List.drop_of_length_le (by omega)]
    rfl
  | succ d ih =>
    intro h k hk
    obtain ⟨k, rfl⟩ : ∃ m, k = m + 1 := ⟨k - 1, by omega⟩
    obtain ⟨a, ha⟩ := get_some (show j < ats.length by omega)
    simp only [run_value.l0]
    rw [if_pos (by omega), if_pos (by omega), if_pos (by omega), t30_at ha, drop_at ha]
    by_cases e : a.f0 = nm
    · rw [if_pos (by rw [e])]
      simp [valueO, List.find?_cons, e, valueR]
    · rw [if_neg (fun h => e (dat_inj (by rw [← toList_dat, ← toList_dat]; exact h))), wrap_succ (by omega) (by omega)]
      have := ih (j + 1) (by omega) k (by omega)
      rw [show ((j + 1 : Nat) : Int) = (j : Int) + 1 by omega] at this
      rw [this]
      simp [valueO, List.find?_cons, e]
theorem pvalue_f (x : S34) (hl : x.f4.length ≤ 1000) (hx : x.f1 = 0) (nm : ByteArray) {k : Nat} (hk : 1001 < k) : run_value.f k x.f0 x.f1 x.f2 x.f3 x.f4 nm = some (valueR (valueO x.f4 nm)) := by
  unfold run_value.f
  rw [if_pos hx]
  have := pvalue_l0 x.f4 hl nm x.f4.length 0 (by omega) k (by omega)
  rw [List.drop_zero] at this
  exact this
/-! ### scripts -/
def tagSrc : ByteArray := ⟨#[115, 114, 99]⟩
/-- What row m gives, if it is a script that runs. -/
def gives (l : List S34) (m : Nat) : List S30 :=
  match valueO (rd_T34 l (m : Int)).f4 tagSrc with
  | some v => [⟨m, 3, v⟩]
  | none => if textAt l m = [] then [] else [⟨m, 2, mkS (textAt l m)⟩]
theorem gives_len (l : List S34) (m : Nat) : (gives l m).length ≤ 1 := by
  unfold gives
  split
  · simp
  · split <;> simp
open Classical in
noncomputable def scr (l : List S34) (m : Nat) : List S30 := if isS (rd_T34 l (m : Int)) = true ∧ ¬ Marked (isT l) (dep l) m then gives l m else []
theorem scr_len (l : List S34) (m : Nat) : (scr l m).length ≤ 1 := by
  unfold scr
  split
  · exact gives_len l m
  · simp
noncomputable def scrs (l : List S34) (i d : Nat) : List S30 := (List.range' i d).flatMap (scr l)
theorem scrs_zero (l : List S34) (i : Nat) : scrs l i 0 = [] := rfl
theorem scrs_succ (l : List S34) (i d : Nat) : scrs l i (d + 1) = scr l i ++ scrs l (i + 1) d := by
  unfold scrs
  rw [List.range'_succ, List.flatMap_cons]
theorem scrs_add (l : List S34) (i d e : Nat) : scrs l i (d + e) = scrs l i d ++ scrs l (i + d) e := by
  induction d generalizing i with
  | zero => rw [Nat.zero_add, scrs_zero, List.nil_append, Nat.add_zero]
  | succ d ih => rw [show d + 1 + e = d + e + 1 by omega, scrs_succ, scrs_succ, ih, List.append_assoc, show i + 1 + d = i + (d + 1) by omega]
theorem mem_scrs (l : List S34) (i d : Nat) : (scrs l i d).length ≤ d := by
  induction d generalizing i with
  | zero => simp [scrs_zero]
  | succ d ih =>
    rw [scrs_succ, List.length_append]
    have := scr_len l i
    have := ih (i + 1)
    omega
theorem not_nil {t : List UInt8} : (mkS t).toList = ([] : List UInt8) ↔ t = [] := by rw [mkS_toList]
theorem pend_f (l : List S34) (hl : l.length ≤ 1000) (i : Nat) (hi : i < l.length) {k : Nat} (hk : 1001 < k) : rows_End.f k l (i : Int) = some (endN l i : Int) := Go.Proofs.Ytakhldahohooiaa.end_f l i hi (by omega) (by omega)
theorem scrs_marked {l : List S34} {i e d : Nat} (h : ∀ m, i ≤ m → m < i + d → Marked (isT l) (dep l) m) : scrs l i d = [] := by
  induction d generalizing i with
  | zero => rfl
  | succ d ih =>
    rw [scrs_succ, ih (fun m a b => h m (by omega) (by omega))]
    unfold scr
    rw [if_neg (fun e => e.2 (h i (Nat.le_refl _) (by omega)))]
    rfl
theorem pscripts_l0 (l : List S34) (hl : l.length ≤ 1000) (ha : ∀ x ∈ l, x.f4.length ≤ 1000) (hd : (datas l).length ≤ 140737488355328) :
    ∀ (n d i : Nat) (acc : List S30), d ≤ n → i + d = l.length → (i < l.length → Free (isT l) (dep l) i) → acc.length ≤ i → ∀ k, n + 3000 < k → run_Scripts.l0 k l acc (i : Int) = some (acc ++ scrs l i d) := by
  intro n
  induction n with
  | zero =>
    intro d i acc hn h hF hacc k hk
    obtain rfl : d = 0 := by omega
    obtain ⟨k, rfl⟩ : ∃ m, k = m + 1 := ⟨k - 1, by omega⟩
    simp only [run_Scripts.l0]
    rw [if_neg (by omega), scrs_zero, List.append_nil]
  | succ n ih =>
    intro d i acc hn h hF hacc k hk
    obtain ⟨k, rfl⟩ : ∃ m, k = m + 1 := ⟨k - 1, by omega⟩
    by_cases hi : i < l.length
    · obtain ⟨d, rfl⟩ : ∃ m, d = m + 1 := ⟨d - 1, by omega⟩
      obtain ⟨x, hx⟩ := get_some hi
      have hrd : rd_T34 l (i : Int) = x := t37_at hx
      have hsx : isS (rd_T34 l (i : Int)) = isS x := by rw [hrd]
      have hw : wrap64 ((i : Int) + 1) = ((i + 1 : Nat) : Int) := by rw [wrap_succ (by omega) (by omega)]; omega
      simp only [run_Scripts.l0]
      rw [if_pos (by omega), if_pos (by omega), hrd, is_f x, is_f x]
      simp only [Option.bind_some]
      by_cases hT : x.f1 = 0 ∧ x.f2 = tagT
      · have hiT : isT l i := by unfold isT; rw [hrd]; exact hT
        have he := endN_spec l hi
        have hb : (decide (x.f1 = 0) && decide (x.f2 = (⟨#[116, 101, 109, 112, 108, 97, 116, 101]⟩ : ByteArray))) = true := by
          rw [hT.1, hT.2]; rfl
        rw [if_pos hb, pend_f l hl i hi (by omega)]
        simp only [Option.bind_some]
        have hlt := he.lt
        have hle := he.le
        have hsplit : d + 1 = (endN l i - i) + (l.length - endN l i) := by omega
        have hFe : endN l i < l.length → Free (isT l) (dep l) (endN l i) := fun c => free_end (hF hi) he c
        rw [ih (l.length - endN l i) (endN l i) acc (by omega) (by omega) hFe (by omega) k (by omega), hsplit, scrs_add, scrs_marked (e := endN l i) (fun m a b => marked_in he hiT a (by omega)), List.nil_append, show i + (endN l i - i) = endN l i by omega]
      · have hniT : ¬ isT l i := by unfold isT; rw [hrd]; exact hT
        have hb : (decide (x.f1 = 0) && decide (x.f2 = (⟨#[116, 101, 109, 112, 108, 97, 116, 101]⟩ : ByteArray))) = false := by
          rw [Bool.and_eq_false_iff, decide_eq_false_iff_not, decide_eq_false_iff_not]
          by_cases c : x.f1 = 0
          · exact .inr (fun e => hT ⟨c, e⟩)
          · exact .inl c
        have hM := free_not (hF hi) hniT
        have ihn := fun acc' (ha' : acc'.length ≤ i + 1) => ih d (i + 1) acc' (by omega) (by omega) (fun _ => free_next (hF hi) hniT) ha' k (by omega)
        rw [if_neg (by rw [hb]; simp), hw]
        have eS : (decide (x.f1 = 0) && decide (x.f2 = (⟨#[115, 99, 114, 105, 112, 116]⟩ : ByteArray))) = isS x := rfl
        rw [eS]
        cases hS : isS x with
        | false =>
          rw [if_neg (by simp), ihn acc (by omega), scrs_succ]
          unfold scr
          rw [if_neg (fun e => by have := e.1; rw [hsx, hS] at this; cases this), List.nil_append]
        | true =>
          have h1 : x.f1 = 0 := by simp [isS] at hS; exact hS.1
          have hsc : scr l i = gives l i := by unfold scr; rw [if_pos ⟨by rw [hsx]; exact hS, hM⟩]
          have hg : gives l i = match valueO x.f4 tagSrc with
            | some v => [⟨i, 3, v⟩]
            | none => if textAt l i = [] then [] else [⟨i, 2, mkS (textAt l i)⟩] := by unfold gives; rw [hrd]
          have hacc2 : acc.length < 4398046511104 := by omega
          rw [if_pos rfl, ptext_f l i hi (by omega) hd, pvalue_f x (ha x (List.mem_of_getElem? hx)) h1 _ (by omega)]
          simp only [Option.bind_some]
          rw [show (⟨#[115, 114, 99]⟩ : ByteArray) = tagSrc from rfl, scrs_succ, hsc, hg]
          cases hv : valueO x.f4 tagSrc with
          | some v =>
            rw [if_pos (by rfl), if_pos trivial, if_pos hacc2, ihn _ (by rw [List.length_append]; simp; omega), List.append_assoc]
            rfl
          | none =>
            rw [if_neg (by simp [valueR]), if_neg (by decide)]
            by_cases ht : textAt l i = []
            · rw [if_pos (not_nil.2 ht), ihn acc (by omega)]
              simp [ht]
            · rw [if_neg (fun e => ht (not_nil.1 e)), if_pos hacc2, ihn _ (by rw [List.length_append]; simp; omega), List.append_assoc]
              simp [ht]
    · obtain rfl : d = 0 := by omega
      simp only [run_Scripts.l0]
      rw [if_neg (by omega), scrs_zero, List.append_nil]
theorem pscripts_f (l : List S34) (hl : l.length ≤ 1000) (ha : ∀ x ∈ l, x.f4.length ≤ 1000) (hd : (datas l).length ≤ 140737488355328) {k : Nat} (hk : 5000 < k) : run_Scripts.f k l = some (scrs l 0 l.length) :=
  pscripts_l0 l hl ha hd l.length l.length 0 [] (Nat.le_refl _) (by omega) (fun _ => free_zero _ _) (by simp) k (by omega)
end Go.Proofs.Ytakhldahohooiaa.Pure
namespace Go.Proofs.Ytakhldahohooiaa.Pr
open Go.RowKit Go.Proofs.YtakhldahohooiaaW.PrintWords Go.Proofs.YtakhldahohooiaaW.PrintLast Go.Proofs.YtakhldahohooiaaW.PrintMore
attribute [local go_sem] max2_int min2_int max_two min_two max_three min_three max_four min_four   -- for this text's walks alone
set_option linter.unusedVariables false
set_option linter.unusedSimpArgs false

/-! ### boltingref19_Nothing: function 14 -/
mutual
def boltingref19_Nothing.l0 : Nat → List (S34) → Int → Option (Bool)
  | 0, _, _ => none
  | k + 1, x0, x3 => if x3 < (x0.length : Int) then (if 0 ≤ x3 then ((boltingref19_Follow.f k ((rd_T34 x0 x3).f0) ((rd_T34 x0 x3).f1) ((rd_T34 x0 x3).f2) ((rd_T34 x0 x3).f3) ((rd_T34 x0 x3).f4)).bind fun bt285 => (if bt285.2 = true then (boltingref19_Nothing.j1 k x0 x3 true) else (if ((rd_T34 x0 x3).f1) = 0 then (boltingref19_Nothing.j1 k x0 x3 (((rd_T34 x0 x3).f2).toList == ([115, 99, 114, 105, 112, 116] : List UInt8))) else (boltingref19_Nothing.j1 k x0 x3 false)))) else (none)) else (some true)
def boltingref19_Nothing.j1 : Nat → List (S34) → Int → Bool → Option (Bool)
  | 0, _, _, _ => none
  | k + 1, x0, x3, x37 => if x37 = true then (some false) else (boltingref19_Nothing.l1 k x0 x3 0)
def boltingref19_Nothing.l1 : Nat → List (S34) → Int → Int → Option (Bool)
  | 0, _, _, _ => none
  | k + 1, x0, x3, x6 => if 0 ≤ x3 then (if x3 < (x0.length : Int) then (if x6 < (((rd_T34 x0 x3).f4).length : Int) then (boltingref19_Nothing.j3 k x0 x3 x6 (((rd_T34 x0 x3).f1) == 0)) else (boltingref19_Nothing.j3 k x0 x3 x6 false)) else (none)) else (none)
def boltingref19_Nothing.j3 : Nat → List (S34) → Int → Int → Bool → Option (Bool)
  | 0, _, _, _, _ => none
  | k + 1, x0, x3, x6, x53 => if x53 = true then (if 0 ≤ x3 then (if x3 < (x0.length : Int) then (if 0 ≤ x6 then (if x6 < (((rd_T34 x0 x3).f4).length : Int) then ((boltingref10_Handler.f ((rd_T39 ((rd_T34 x0 x3).f4) x6).f0)).bind fun t293 => (if t293 = true then (some false) else (boltingref19_Nothing.l1 k x0 x3 (wrap64 (x6 + 1))))) else (none)) else (none)) else (none)) else (none)) else (boltingref19_Nothing.l0 k x0 (wrap64 (x3 + 1)))
end
def boltingref19_Nothing.f (k : Nat) (l0 : List (S34)) : Option (Bool) := boltingref19_Nothing.l0 k l0 0
end Go.Proofs.Ytakhldahohooiaa.Pr
/- What rows weigh, and what the bound of the second form says of their texts; run.Follow and run.Nothing of the reference. Plain Lean. -/
namespace Go.Proofs.Ytakhldahohooiaa.Pure
set_option linter.unusedVariables false
set_option linter.unusedSimpArgs false
open Go.RowKit Go.Proofs.Ytakhldahohooiaa.Pr Go.Proofs.Ytakhldahohooiaa.Tree Go.Proofs.YtakhldahohooiaaW.PrintWords Go.Proofs.YtakhldahohooiaaW.PrintLast Go.Proofs.YtakhldahohooiaaW.PrintMore

def wA (y : S39) : Nat := (wS y.f0 + wS y.f1) + 1
def wR (x : S34) : Nat := (wN x.f0 + (wN x.f1 + (wS x.f2 + (wS x.f3 + wL wA x.f4)))) + 1
theorem wL_mem {α : Type} (B : α → Nat) {l : List α} {x : α} (h : x ∈ l) : B x ≤ wL B l := by
  unfold wL
  induction l with
  | nil => simp at h
  | cons a l ih =>
    rw [List.map_cons, List.sum_cons]
    rcases List.mem_cons.1 h with rfl | h
    · omega
    · have := ih h; omega
theorem wR_parts {x : S34} {n : Nat} (h : wR x ≤ n) : x.f2.size ≤ n ∧ x.f3.size ≤ n ∧ ∀ y ∈ x.f4, y.f0.size ≤ n ∧ y.f1.size ≤ n := by
  unfold wR at h
  have h2 : wS x.f2 = x.f2.size + 1 := rfl
  have h3 : wS x.f3 = x.f3.size + 1 := rfl
  refine ⟨by omega, by omega, fun y hy => ?_⟩
  have h4 := wL_mem wA hy
  have h5 : wA y = (y.f0.size + 1 + (y.f1.size + 1)) + 1 := rfl
  omega
theorem datas_w (l : List S34) : (datas l).length ≤ (l.map wR).sum := by
  induction l with
  | nil => simp [datas]
  | cons x l ih =>
    have e : datas (x :: l) = (if x.f1 = 1 then x.f3.data.toList else []) ++ datas l := by
      unfold datas
      rw [List.filter_cons]
      by_cases h : x.f1 = 1
      · rw [if_pos (by rw [decide_eq_true_eq]; exact h), if_pos h, List.flatMap_cons]
      · rw [if_neg (by rw [decide_eq_true_eq]; exact h), if_neg h, List.nil_append]
    rw [e, List.length_append, List.map_cons, List.sum_cons]
    have h3 : wS x.f3 = x.f3.size + 1 := rfl
    have h4 : x.f3.data.toList.length = x.f3.size := dat_len x.f3
    have h5 : wS x.f3 ≤ wR x := by unfold wR; omega
    split
    · omega
    · simp; omega
theorem datas_cut (l : List S34) : datas (l.map cut8) = datas l := by
  unfold datas
  rw [List.filter_map, List.flatMap_map]
  rfl
theorem datas_bnd (l : List S34) : (datas (bnd40 l)).length ≤ (datas l).length := by
  unfold bnd40
  rw [datas_cut]
  have := datas_len (l := l) 40 0
  rwa [List.drop_zero] at this

/-! ### the same sources -/
theorem t30s_at {l : List S30} {i : Nat} {x : S30} (h : l[i]? = some x) : rd_T30 l (i : Int) = x := by
  unfold rd_T30
  rw [Int.toNat_natCast, List.getD_eq_getElem?_getD, h]
  rfl
/-! ### is a row right: it ends -/
theorem row_l1 (ats : List S39) (hl : ats.length ≤ 8) (f0 f1 : Int) (f2 f3 : ByteArray) (i B : Nat) (hi : i < ats.length)
    (hB : ∀ k, B ≤ k → ∃ b, boltingref04_Row.l0 k ((i + 1 : Nat) : Int) f0 f1 f2 f3 ats = some b) (d j : Nat) : j + d = i → ∀ k, B + d + 1 ≤ k → ∃ b, boltingref04_Row.l1 k (i : Int) (j : Int) f0 f1 f2 f3 ats = some b := by
  induction d generalizing j with
  | zero =>
    intro h k hk
    obtain ⟨k, rfl⟩ : ∃ m, k = m + 1 := ⟨k - 1, by omega⟩
    simp only [boltingref04_Row.l1]
    rw [if_neg (by omega), wrap_succ (by omega) (by omega)]
    exact hB k (by omega)
  | succ d ih =>
    intro h k hk
    obtain ⟨k, rfl⟩ : ∃ m, k = m + 1 := ⟨k - 1, by omega⟩
    simp only [boltingref04_Row.l1]
    rw [if_pos (by omega), if_pos (by omega), if_pos (by omega), if_pos (by omega), if_pos (by omega), wrap_succ (by omega) (by omega)]
    split
    · exact ⟨_, rfl⟩
    · exact ih (j + 1) (by omega) k (by omega)
theorem row_l0 (ats : List S39) (hl : ats.length ≤ 8) (f0 f1 : Int) (f2 f3 : ByteArray) (d i : Nat) : i + d = ats.length → ∀ k, d * 12 + 1 ≤ k → ∃ b, boltingref04_Row.l0 k (i : Int) f0 f1 f2 f3 ats = some b := by
  induction d generalizing i with
  | zero =>
    intro h k hk
    obtain ⟨k, rfl⟩ : ∃ m, k = m + 1 := ⟨k - 1, by omega⟩
    simp only [boltingref04_Row.l0]
    rw [if_neg (by omega)]
    split
    · split <;> exact ⟨_, rfl⟩
    · exact ⟨_, rfl⟩
  | succ d ih =>
    intro h k hk
    obtain ⟨k, rfl⟩ : ∃ m, k = m + 1 := ⟨k - 1, by omega⟩
    simp only [boltingref04_Row.l0]
    rw [if_pos (by omega)]
    exact row_l1 ats hl f0 f1 f2 f3 i (d * 12 + 1) (by omega) (fun k hk => ih (i + 1) (by omega) k hk) i 0 (by omega) k (by omega)
theorem row_f (x : S34) (hl : x.f4.length ≤ 8) {k : Nat} (hk : 120 ≤ k) : ∃ b, boltingref04_Row.f k x.f0 x.f1 x.f2 x.f3 x.f4 = some b := by
  obtain ⟨k, rfl⟩ : ∃ m, k = m + 1 := ⟨k - 1, by omega⟩
  have hj : ∀ b, ∃ r, boltingref04_Row.j0 (k + 1) b x.f0 x.f1 x.f2 x.f3 x.f4 = some r := fun b => by
    simp only [boltingref04_Row.j0]
    cases b with
    | true => rw [if_pos rfl]; split <;> exact ⟨_, rfl⟩
    | false => rw [if_neg (by simp)]; exact row_l0 x.f4 hl x.f0 x.f1 x.f2 x.f3 x.f4.length 0 (by omega) k (by omega)
  unfold boltingref04_Row.f
  split
  · exact hj _
  · exact hj _
theorem right_l0 (l : List S34) (hl : l.length ≤ 40) (ha : ∀ x ∈ l, x.f4.length ≤ 8) (d i : Nat) : i + d = l.length → ∀ k, 2 * d + 200 ≤ k → ∃ b, boltingref04_Right.l0 k l (i : Int) = some b := by
  induction d generalizing i with
  | zero =>
    intro h k hk
    obtain ⟨k, rfl⟩ : ∃ m, k = m + 1 := ⟨k - 1, by omega⟩
    simp only [boltingref04_Right.l0]
    rw [if_neg (by omega)]
    exact ⟨_, rfl⟩
  | succ d ih =>
    intro h k hk
    obtain ⟨k, rfl⟩ : ∃ m, k = m + 2 := ⟨k - 2, by omega⟩
    obtain ⟨x, hx⟩ := get_some (show i < l.length by omega)
    have hj : ∀ y b, ∃ r, boltingref04_Right.j1 (k + 1) l (i : Int) y b = some r := fun y b => by
      have := ih (i + 1) (by omega) k (by omega)
      have hw : wrap64 ((i : Int) + 1) = ((i + 1 : Nat) : Int) := by rw [wrap_succ (by omega) (by omega)]; omega
      simp only [boltingref04_Right.j1]
      rw [hw]
      cases b with
      | true => rw [if_pos rfl]; exact ⟨_, rfl⟩
      | false =>
        rw [if_neg (by simp)]
        by_cases h0 : (i : Int) > 0
        · rw [if_pos h0, wrap_id (i := (i : Int) - 1) (by omega) (by omega), if_pos (by omega), if_pos (by omega)]
          split
          · exact ⟨_, rfl⟩
          · split
            · split
              · exact this
              · exact ⟨_, rfl⟩
            · exact this
        · rw [if_neg h0]; exact this
    obtain ⟨b, hb⟩ := row_f x (ha x (List.mem_of_getElem? hx)) (k := k + 1) (by omega)
    simp only [boltingref04_Right.l0]
    rw [if_pos (by omega), if_pos (by omega), t37_at hx, hb]
    simp only [Option.bind_some]
    split
    · split
      · exact hj _ _
      · split
        · exact hj _ _
        · exact hj _ _
    · exact hj _ _
theorem right_some (l : List S34) (hl : l.length ≤ 40) (ha : ∀ x ∈ l, x.f4.length ≤ 8) {k : Nat} (hk : 300 ≤ k) : ∃ b, boltingref04_Right.f k l = some b :=
  right_l0 l hl ha l.length 0 (by omega) k (by omega)

end Go.Proofs.Ytakhldahohooiaa.Pure
/- RunTemplates: trees within a template run no scripts; beside it they run as they are alone. Plain Lean. -/
namespace Go.Proofs.Ytakhldahohooiaa.Pure
set_option linter.unusedVariables false
set_option linter.unusedSimpArgs false
open Go.RowKit Go.Proofs.Ytakhldahohooiaa.Pr Go.Proofs.Ytakhldahohooiaa.Tree Go.Proofs.YtakhldahohooiaaW.PrintWords Go.Proofs.YtakhldahohooiaaW.PrintLast Go.Proofs.YtakhldahohooiaaW.PrintMore

/-! ### rows so much deeper -/
def mv (b : Int) (x : S34) : S34 := ⟨x.f0 + b, x.f1, x.f2, x.f3, x.f4⟩
theorem moved_l0 (l : List S34) (b : Int) (hl : l.length ≤ 1000) (ha : ∀ x ∈ l, x.f4.length ≤ 1000) (hb : ∀ x ∈ l, wrap64 (x.f0 + b) = x.f0 + b) (d i : Nat) : i + d = l.length → ∀ k, d < k → boltingref04_Moved.l0 k l b ((l.take i).map (mv b)) (i : Int) = some (l.map (mv b)) := by
  induction d generalizing i with
  | zero =>
    intro h k hk
    obtain ⟨k, rfl⟩ : ∃ m, k = m + 1 := ⟨k - 1, by omega⟩
    simp only [boltingref04_Moved.l0]
    rw [if_neg (by omega), List.take_of_length_le (by omega)]
  | succ d ih =>
    intro h k hk
    obtain ⟨k, rfl⟩ : ∃ m, k = m + 1 := ⟨k - 1, by omega⟩
    obtain ⟨x, hx⟩ := get_some (show i < l.length by omega)
    have hm := List.mem_of_getElem? hx
    have h1 := ha x hm
    simp only [boltingref04_Moved.l0]
    rw [if_pos (by omega), if_pos (by omega), t37_at hx]
    simp only [Option.bind_some]
    rw [if_pos (by simp; omega), if_pos (by rw [List.length_map, List.length_take]; omega), hb x hm, wrap_succ (by omega) (by omega), List.nil_append]
    have := ih (i + 1) (by omega) k (by omega)
    rw [List.take_add_one, hx] at this
    simp only [Option.toList_some, List.map_append, List.map_cons, List.map_nil] at this
    exact this
theorem moved_f (l : List S34) (b : Int) (hl : l.length ≤ 1000) (ha : ∀ x ∈ l, x.f4.length ≤ 1000) (hb : ∀ x ∈ l, wrap64 (x.f0 + b) = x.f0 + b) {k : Nat} (hk : 1000 < k) : boltingref04_Moved.f k l b = some (l.map (mv b)) :=
  moved_l0 l b hl ha hb l.length 0 (by omega) k (by omega)
theorem mv_zero (l : List S34) : l.map (mv 0) = l := by
  conv => rhs; rw [← List.map_id l]
  refine List.map_congr_left (fun x _ => ?_)
  show mv 0 x = x
  unfold mv
  rw [Int.add_zero]
theorem join_f (a b : List S34) (hla : a.length ≤ 1000) (hlb : b.length ≤ 1000) (haa : ∀ x ∈ a, x.f4.length ≤ 1000) (hab : ∀ x ∈ b, x.f4.length ≤ 1000) (hda : ∀ x ∈ a, wrap64 x.f0 = x.f0) (hdb : ∀ x ∈ b, wrap64 x.f0 = x.f0) {k : Nat} (hk : 1000 < k) : boltingref04_Join.f k a b = some (a ++ b) := by
  unfold boltingref04_Join.f
  rw [moved_f a 0 hla haa (fun x hx => by rw [Int.add_zero]; exact hda x hx) hk, moved_f b 0 hlb hab (fun x hx => by rw [Int.add_zero]; exact hdb x hx) hk, mv_zero, mv_zero]
  simp only [Option.bind_some]
  rw [if_pos (by omega)]

/-! ### a template with trees, and the trees beside it -/
def tplR : S34 := ⟨0, 0, tagT, ⟨#[]⟩, []⟩
def tpl (l : List S34) : List S34 := tplR :: l.map (mv 1)
theorem tpl_len (l : List S34) : (tpl l).length = l.length + 1 := by simp [tpl]
theorem dep_get {l : List S34} {j : Nat} {x : S34} (h : l[j]? = some x) : dep l j = x.f0 := by unfold dep; rw [t37_at h]
theorem both_low (l r : List S34) {j : Nat} (h : j < l.length) : rd_T34 (l ++ r) (j : Int) = rd_T34 l (j : Int) := by
  unfold rd_T34
  rw [Int.toNat_natCast, List.getD_eq_getElem?_getD, List.getD_eq_getElem?_getD, List.getElem?_append_left h]
theorem both_high (l r : List S34) (j : Nat) : rd_T34 (l ++ r) ((l.length + j : Nat) : Int) = rd_T34 r (j : Int) := by
  unfold rd_T34
  rw [Int.toNat_natCast, Int.toNat_natCast, List.getD_eq_getElem?_getD, List.getD_eq_getElem?_getD, List.getElem?_append_right (by omega), show l.length + j - l.length = j by omega]
theorem dep_low (l r : List S34) {j : Nat} (h : j < l.length) : dep (l ++ r) j = dep l j := by unfold dep; rw [both_low l r h]
theorem dep_high (l r : List S34) (j : Nat) : dep (l ++ r) (l.length + j) = dep r j := by unfold dep; rw [both_high l r j]
theorem tpl_dep0 (l : List S34) : dep (tpl l) 0 = 0 := rfl
theorem tpl_depS {l : List S34} (hok : ∀ j, j < l.length → okAt l j) {j : Nat} (h : j < l.length) : 1 ≤ dep (tpl l) (j + 1) := by
  obtain ⟨x, hx⟩ := get_some h
  have e : (tpl l)[j + 1]? = some (mv 1 x) := by simp [tpl, hx]
  rw [dep_get e]
  have := (hok j h).1
  rw [dep_get hx] at this
  show 1 ≤ x.f0 + 1
  omega
theorem tpl_marked {l : List S34} (hok : ∀ j, j < l.length → okAt l j) (r : List S34) {m : Nat} (h : m < l.length + 1) : Marked (isT (tpl l ++ r)) (dep (tpl l ++ r)) m := by
  refine ⟨0, ?_, Nat.zero_le _, fun x h1 h2 => ?_⟩
  · unfold isT
    rw [both_low (tpl l) r (by rw [tpl_len]; omega)]
    exact ⟨rfl, rfl⟩
  · rw [dep_low _ _ (by rw [tpl_len]; omega), dep_low _ _ (by rw [tpl_len]; omega), tpl_dep0]
    obtain ⟨y, rfl⟩ : ∃ y, x = y + 1 := ⟨x - 1, by omega⟩
    have := tpl_depS hok (j := y) (by omega)
    omega
theorem high_marked (a l : List S34) (hok : ∀ j, j < l.length → okAt l j) (hpos : ∀ j, j < a.length → 0 ≤ dep a j) {m : Nat} (h : m < l.length) : Marked (isT (a ++ l)) (dep (a ++ l)) (a.length + m) ↔ Marked (isT l) (dep l) m := by
  constructor
  · rintro ⟨j, h1, h2⟩
    have h3 := h2.1
    by_cases c : a.length ≤ j
    · obtain ⟨i, rfl⟩ : ∃ i, j = a.length + i := ⟨j - a.length, by omega⟩
      refine ⟨i, ?_, by omega, fun x p q => ?_⟩
      · unfold isT at h1 ⊢; rw [both_high] at h1; exact h1
      · have := h2.2 (a.length + x) (by omega) (by omega)
        rw [dep_high, dep_high] at this
        exact this
    · exfalso
      have h4 := h2.2 (a.length + 0) (by omega) (by omega)
      rw [dep_high, dep_low a l (by omega)] at h4
      have h5 := hpos j (by omega)
      have h6 := (hok 0 (by omega)).2.2.1 rfl
      omega
  · rintro ⟨j, h1, h2⟩
    refine ⟨a.length + j, ?_, by have := h2.1; omega, fun x p q => ?_⟩
    · unfold isT at h1 ⊢; rw [both_high]; exact h1
    · obtain ⟨i, rfl⟩ : ∃ i, x = a.length + i := ⟨x - a.length, by omega⟩
      rw [dep_high, dep_high]
      exact h2.2 i (by omega) (by omega)
theorem high_end (a l : List S34) (m : Nat) : endN (a ++ l) (a.length + m) = a.length + endN l m := by
  unfold endN
  rw [both_high, List.drop_append, List.drop_of_length_le (show a.length ≤ a.length + m + 1 by omega), List.nil_append, show a.length + m + 1 - a.length = m + 1 by omega]
  omega
theorem high_text (a l : List S34) (m : Nat) : textAt (a ++ l) (a.length + m) = textAt l m := by
  unfold textAt
  rw [high_end, List.take_append, List.take_of_length_le (show a.length ≤ a.length + endN l m by omega), List.drop_append, List.drop_of_length_le (show a.length ≤ a.length + m by omega), List.nil_append, show a.length + endN l m - a.length = endN l m by omega, show a.length + m - a.length = m by omega]
def sh (n : Nat) (s : S30) : S30 := ⟨s.f0 + n, s.f1, s.f2⟩
theorem high_gives (a l : List S34) (m : Nat) : gives (a ++ l) (a.length + m) = (gives l m).map (sh a.length) := by
  unfold gives
  rw [both_high, high_text]
  cases valueO (rd_T34 l (m : Int)).f4 tagSrc with
  | some v => simp [sh]; omega
  | none =>
    simp only
    split
    · rfl
    · simp [sh]; omega
open Classical in
theorem high_scr (a l : List S34) (hok : ∀ j, j < l.length → okAt l j) (hpos : ∀ j, j < a.length → 0 ≤ dep a j) {m : Nat} (h : m < l.length) : scr (a ++ l) (a.length + m) = (scr l m).map (sh a.length) := by
  unfold scr
  rw [both_high, high_gives]
  have hM := high_marked a l hok hpos h
  by_cases c : isS (rd_T34 l (m : Int)) = true ∧ ¬ Marked (isT l) (dep l) m
  · rw [if_pos c, if_pos ⟨c.1, fun e => c.2 (hM.1 e)⟩]
  · rw [if_neg c, if_neg (fun e => c ⟨e.1, fun z => e.2 (hM.2 z)⟩)]
    rfl
theorem high_scrs (a l : List S34) (hok : ∀ j, j < l.length → okAt l j) (hpos : ∀ j, j < a.length → 0 ≤ dep a j) (d m : Nat) (h : m + d ≤ l.length) : scrs (a ++ l) (a.length + m) d = (scrs l m d).map (sh a.length) := by
  induction d generalizing m with
  | zero => rfl
  | succ d ih => rw [scrs_succ, scrs_succ, high_scr a l hok hpos (by omega), show a.length + m + 1 = a.length + (m + 1) by omega, ih (m + 1) (by omega), List.map_append]
theorem scr_f0 (l : List S34) (m : Nat) : ∀ s ∈ scr l m, s.f0 = (m : Int) := by
  intro s hs
  unfold scr at hs
  split at hs
  · unfold gives at hs
    split at hs
    · simp at hs; rw [hs]
    · split at hs
      · simp at hs
      · simp at hs; rw [hs]
  · simp at hs
theorem scrs_f0 (l : List S34) (d : Nat) : ∀ m, ∀ s ∈ scrs l m d, 0 ≤ s.f0 ∧ s.f0 < ((m + d : Nat) : Int) := by
  induction d with
  | zero => intro m s hs; simp [scrs_zero] at hs
  | succ d ih =>
    intro m s hs
    rw [scrs_succ] at hs
    rcases List.mem_append.1 hs with h | h
    · rw [scr_f0 l m s h]; omega
    · have := ih (m + 1) s h; omega
theorem loop_l0 (l t : List S34) (s : List S30) (n : Nat) (hn : t.length = n) (hn1 : n ≤ 1000) (hs : s.length ≤ 1000) (hf : ∀ x ∈ s, 0 ≤ x.f0 ∧ x.f0 < 1000) (K : Nat)
    (hK : ∀ k, K ≤ k → boltinglaw19_RunTemplates.l0 k l t s (s.map (sh n)) (s.length : Int) = some true) (d i : Nat) : i + d = s.length → ∀ k, K + d ≤ k → boltinglaw19_RunTemplates.l0 k l t s (s.map (sh n)) (i : Int) = some true := by
  induction d generalizing i with
  | zero =>
    intro h k hk
    rw [show i = s.length by omega]
    exact hK k (by omega)
  | succ d ih =>
    intro h k hk
    obtain ⟨k, rfl⟩ : ∃ m, k = m + 1 := ⟨k - 1, by omega⟩
    obtain ⟨x, hx⟩ := get_some (show i < s.length by omega)
    have hx2 : (s.map (sh n))[i]? = some (sh n x) := by rw [List.getElem?_map, hx]; rfl
    have hb := hf x (List.mem_of_getElem? hx)
    simp only [boltinglaw19_RunTemplates.l0]
    rw [if_pos (by omega), if_pos (by omega), if_pos (by rw [List.length_map]; omega), t30s_at hx, t30s_at hx2, hn, wrap_id (by omega) (by omega)]
    simp only [sh]
    rw [if_pos trivial, if_pos trivial, if_pos trivial, wrap_succ (by omega) (by omega)]
    exact ih (i + 1) (by omega) k (by omega)
theorem quiet_tpl (l : List S34) : (tpl l).all quietB = l.all quietB := by
  unfold tpl
  rw [List.all_cons, show quietB tplR = true by decide, Bool.true_and, List.all_map]
  rfl
theorem datas_app' (a b : List S34) : (datas (a ++ b)).length = (datas a).length + (datas b).length := by rw [Go.Proofs.Ytakhldahohooiaa.datas_app, List.length_append]
theorem datas_mv (b : Int) (l : List S34) : datas (l.map (mv b)) = datas l := by
  unfold datas
  rw [List.filter_map, List.flatMap_map]
  rfl
theorem datas_tpl (l : List S34) : datas (tpl l) = datas l := by
  have : tpl l = [tplR] ++ l.map (mv 1) := rfl
  rw [this, Go.Proofs.Ytakhldahohooiaa.datas_app, datas_mv]
  rfl
theorem RunTemplates (l0 : List S34)
    (hS : ∀ x ∈ l0, (Lit.int .i64 x.f0).wf = true ∧ (Lit.int .i64 x.f1).wf = true ∧ yes x.f2 ∧ yes x.f3 ∧ ∀ y ∈ x.f4, yes y.f0 ∧ yes y.f1)
    (hl : l0.length ≤ 9223372036854775807) (hU : wL wR l0 + 0 ≤ 1048576) : ∃ k, boltinglaw19_RunTemplates.f k l0 = some true := by
  obtain ⟨k, hk⟩ : ∃ k, 10000000 ≤ k := ⟨_, Nat.le_refl _⟩
  refine ⟨k, ?_⟩
  unfold boltinglaw19_RunTemplates.f
  rw [bound_f l0 hl (by omega)]
  simp only [Option.bind_some]
  have hlen := bnd_len l0
  have hp : ∀ x ∈ l0, x.f2.size ≤ 1048576 ∧ x.f3.size ≤ 1048576 ∧ ∀ y ∈ x.f4, y.f0.size ≤ 1048576 ∧ y.f1.size ≤ 1048576 := fun x hx => wR_parts (by have := wL_mem wR hx; omega)
  have hs : ∀ x ∈ bnd40 l0, ∀ y ∈ x.f4, y.f0.size ≤ 1048576 ∧ y.f1.size ≤ 1048576 := fun x hx => by
    obtain ⟨y, hy, rfl⟩ := bnd_mem hx
    exact fun z hz => (hp y hy).2.2 z (List.mem_of_mem_take hz)
  have ha8 : ∀ x ∈ bnd40 l0, x.f4.length ≤ 8 := fun x hx => by
    obtain ⟨y, hy, rfl⟩ := bnd_mem hx
    exact cut8_len y
  have hd : (datas (bnd40 l0)).length ≤ 1048576 := by
    have h1 := datas_bnd l0
    have h2 := datas_w l0
    unfold wL at hU
    omega
  obtain ⟨l, hL⟩ : ∃ l, bnd40 l0 = l := ⟨_, rfl⟩
  rw [hL] at hlen hs ha8 hd ⊢
  have ha : ∀ x ∈ l, x.f4.length ≤ 1000 := fun x hx => by have := ha8 x hx; omega
  cases hR : boltingref04_Right.f k l with
  | none =>
    exfalso
    obtain ⟨b, hb⟩ := right_some l hlen ha8 (k := k) (by omega)
    rw [hR] at hb; cases hb
  | some b =>
    simp only [Option.bind_some]
    cases b with
    | false => rw [if_neg (by simp), fixed_f (by omega)]; rfl
    | true =>
      rw [if_pos rfl]
      have hok := right_true (by omega) hR
      have hdep : ∀ x ∈ l, 0 ≤ x.f0 ∧ x.f0 ≤ 1000 := fun x hx => by
        obtain ⟨j, hj⟩ := List.mem_iff_getElem?.1 hx
        have hjl := (List.getElem?_eq_some_iff.1 hj).1
        have := hok j hjl
        have h1 := this.1
        have h2 := this.2.1
        rw [dep_get hj] at h1 h2
        omega
      have hm1 : ∀ x ∈ l.map (mv 1), 0 ≤ x.f0 ∧ x.f0 ≤ 1001 ∧ x.f4.length ≤ 1000 ∧ ∀ y ∈ x.f4, y.f0.size ≤ 1048576 ∧ y.f1.size ≤ 1048576 := fun x hx => by
        obtain ⟨y, hy, rfl⟩ := List.mem_map.1 hx
        have := hdep y hy
        exact ⟨by show 0 ≤ y.f0 + 1; omega, by show y.f0 + 1 ≤ 1001; omega, ha y hy, hs y hy⟩
      have ht : ∀ x ∈ tpl l, 0 ≤ x.f0 ∧ x.f0 ≤ 1001 ∧ x.f4.length ≤ 1000 ∧ ∀ y ∈ x.f4, y.f0.size ≤ 1048576 ∧ y.f1.size ≤ 1048576 := fun x hx => by
        rcases List.mem_cons.1 hx with rfl | hx
        · exact ⟨by decide, by decide, by decide, fun y hy => by simp [tplR] at hy⟩
        · exact hm1 x hx
      have hu : ∀ x ∈ tpl l ++ l, x.f4.length ≤ 1000 ∧ ∀ y ∈ x.f4, y.f0.size ≤ 1048576 ∧ y.f1.size ≤ 1048576 := fun x hx => by
        rcases List.mem_append.1 hx with hx | hx
        · exact (ht x hx).2.2
        · exact ⟨ha x hx, hs x hx⟩
      have htl := tpl_len l
      have hul : (tpl l ++ l).length ≤ 1000 := by rw [List.length_append, htl]; omega
      have hpos : ∀ j, j < (tpl l).length → 0 ≤ dep (tpl l) j := fun j hj => by
        obtain ⟨x, hx⟩ := get_some hj
        rw [dep_get hx]
        exact (ht x (List.mem_of_getElem? hx)).1
      have wr : ∀ x : Int, 0 ≤ x → x ≤ 2000 → wrap64 x = x := fun x h1 h2 => wrap_id (by omega) (by omega)
      rw [moved_f l 1 (by omega) ha (fun x hx => by have := hdep x hx; exact wr _ (by omega) (by omega)) (by omega)]
      simp only [Option.bind_some]
      have e1 : boltingref04_Join.f k ([⟨0, 0, ⟨#[116, 101, 109, 112, 108, 97, 116, 101]⟩, ⟨#[]⟩, []⟩] : List S34) (l.map (mv 1)) = some (tpl l) :=
        join_f [tplR] (l.map (mv 1)) (by simp) (by rw [List.length_map]; omega) (fun x hx => by rw [List.mem_singleton.1 hx]; decide) (fun x hx => (hm1 x hx).2.2.1) (fun x hx => by rw [List.mem_singleton.1 hx]; exact wr 0 (by omega) (by omega)) (fun x hx => by have := hm1 x hx; exact wr _ (by omega) (by omega)) (by omega)
      have e2 : ∀ k, 1000 < k → boltingref04_Join.f k (tpl l) l = some (tpl l ++ l) := fun k hk => join_f _ _ (by omega) (by omega) (fun x hx => (ht x hx).2.2.1) ha (fun x hx => by have := ht x hx; exact wr _ (by omega) (by omega)) (fun x hx => by have := hdep x hx; exact wr _ (by omega) (by omega)) hk
      rw [e1]
      simp only [Option.bind_some]
      rw [e2 k (by omega), pscripts_f l (by omega) ha (by omega) (by omega), pscripts_f (tpl l) (by omega) (fun x hx => (ht x hx).2.2.1) (by rw [datas_tpl]; omega) (by omega)]
      simp only [Option.bind_some]
      rw [pscripts_f (tpl l ++ l) hul (fun x hx => (hu x hx).1) (by rw [datas_app', datas_tpl]; omega) (by omega)]
      simp only [Option.bind_some]
      have z1 : scrs (tpl l) 0 (tpl l).length = [] := scrs_marked (e := 0) (fun m _ h => by
        have := tpl_marked hok [] (m := m) (by omega)
        rw [List.append_nil] at this
        exact this)
      have z2 : scrs (tpl l ++ l) 0 (tpl l ++ l).length = (scrs l 0 l.length).map (sh (tpl l).length) := by
        rw [List.length_append, scrs_add, scrs_marked (e := 0) (fun m _ h => tpl_marked hok l (m := m) (by omega)), List.nil_append, show 0 + (tpl l).length = (tpl l).length + 0 by omega]
        exact high_scrs (tpl l) l hok hpos l.length 0 (by omega)
      rw [z1, z2, if_pos (by simp)]
      obtain ⟨k, rfl⟩ : ∃ m, k = m + 1 := ⟨k - 1, by omega⟩
      simp only [boltinglaw19_RunTemplates.j0]
      rw [if_neg (by simp)]
      have hsl : (scrs l 0 l.length).length ≤ 1000 := by have := mem_scrs l 0 l.length; omega
      refine loop_l0 l (tpl l) (scrs l 0 l.length) (tpl l).length rfl (by omega) hsl (fun x hx => by have := scrs_f0 l l.length 0 x hx; omega) 2000000 (fun k hk => ?_) _ 0 (Nat.zero_add _) k (by omega)
      obtain ⟨k, rfl⟩ : ∃ m, k = m + 1 := ⟨k - 1, by omega⟩
      simp only [boltinglaw19_RunTemplates.l0]
      rw [if_neg (by omega), e2 k (by omega)]
      simp only [Option.bind_some]
      rw [nothing_f (tpl l ++ l) hul (fun x hx y hy => by have := ((hu x hx).2 y hy).2; omega) (fun x hx y hy => by have := ((hu x hx).2 y hy).1; omega) (fun x hx => (hu x hx).1) (by omega), nothing_f l (by omega) (fun x hx y hy => by have := (hs x hx y hy).2; omega) (fun x hx y hy => by have := (hs x hx y hy).1; omega) ha (by omega), List.all_append, quiet_tpl]
      simp only [Option.bind_some]
      rw [if_pos (by simp), fixed_f (by omega)]
      rfl
end Go.Proofs.Ytakhldahohooiaa.Pure
/- The row of RunTemplates. -/
namespace Go.Proofs.Ytakhldahohooiaa.runTemplates
open Go.ChangeShapes Go.WideShapes Go.ChangeAt Go.RowKit
open Go.ChangeMaps (open_string shut_string)
set_option linter.unusedVariables false
set_option linter.unusedSimpArgs false
theorem own : ownKnob Try.prog.godebug = none := by kernel_rfl
theorem laidOut : laidOutB Try.prog = true := by kernel_rfl
set_option maxRecDepth 100000 in
theorem lifted (os : Os) (started : os.Started) (H : Type) (enc : TypeId × Value → H) (F : Stop.Interp) :
    ReturnsInHanded {} Try.checked os 4 .any ((Rows.OpenSpec.upto Rows.runTemplatesSpec).pre6 enc Try.prog Try.f4 Rows.runTemplatesUptoRow.domain false) (((Rows.OpenSpec.upto Rows.runTemplatesSpec).at F).post enc Try.prog Try.f4 false true false false) := by
  refine returnsInHanded_of_cond_sized (C := Try.checked) (s := Rows.OpenSpec.upto Rows.runTemplatesSpec) (k := Rows.uptoSmall) rfl own started (by kernel_rfl) Try.func4
    (OpenSpec.witness (enc := enc) (C := Try.checked) (s := Rows.OpenSpec.upto Rows.runTemplatesSpec) (k := Rows.uptoSmall) rfl false ⟨#[], #[.slice none 0 0], []⟩ 8 (by kernel_rfl) (by kernel_rfl) (by kernel_rfl)
      (x := ([.nil], [], [])) (by kernel_rfl) rfl (by kernel_rfl)) ?_
  intro W base args ds gs before hval0 hW hcnd hkk hsz0 _
  have hsz : (DataW.weightsEach Try.prog (Try.f4.params.toList ++ Rows.runTemplatesSpec.plain.varTypes Try.prog) (ds ++ gs)).all (· ≤ reachBytes) = true := hsz0
  have hval : ∀ (j : Nat) t v, Try.f4.params[j]? = some t → args[j]? = some v → Value.okWide Try.prog W .any base t v := hval0
  have hW' := hW
  obtain ⟨p, q, hA0, hV, rfl, hfz, hnd⟩ := hW
  have hA : DataW.TrodAll enc Try.prog W 0 (fun _ => true) true Try.f4.params.toList args.toList ds p := hA0
  rw [Try.params4] at hA hval hsz
  obtain ⟨v0, vs0, d0, ds0, p0, q0, hargs, rfl, rfl, h0, r0⟩ := trodAll_cons hA
  obtain ⟨rfl, rfl, rfl⟩ := trodAll_nil r0
  obtain rfl : args = #[v0] := by cases args; simp_all
  obtain ⟨rfl, rfl⟩ := trodVars_none hV
  have k0 := h0
  have lt0 : ∀ x ∈ p0, x.block < W.heap.size := by obtain ⟨m, hm⟩ := k0; exact DataW.trod_lt m _ _ _ hm
  obtain ⟨sa0, sn0, sc0, rfl⟩ := okWide_slice Try.underlying22 (hval 0 22 v0 rfl rfl)
  obtain ⟨fu0, hf0⟩ := h0
  obtain ⟨A0, c0, l0, hv0, hc0, hm0, hr0, hS0, hU0⟩ := opensU_row Try.underlying22 (opensU_struct (fun x : Pr.S34 => (x.f0, x.f1, x.f2, x.f3, x.f4)) Try.underlying34 rfl (by kernel_rfl) (opensTailU_cons rfl (opensU_int (by kernel_rfl) Try.underlying3) (opensTailU_cons rfl (opensU_int (by kernel_rfl) Try.underlying3) (opensTailU_cons rfl (opensU_string (by kernel_rfl) Try.underlying9) (opensTailU_cons rfl (opensU_string (by kernel_rfl) Try.underlying9) (opensTailU_last rfl (opensU_slice (by kernel_rfl) Try.underlying32 (opensU_struct (fun x : Pr.S39 => (x.f0, x.f1)) Try.underlying39 rfl (by kernel_rfl) (opensTailU_cons rfl (opensU_string (by kernel_rfl) Try.underlying9) (opensTailU_last rfl (opensU_string (by kernel_rfl) Try.underlying9))) (fun a => ⟨⟨a.1, a.2⟩, rfl⟩)))))))) (fun a => ⟨⟨a.1, a.2.1, a.2.2.1, a.2.2.2.1, a.2.2.2.2⟩, rfl⟩)) hf0
  obtain ⟨rfl, rfl, rfl⟩ : sa0 = A0 ∧ sn0 = l0.length ∧ sc0 = c0 := by simpa [Value.cells] using hv0
  clear hA0 hval0 hsz0 hsz
  have hU : Rows.uptoBulkAll (_ ++ _) ≤ 1048576 := of_decide_eq_true hkk
  simp only [List.append_nil, List.nil_append, List.cons_append, Rows.uptoBulkAll] at hU
  obtain ⟨k, hk⟩ := Pure.RunTemplates l0 hS0 (Nat.le_trans hc0 (Nat.le_trans hm0 (by decide))) (Nat.le_trans (Nat.add_le_add hU0 (Nat.le_refl 0)) hU)
  refine (Pr.boltinglaw19_RunTemplates.calls k sa0 sc0 l0 true W hr0 hc0 hk).mono fun e W' ⟨he, bel0⟩ => ?_
  have bel : Below W.heap.size W W' := by first | exact bel0 | exact below_of_drawn0 bel0
  subst he
  exact ⟨_, rfl, _, _, _, [], _, [], hW', trodAll_mk1 (shut_bool Try.underlying4 _), (trodAll_cons_mk (Below.trod laidOut (by kernel_rfl) (of_decide_eq_true (by kernel_rfl)) k0 bel lt0) trodAll_mk0), rfl, bel.frame _, fun h => by cases h⟩
theorem over : Rows.runTemplatesUptoRow.holds Try.pinned (Rows.OpenSpec.upto Rows.runTemplatesSpec) :=
  OpenClaim.holds_of_cond 4 Try.f4 rfl rfl rfl rfl rfl rfl rfl ⟨rfl, rfl, rfl, rfl, rfl⟩ rfl rfl rfl rfl rfl (by kernel_rfl) Try.func4 (by kernel_rfl)
    (of_decide_eq_true (by kernel_rfl)) (by unfold Func.isWrapper; first | (rw [if_pos (by decide +kernel)]; kernel_rfl) | (rw [if_neg (by decide +kernel)]; exact ⟨rfl, rfl⟩))
    (fun os started H enc _ F => lifted os started H enc F)
theorem proved : Rows.RunTemplatesUptoSaid := over
#print axioms proved
end Go.Proofs.Ytakhldahohooiaa.runTemplates
namespace Go.Proofs.Ytakhldahohooiaa
/-- The row, under a short name, for the claim. -/
theorem runTemplates_holds : Rows.RunTemplatesUptoSaid := runTemplates.proved
end Go.Proofs.Ytakhldahohooiaa
