import Derived.Test.YtjofofpplpmgjaaJConfigCanon4
import Derived.Test.YtjofofpplpmgjaaJConfigCanon5
import Derived.Test.YtjofofpplpmgjaaRows
import Derived.Test.YtjofofpplpmgjaaJConfigCanon1
import Derived.WalkKit
import Derived.ProofKit
import Derived.OpenShut
import Derived.ShutString
import Derived.ChangeOld
import Derived.Below
import Derived.SizedLaws
namespace Go.Proofs.Ytjofofpplpmgjaa
set_option linter.unusedVariables false
set_option linter.unusedSimpArgs false
open Go.RowKit Go.Lib Go.Sort Go.Proofs.Ytjofofpplpmgjaa.Pr Go.Proofs.Ytjofofpplpmgjaa.Pure Go.Proofs.YtjofofpplpmgjaaW.PrintWords Go.Proofs.YtjofofpplpmgjaaW.PrintLast
theorem eq_of_iff {a b : Bool} (h : a = true ↔ b = true) : a = b := by
  cases a <;> cases b <;> simp_all
theorem sortL_mem (l : List ByteArray) (x : ByteArray) : x ∈ sortL l ↔ x ∈ l := by
  rw [← mem_iff]
  unfold sortL
  rw [mem_SS, decide_eq_true_eq, sorted_mem, List.mem_map]
  constructor
  · rintro ⟨y, hy, he⟩
    rw [← dat_inj he]
    exact hy
  · intro h
    exact ⟨x, h, rfl⟩
theorem mem_sortL (l : List ByteArray) (x : ByteArray) : mem (sortL l) x = mem l x := eq_of_iff (by rw [mem_iff, mem_iff, sortL_mem])
theorem canon_elem (c : Cf) (e : ByteArray) : elemI (canonC c) e = elemI c e := by
  show (if mem (sortL c.rep) e = true then (2 : Int) else if (mem (sortL c.els) e != c.al) = true then 1 else 0) = _
  rw [mem_sortL, mem_sortL]
  rfl
theorem sortL_sorted (l : List ByteArray) : sortL (sortL l) = sortL l := by
  unfold sortL
  rw [SS_dat, sorted_of_up (sorted_up _)]
theorem sortL_len (l : List ByteArray) : (sortL l).length ≤ l.length := by
  unfold sortL
  rw [SS_len]
  have := sorted_len_le (l.map dat)
  rw [List.length_map] at this
  exact this
theorem sortL_dup (l : List ByteArray) : dupB (sortL l) = false := by
  rw [dup_nodup]
  unfold sortL
  rw [SS_dat]
  exact up_nodup (sorted_up _)
theorem cmp_lt : ∀ a b : List UInt8, decide (Lib.compareBytes a b < 0) = decide (a < b)
  | [], [] => by simp [Lib.compareBytes]
  | [], _ :: _ => by simp [Lib.compareBytes]
  | _ :: _, [] => by simp [Lib.compareBytes]
  | x :: a, y :: b => by
    have ih := cmp_lt a b
    unfold Lib.compareBytes
    rw [show decide (x :: a < y :: b) = decide (x < y ∨ x = y ∧ a < b) from decide_eq_decide.2 List.cons_lt_cons_iff]
    by_cases h : x < y
    · rw [if_pos h]; simp [h]
    · rw [if_neg h]
      by_cases g : y < x
      · rw [if_pos g]
        have hne : x ≠ y := fun e => by subst e; exact h g
        simp [h, hne]
      · rw [if_neg g]
        have he : x = y := UInt8.le_antisymm (UInt8.not_lt.1 g) (UInt8.not_lt.1 h)
        subst he
        rw [ih]
        simp [h]
theorem ltP_eq (x y : S35) : ltP x y = ltStr (dat x.f0) (dat y.f0) := cmp_lt _ _
theorem swo_ltP : SWO ltP where
  irrefl x := by rw [ltP_eq]; exact swo_ltStr.irrefl _
  trans x y z h1 h2 := by rw [ltP_eq] at *; exact swo_ltStr.trans _ _ _ h1 h2
  ntrans x y z h1 h2 := by rw [ltP_eq] at *; exact swo_ltStr.ntrans _ _ _ h1 h2
theorem sortP_perm (l : List S35) : (sortP l).Perm l := by
  have h := (insertionSort_holds (lt := ltP) swo_ltP l.toArray 0 l.length (Nat.zero_le _) (by simp)).1
  have h1 := h.2.2
  have hs : (insertionSort ltP l.toArray 0 l.length).size = l.length := by rw [h.1]; simp
  have e1 : (insertionSort ltP l.toArray 0 l.length).extract 0 l.length = insertionSort ltP l.toArray 0 l.length := by
    generalize insertionSort ltP l.toArray 0 l.length = d at hs
    rw [← hs]; exact Array.extract_size
  have e2 : l.toArray.extract 0 l.length = l.toArray := by
    simp
  rw [e1, e2] at h1
  exact h1
theorem outer_id {d : Array S35} (h : ∀ i, 1 ≤ i → i < d.size → ltP d[i]! d[i - 1]! = false) : ∀ (m i : Nat), d.size - i = m → 1 ≤ i → insOuter ltP 0 d.size i d = d := by
  intro m
  induction m with
  | zero => intro i hm h1; exact insOuter_stop _ _ _ _ _ (by omega)
  | succ m ih =>
    intro i hm h1
    rw [insOuter_go _ _ _ _ _ (by omega), insInner_stop ltP 0 i d (.inr (h i h1 (by omega)))]
    exact ih (i + 1) (by omega) (by omega)
theorem sortP_sortP (l : List S35) : sortP (sortP l) = sortP l := by
  have h := insertionSort_holds (lt := ltP) swo_ltP l.toArray 0 l.length (Nat.zero_le _) (by simp)
  obtain ⟨d, hd⟩ : ∃ d, insertionSort ltP l.toArray 0 l.length = d := ⟨_, rfl⟩
  rw [hd] at h
  have hs : d.size = l.length := by rw [h.1.1]; simp
  unfold sortP
  rw [hd]
  have hl : d.toList.length = d.size := by simp
  rw [hl]
  show (insOuter ltP 0 d.size 1 d).toList = d.toList
  rw [outer_id (fun i h1 h2 => h.2 (i - 1) i (Nat.zero_le _) (by omega) (by omega)) _ 1 rfl (Nat.le_refl _)]
theorem mem_sortP (l : List S35) (p : S35) : p ∈ sortP l ↔ p ∈ l := (sortP_perm l).mem_iff
theorem mem_perL (l : List S35) (p : S35) : p ∈ perL l ↔ ∃ q ∈ l, 0 < q.f1.length ∧ p = ⟨q.f0, sortL q.f1⟩ := by
  unfold perL
  rw [List.mem_map]
  constructor
  · rintro ⟨q, hq, rfl⟩
    rw [List.mem_filter, decide_eq_true_eq] at hq
    exact ⟨q, hq.1, hq.2, rfl⟩
  · rintro ⟨q, hq, h0, rfl⟩
    exact ⟨q, by rw [List.mem_filter, decide_eq_true_eq]; exact ⟨hq, h0⟩, rfl⟩
theorem perL_id : ∀ (l : List S35), (∀ p ∈ l, 0 < p.f1.length ∧ sortL p.f1 = p.f1) → perL l = l
  | [], _ => rfl
  | p :: l, h => by
    rw [perL_cons, if_pos (h p (by simp)).1, (h p (by simp)).2, perL_id l (fun q hq => h q (by simp [hq]))]
    rfl
theorem sortL_pos {l : List ByteArray} (h : 0 < l.length) : 0 < (sortL l).length := by
  obtain ⟨x, hx⟩ := List.exists_mem_of_length_pos h
  exact List.length_pos_of_mem ((sortL_mem l x).2 hx)
theorem canon_canon (c : Cf) : canonC (canonC c) = canonC c := by
  have h : perL (sortP (perL c.per)) = sortP (perL c.per) := perL_id _ (fun p hp => by
    rw [mem_sortP, mem_perL] at hp
    obtain ⟨q, _, h0, rfl⟩ := hp
    exact ⟨sortL_pos h0, sortL_sorted _⟩)
  show Cf.mk c.al c.aal (sortL (sortL c.els)) (sortL (sortL c.rep)) (sortL (sortL c.ats)) (sortP (perL (sortP (perL c.per)))) c.com c.dt = _
  rw [h, sortL_sorted, sortL_sorted, sortL_sorted, sortP_sortP]
  rfl
theorem perB_sort (e a : ByteArray) (q : S35) : perB e a ⟨q.f0, sortL q.f1⟩ = perB e a q := by
  unfold perB
  rw [mem_sortL]
theorem any_canon (c : Cf) (e a : ByteArray) : (sortP (perL c.per)).any (perB e a) = c.per.any (perB e a) := by
  apply eq_of_iff
  rw [List.any_eq_true, List.any_eq_true]
  constructor
  · rintro ⟨p, hp, hb⟩
    rw [mem_sortP, mem_perL] at hp
    obtain ⟨q, hq, _, rfl⟩ := hp
    exact ⟨q, hq, by rw [← perB_sort]; exact hb⟩
  · rintro ⟨q, hq, hb⟩
    have hm : a ∈ q.f1 := by
      unfold perB at hb
      rw [Bool.and_eq_true] at hb
      exact (mem_iff _ _).1 hb.2
    refine ⟨⟨q.f0, sortL q.f1⟩, ?_, by rw [perB_sort]; exact hb⟩
    rw [mem_sortP, mem_perL]
    exact ⟨q, hq, List.length_pos_of_mem hm, rfl⟩
theorem canon_attr (c : Cf) (e a : ByteArray) : attrB (canonC c) e a = attrB c e a := by
  unfold attrB namedB
  show (if c.aal = true then (mem (sortL c.ats) a || (sortP (perL c.per)).any (perB e a) || (c.dt && dataB a)) else !(mem (sortL c.ats) a || (sortP (perL c.per)).any (perB e a))) = _
  rw [mem_sortL, any_canon]
theorem per_len (l : List S35) : (sortP (perL l)).length ≤ l.length := by
  rw [(sortP_perm _).length_eq]
  unfold perL
  rw [List.length_map]
  exact List.length_filter_le _ _
theorem canon_fit {c : Cf} (hf : Fit c) : Fit (canonC c) := by
  refine ⟨Nat.le_trans (sortL_len _) hf.els, Nat.le_trans (sortL_len _) hf.rep, Nat.le_trans (sortL_len _) hf.ats, Nat.le_trans (per_len _) hf.per, fun p hp => ?_⟩
  obtain ⟨q, hq, _, rfl⟩ := (mem_perL _ _).1 ((mem_sortP _ _).1 (show p ∈ sortP (perL c.per) from hp))
  exact Nat.le_trans (sortL_len _) (hf.sub q hq)
theorem canon_sized {c : Cf} (hz : Sized c) : Sized (canonC c) := by
  refine ⟨fun x hx => hz.els x ((sortL_mem _ _).1 hx), fun x hx => hz.rep x ((sortL_mem _ _).1 hx), fun x hx => hz.ats x ((sortL_mem _ _).1 hx), fun p hp => ?_⟩
  obtain ⟨q, hq, _, rfl⟩ := (mem_perL _ _).1 ((mem_sortP _ _).1 (show p ∈ sortP (perL c.per) from hp))
  exact ⟨(hz.per q hq).1, fun x hx => (hz.per q hq).2 x ((sortL_mem _ _).1 hx)⟩
theorem text_sized' {c : Cf} (hz : Sized c) : Text c := by
  have lim : ∀ x : ByteArray, Short x → x.size ≤ 4000000000000000000 := fun x h => Nat.le_trans h (by decide)
  constructor
  · intro l hl x hx
    simp only [rowsE, List.mem_cons, List.not_mem_nil, or_false] at hl
    rcases hl with rfl | rfl | rfl
    · exact lim x (hz.els x hx)
    · exact lim x (hz.rep x hx)
    · obtain ⟨p, hp, rfl⟩ := List.mem_map.1 hx
      exact lim _ (hz.per p hp).1
  · intro l hl x hx
    simp only [rowsA, List.mem_cons, List.mem_map] at hl
    rcases hl with rfl | ⟨p, hp, rfl⟩
    · exact lim x (hz.ats x hx)
    · exact lim x ((hz.per p hp).2 x hx)
theorem sized_bound' {c : Cf} (hz : Sized c) : Sized (bound c) := by
  refine ⟨fun x hx => hz.els x (List.mem_of_mem_take hx), fun x hx => hz.rep x (List.mem_of_mem_take hx), fun x hx => hz.ats x (List.mem_of_mem_take hx), fun p hp => ?_⟩
  obtain ⟨q, hq, rfl⟩ := List.mem_map.1 (show p ∈ (c.per.take 12).map cutP from hp)
  have := hz.per q (List.mem_of_mem_take hq)
  exact ⟨this.1, fun x hx => this.2 x (List.mem_of_mem_take hx)⟩
theorem fin0' {a b c d : Bool} : finI a b c d = 0 ↔ a = false ∧ b = true ∧ c = true ∧ d = false := by
  unfold finI
  cases a <;> cases b <;> cases c <;> cases d <;> simp
theorem long_sort {l : List ByteArray} (h : longB l = false) : longB (sortL l) = false := by
  unfold longB at h ⊢
  have := of_decide_eq_false h
  have := sortL_len l
  exact decide_eq_false (by omega)
theorem may_sort {f : Bool} {l : List ByteArray} (h : allMay f l = true) : allMay f (sortL l) = true :=
  List.all_eq_true.2 (fun x hx => List.all_eq_true.1 h x ((sortL_mem _ _).1 hx))
theorem meet_sort (a b : List ByteArray) : meetB (sortL a) (sortL b) = meetB a b := by
  apply eq_of_iff
  unfold meetB
  rw [List.any_eq_true, List.any_eq_true]
  constructor
  · rintro ⟨x, hx, h⟩
    exact ⟨x, (sortL_mem _ _).1 hx, by rw [← mem_sortL]; exact h⟩
  · rintro ⟨x, hx, h⟩
    exact ⟨x, (sortL_mem _ _).2 hx, by rw [mem_sortL]; exact h⟩
theorem names_sub (l : List S35) : List.Sublist ((perL l).map (·.f0)) (l.map (·.f0)) := by
  unfold perL
  rw [List.map_map]
  exact (List.filter_sublist (l := l)).map (fun p : S35 => p.f0)
theorem canon_check {c : Cf} (h : checkI c = 0) : checkI (canonC c) = 0 := by
  unfold checkI at h ⊢
  rw [fin0'] at h ⊢
  obtain ⟨h1, h2, h3, h4⟩ := h
  simp only [Bool.or_eq_false_iff, Bool.and_eq_true, Bool.not_eq_true'] at h1 h2 h3 h4 ⊢
  obtain ⟨⟨⟨⟨b1, b2⟩, b3⟩, b4⟩, b5⟩ := h1
  obtain ⟨⟨⟨⟨n1, n2⟩, n3⟩, n4⟩, n5⟩ := h2
  obtain ⟨⟨⟨⟨d1, d2⟩, d3⟩, d4⟩, d5⟩ := h3
  obtain ⟨⟨m1, m2⟩, m3⟩ := h4
  have per : ∀ p ∈ (canonC c).per, ∃ q ∈ c.per, 0 < q.f1.length ∧ p = ⟨q.f0, sortL q.f1⟩ := fun p hp => (mem_perL _ _).1 ((mem_sortP _ _).1 (show p ∈ sortP (perL c.per) from hp))
  refine ⟨⟨⟨⟨⟨long_sort b1, long_sort b2⟩, long_sort b3⟩, ?_⟩, ?_⟩, ⟨⟨⟨⟨may_sort n1, may_sort n2⟩, ?_⟩, may_sort n4⟩, ?_⟩, ⟨⟨⟨⟨sortL_dup _, sortL_dup _⟩, ?_⟩, sortL_dup _⟩, ?_⟩, ⟨⟨?_, m2⟩, ?_⟩⟩
  · have := of_decide_eq_false b4
    have := per_len c.per
    exact decide_eq_false (show ¬ 64 < (sortP (perL c.per)).length by omega)
  · rw [← Bool.not_eq_true]
    intro g
    obtain ⟨p, hp, hb⟩ := List.any_eq_true.1 g
    obtain ⟨q, hq, _, rfl⟩ := per p hp
    have : longB q.f1 = false := by
      rw [← Bool.not_eq_true]
      intro g2
      have := List.any_eq_true.2 (⟨q, hq, g2⟩ : ∃ x, x ∈ c.per ∧ longB x.f1 = true)
      rw [b5] at this
      cases this
    rw [long_sort this] at hb
    cases hb
  · unfold allMay namesOf
    apply List.all_eq_true.2
    intro x hx
    obtain ⟨p, hp, rfl⟩ := List.mem_map.1 hx
    obtain ⟨q, hq, _, rfl⟩ := per p hp
    exact List.all_eq_true.1 n3 q.f0 (List.mem_map.2 ⟨q, hq, rfl⟩)
  · apply List.all_eq_true.2
    intro p hp
    obtain ⟨q, hq, _, rfl⟩ := per p hp
    exact may_sort (List.all_eq_true.1 n5 q hq)
  · rw [dup_nodup] at d3 ⊢
    unfold namesOf at d3 ⊢
    show (((sortP (perL c.per)).map (·.f0)).map dat).Nodup
    rw [(((sortP_perm (perL c.per)).map (·.f0)).map dat).nodup_iff]
    exact d3.sublist ((names_sub c.per).map dat)
  · apply List.all_eq_true.2
    intro p hp
    obtain ⟨q, hq, _, rfl⟩ := per p hp
    simp only [sortL_dup]
    rfl
  · show meetB (sortL c.els) (sortL c.rep) = false
    rw [meet_sort]
    exact m1
  · rw [← Bool.not_eq_true]
    intro g
    obtain ⟨p, hp, hb⟩ := List.any_eq_true.1 g
    obtain ⟨q, hq, _, rfl⟩ := per p hp
    have hb' : meetB (sortL q.f1) (sortL c.ats) = true := hb
    rw [meet_sort] at hb'
    have := List.any_eq_true.2 (⟨q, hq, hb'⟩ : ∃ x, x ∈ c.per ∧ meetB x.f1 c.ats = true)
    rw [m3] at this
    cases this
theorem up_at {s : List (List UInt8)} (h : Up s) {i j : Nat} {x y : List UInt8} (hij : i < j) (hx : s[i]? = some x) (hy : s[j]? = some y) : x < y := by
  have hj := (List.getElem?_eq_some_iff.1 hy).1
  have := List.pairwise_iff_getElem.1 h i j (by omega) hj hij
  rw [List.getElem?_eq_getElem (by omega)] at hx
  rw [List.getElem?_eq_getElem hj] at hy
  cases hx; cases hy; exact this
theorem is_l0 {s : List (List UInt8)} (h : Up s) (hs : s.length ≤ 1000000) : ∀ (d i : Nat), i + d = s.length → 1 ≤ i → ∀ k, d < k → boltingref02_Is.l0 k (SS s) (i : Int) = some true
  | 0, i, hi, h1, k, hk => by
    obtain ⟨k, rfl⟩ : ∃ m, k = m + 1 := ⟨k - 1, by omega⟩
    simp only [boltingref02_Is.l0]
    rw [if_neg (by rw [SS_len]; omega)]
  | d + 1, i, hi, h1, k, hk => by
    obtain ⟨k, rfl⟩ : ∃ m, k = m + 1 := ⟨k - 1, by omega⟩
    obtain ⟨i, rfl⟩ : ∃ j, i = j + 1 := ⟨i - 1, by omega⟩
    obtain ⟨x, hx⟩ := get_some (show i < s.length by omega)
    obtain ⟨y, hy⟩ := get_some (show i + 1 < s.length by omega)
    simp only [boltingref02_Is.l0]
    rw [show (((i + 1 : Nat) : Int) - 1) = (i : Int) by omega, wrap_id (by omega) (by omega), if_pos (by rw [SS_len]; omega), if_pos (by omega), if_pos (by rw [SS_len]; omega), if_pos (by omega), SS_at hx, SS_at hy, less_f, wrap_succ (by omega) (by omega)]
    rw [show decide (dat (mkS x) < dat (mkS y)) = true from decide_eq_true (up_at h (Nat.lt_succ_self i) hx hy), if_pos rfl]
    exact is_l0 h hs d (i + 1 + 1) (by omega) (by omega) k (by omega)
theorem is_f {s : List (List UInt8)} (h : Up s) (hs : s.length ≤ 1000000) {k : Nat} (hk : s.length < k) : boltingref02_Is.f k (SS s) = some true := by
  unfold boltingref02_Is.f
  cases s with
  | nil =>
    obtain ⟨k, rfl⟩ : ∃ m, k = m + 1 := ⟨k - 1, by omega⟩
    rfl
  | cons x t => exact is_l0 h hs t.length 1 (by simp; omega) (by omega) k (by simp at hk; omega)
theorem is_sortL {l : List ByteArray} (h : l.length ≤ 1000) {k : Nat} (hk : 1000 < k) : boltingref02_Is.f k (sortL l) = some true := by
  have hl := sortL_len l
  unfold sortL at hl ⊢
  rw [SS_len] at hl
  exact is_f (sorted_up _) (by omega) (by omega)
theorem same_k {c : Cf} (hf : Fit c) {k : Nat} (hk : 3000 ≤ k) : boltingref12_Same.f k c.al c.aal c.els c.rep c.ats c.per c.com c.dt c.al c.aal c.els c.rep c.ats c.per c.com c.dt = some true := by
  unfold boltingref12_Same.f
  rw [if_pos rfl]
  exact same_l0 hf c.per.length 0 (by omega) k (by have := hf.per; omega)
theorem canon_k {c : Cf} (hf : Fit c) (hp : c.per.length ≤ 19) : config_Canon.f c.al c.aal c.els c.rep c.ats c.per c.com c.dt = some ((canonC c).al, (canonC c).aal, (canonC c).els, (canonC c).rep, (canonC c).ats, (canonC c).per, (canonC c).com, (canonC c).dt) := if_pos ⟨of_fit hf, hp⟩
theorem canon_law (c : Cf) (hz : Sized c) (e a : ByteArray) : boltinglaw12_ConfigCanon.f 3001 c.al c.aal c.els c.rep c.ats c.per c.com c.dt e a = some true := by
  have hf0 := bound_fit c
  have hz0 := sized_bound' hz
  have hp0 := (bound_short c).2.2.2.1
  have hbd : boltinglaw12_Bound.f 3001 c.al c.aal c.els c.rep c.ats c.per c.com c.dt = some ((bound c).al, (bound c).aal, (bound c).els, (bound c).rep, (bound c).ats, (bound c).per, (bound c).com, (bound c).dt) := bound_f c (by omega)
  obtain ⟨b, hb⟩ : ∃ b, bound c = b := ⟨_, rfl⟩
  rw [hb] at hf0 hz0 hp0 hbd
  obtain ⟨d, hd⟩ : ∃ d, canonC b = d := ⟨_, rfl⟩
  have hfd := canon_fit hf0
  have hzd := canon_sized hz0
  have hpd : (canonC b).per.length ≤ 19 := Nat.le_trans (per_len b.per) (by omega)
  have c0 := canon_k hf0 (by omega)
  have c1 := canon_k hfd hpd
  have e0 := elem_k hf0 e (k := 3001) (by omega)
  have e1 := elem_k hfd e (k := 3001) (by omega)
  have a0 := attr_k hf0 e a
  have a1 := attr_k hfd e a
  have k0 := check_k hf0 (text_sized' hz0)
  have k1 := check_k hfd (text_sized' hzd)
  have sm := same_k hfd (k := 3001) (by omega)
  have i0 : boltingref02_Is.f 3000 (canonC b).els = some true := is_sortL hf0.els (by omega)
  have i1 : boltingref02_Is.f 3000 (canonC b).rep = some true := is_sortL hf0.rep (by omega)
  have i2 : boltingref02_Is.f 3000 (canonC b).ats = some true := is_sortL hf0.ats (by omega)
  have hch : checkI b = 0 → checkI (canonC b) = 0 := canon_check
  rw [canon_elem] at e1
  rw [canon_attr] at a1
  rw [canon_canon] at c1
  rw [hd] at c0 c1 e1 a1 k1 sm i0 i1 i2 hch
  have hfx : boltinglaw12_fixed.f = some true := fixed_k
  unfold boltinglaw12_ConfigCanon.f
  rw [hbd, Option.bind_some]
  show (config_Canon.f b.al b.aal b.els b.rep b.ats b.per b.com b.dt).bind _ = _
  rw [c0, Option.bind_some]
  show (config_Element.f 3001 b.al b.aal b.els b.rep b.ats b.per b.com b.dt e).bind _ = _
  rw [e0, Option.bind_some]
  show (config_Element.f 3001 d.al d.aal d.els d.rep d.ats d.per d.com d.dt e).bind _ = _
  rw [e1, Option.bind_some, if_pos rfl]
  show (config_Attr.f b.al b.aal b.els b.rep b.ats b.per b.com b.dt e a).bind _ = _
  rw [a0, Option.bind_some]
  show (config_Attr.f d.al d.aal d.els d.rep d.ats d.per d.com d.dt e a).bind _ = _
  rw [a1, Option.bind_some, bne_self_eq_false, if_neg (by decide)]
  show (config_Canon.f d.al d.aal d.els d.rep d.ats d.per d.com d.dt).bind _ = _
  rw [c1, Option.bind_some]
  show (boltingref12_Same.f 3001 d.al d.aal d.els d.rep d.ats d.per d.com d.dt d.al d.aal d.els d.rep d.ats d.per d.com d.dt).bind _ = _
  rw [sm, Option.bind_some]
  show boltinglaw12_ConfigCanon.j0 3001 false b.al b.aal b.els b.rep b.ats b.per b.com b.dt d.al d.aal d.els d.rep d.ats d.per d.com d.dt = _
  rw [boltinglaw12_ConfigCanon.j0, if_neg (by decide), k0, Option.bind_some]
  by_cases hc : checkI b = 0
  · rw [if_pos hc, k1, Option.bind_some, if_pos (hch hc), i0, Option.bind_some, if_pos rfl, i1, Option.bind_some, if_pos rfl, i2, Option.bind_some, if_pos rfl, hfx]
    rfl
  · rw [if_neg hc, i0, Option.bind_some, if_pos rfl, i1, Option.bind_some, if_pos rfl, i2, Option.bind_some, if_pos rfl, hfx]
    rfl
theorem Pure.ConfigCanon (c : Cf) (e a : ByteArray) (hz : Sized c) (he : e.size ≤ 140737488351232) (ha : a.size ≤ 140737488351232) : ∃ k, boltinglaw12_ConfigCanon.f k c.al c.aal c.els c.rep c.ats c.per c.com c.dt e a = some true := ⟨3001, canon_law c hz e a⟩
end Go.Proofs.Ytjofofpplpmgjaa
namespace Go.Proofs.Ytjofofpplpmgjaa.configCanon
open Go.ChangeShapes Go.WideShapes Go.ChangeAt Go.RowKit
open Go.ChangeMaps (open_string shut_string)
set_option linter.unusedVariables false
set_option linter.unusedSimpArgs false
theorem own : ownKnob Try.prog.godebug = none := by kernel_rfl
theorem laidOut : laidOutB Try.prog = true := by kernel_rfl
set_option maxRecDepth 100000 in
theorem lifted (os : Os) (started : os.Started) (H : Type) (enc : TypeId × Value → H) :
    ReturnsInHanded {} Try.checked os 9 .any (Rows.configCanonSpec.pre6 enc Try.prog Try.f9 Rows.configCanonRow.domain false) (Rows.configCanonSpec.post enc Try.prog Try.f9 false true false false) := by
  refine returnsInHanded_of_change_sized (C := Try.checked) own started (by kernel_rfl) Try.func9
    (ChangeSpec.witness6 (enc := enc) (C := Try.checked) false ⟨#[], #[.agg #[.bool false, .bool false, .slice none 0 0, .slice none 0 0, .slice none 0 0, .slice none 0 0, .bool false, .bool false], .string ByteArray.empty, .string ByteArray.empty], []⟩ 8 (by kernel_rfl) (by kernel_rfl) (by kernel_rfl) (by kernel_rfl)) ?_
  intro W base args ds gs before hval0 hW hcnd hsz0 _
  have hsz : (DataW.weightsEach Try.prog (Try.f9.params.toList ++ Rows.configCanonSpec.plain.varTypes Try.prog) (ds ++ gs)).all (· ≤ reachBytes) = true := hsz0
  have hval : ∀ (j : Nat) t v, Try.f9.params[j]? = some t → args[j]? = some v → Value.okWide Try.prog W .any base t v := hval0
  have hW' := hW
  obtain ⟨p, q, hA0, hV, rfl, hfz, hnd⟩ := hW
  have hA : DataW.TrodAll enc Try.prog W 0 (fun _ => true) true Try.f9.params.toList args.toList ds p := hA0
  rw [Try.params9] at hA hval hsz
  obtain ⟨v0, vs0, d0, ds0, p0, q0, hargs, rfl, rfl, h0, r0⟩ := trodAll_cons hA
  obtain ⟨v1, vs1, d1, ds1, p1, q1, rfl, rfl, rfl, h1, r1⟩ := trodAll_cons r0
  obtain ⟨v2, vs2, d2, ds2, p2, q2, rfl, rfl, rfl, h2, r2⟩ := trodAll_cons r1
  obtain ⟨rfl, rfl, rfl⟩ := trodAll_nil r2
  obtain rfl : args = #[v0, v1, v2] := by cases args; simp_all
  obtain ⟨rfl, rfl⟩ := trodVars_none hV
  have k0 := h0
  have lt0 : ∀ x ∈ p0, x.block < W.heap.size := by obtain ⟨m, hm⟩ := k0; exact DataW.trod_lt m _ _ _ hm
  obtain ⟨b0, A2_0, c2_0, A3_0, c3_0, A4_0, c4_0, A5_0, c5_0, rfl, ⟨x2_0, g2_0⟩, ⟨x3_0, g3_0⟩, ⟨x4_0, g4_0⟩, ⟨x5_0, g5_0⟩, z_0⟩ := open_conf (hval 0 25 v0 rfl rfl) h0 (fun n hn => by simpa using List.all_eq_true.1 hsz n (DataW.weights_mem_each (j := 0) rfl rfl n hn))
  obtain ⟨a1, rfl, rfl, rfl, y1⟩ := open_string Try.underlying9 (hval 1 9 v1 rfl rfl) h1
  have w1 : a1.size ≤ 140737488351232 := by
    have z := sized_string hsz (j := 1) (t := 9) rfl rfl
    rw [Array.length_toList] at z
    exact z
  obtain ⟨a2, rfl, rfl, rfl, y2⟩ := open_string Try.underlying9 (hval 2 9 v2 rfl rfl) h2
  have w2 : a2.size ≤ 140737488351232 := by
    have z := sized_string hsz (j := 2) (t := 9) rfl rfl
    rw [Array.length_toList] at z
    exact z
  clear hA0 hval0 hsz0 hsz
  obtain ⟨k, hk⟩ := Pure.ConfigCanon b0 a1 a2 z_0 w1 w2
  refine (Pr.boltinglaw12_ConfigCanon.calls k b0.al b0.aal A2_0 c2_0 b0.els A3_0 c3_0 b0.rep A4_0 c4_0 b0.ats A5_0 c5_0 b0.per b0.com b0.dt a1 a2 true W g2_0 x2_0 g3_0 x3_0 g4_0 x4_0 g5_0 x5_0 hk (hT := ⟨rfl⟩)).mono fun e W' ⟨he, bel0⟩ => ?_
  have bel : Below W.heap.size W W' := by first | exact bel0 | exact below_of_drawn0 bel0
  subst he
  exact ⟨_, rfl, _, _, _, [], _, [], hW', trodAll_mk1 (shut_bool Try.underlying4 _), (trodAll_cons_mk (Below.trod laidOut (by kernel_rfl) (of_decide_eq_true (by kernel_rfl)) k0 bel lt0) (trodAll_cons_mk (shut_string Try.underlying9 y1) (trodAll_cons_mk (shut_string Try.underlying9 y2) trodAll_mk0))), rfl, bel.frame _, fun h => by cases h⟩
theorem over : Rows.configCanonRow.holds Try.pinned (OpenSpec.ofChange Rows.configCanonSpec) :=
  OpenClaim.holds_of_wide 9 Try.f9 rfl rfl rfl rfl rfl rfl rfl ⟨rfl, rfl, rfl, rfl, rfl⟩ rfl rfl rfl rfl rfl (by kernel_rfl) Try.func9 (by kernel_rfl)
    (of_decide_eq_true (by kernel_rfl)) (by unfold Func.isWrapper; first | (rw [if_pos (by decide +kernel)]; kernel_rfl) | (rw [if_neg (by decide +kernel)]; exact ⟨rfl, rfl⟩))
    (fun os started H enc _ => lifted os started H enc)
theorem proved : Rows.ConfigCanonSaid := over
#print axioms proved
end Go.Proofs.Ytjofofpplpmgjaa.configCanon
namespace Go.Proofs.Ytjofofpplpmgjaa
theorem configCanon_holds : Rows.ConfigCanonSaid := configCanon.proved
end Go.Proofs.Ytjofofpplpmgjaa
