/- Lists of names in order: plain laws. -/
import Derived.Test.YtmbmjaiggefjmaaFoldWords
namespace Go.Proofs.Ytmbmjaiggefjmaa
set_option linter.unusedVariables false
set_option linter.unusedSimpArgs false
open Go.RowKit Go.Proofs.YtmbmjaiggefjmaaW.PrintWords

theorem toList_inj {a b : ByteArray} (h : a.toList = b.toList) : a = b := by
  rw [Lib.toList_data, Lib.toList_data] at h
  rw [← Lib.mk_data a, h, Lib.mk_data b]
theorem toList_iff (a b : ByteArray) : a.toList = b.toList ↔ a = b := ⟨toList_inj, fun h => h ▸ rfl⟩
/-- A text's bytes. -/
abbrev dat (s : ByteArray) : List UInt8 := s.data.toList
theorem dat_inj {a b : ByteArray} (h : dat a = dat b) : a = b := toList_inj (by rw [Lib.toList_data, Lib.toList_data]; exact h)
theorem lt_irr (a : List UInt8) : ¬ a < a := List.lt_irrefl a
theorem lt_trans' {a b c : List UInt8} (h : a < b) (g : b < c) : a < c := List.lt_trans h g
theorem lt_asym {a b : List UInt8} (h : a < b) : ¬ b < a := fun g => lt_irr a (lt_trans' h g)
theorem le_or (a b : List UInt8) : a < b ∨ a = b ∨ b < a := by
  rcases Classical.em (a < b) with h | h
  · exact .inl h
  · rcases Classical.em (b < a) with g | g
    · exact .inr (.inr g)
    · exact .inr (.inl (List.le_antisymm g h))
/-- A list that rises. -/
def Up (l : List (List UInt8)) : Prop := l.Pairwise (· < ·)
theorem up_ext : ∀ {l m : List (List UInt8)}, Up l → Up m → (∀ x, x ∈ l ↔ x ∈ m) → l = m
  | [], [], _, _, _ => rfl
  | [], b :: m, _, _, h => by have := (h b).2 (by simp); simp at this
  | a :: l, [], _, _, h => by have := (h a).1 (by simp); simp at this
  | a :: l, b :: m, hl, hm, h => by
    have hl' := List.pairwise_cons.1 hl
    have hm' := List.pairwise_cons.1 hm
    have e : a = b := by
      rcases List.mem_cons.1 ((h a).1 (by simp)) with e | e
      · exact e
      · rcases List.mem_cons.1 ((h b).2 (by simp)) with g | g
        · exact g.symm
        · exact absurd (hl'.1 b g) (lt_asym (hm'.1 a e))
    subst e
    rw [up_ext hl'.2 hm'.2 (fun x => ?_)]
    constructor
    · intro hx
      rcases List.mem_cons.1 ((h x).1 (by simp [hx])) with e | e
      · subst e; exact absurd (hl'.1 x hx) (lt_irr x)
      · exact e
    · intro hx
      rcases List.mem_cons.1 ((h x).2 (by simp [hx])) with e | e
      · subst e; exact absurd (hm'.1 x hx) (lt_irr x)
      · exact e

/-! ### what the library's Sort and Compact make -/
theorem compact_up {d : Array (List UInt8)} (hd : ∀ i j, i ≤ j → j < d.size → d[i]! ≤ d[j]!) : ∀ m, m ≤ d.size → Up (Lib.compactUpTo d m) ∧ ∀ x, x ∈ Lib.compactUpTo d m ↔ ∃ j, j < m ∧ d[j]! = x
  | 0, _ => ⟨by simp [Lib.compactUpTo, Up], fun x => by simp [Lib.compactUpTo]⟩
  | m + 1, hm => by
    obtain ⟨h1, h2⟩ := compact_up hd m (by omega)
    rw [Lib.compactUpTo_succ]
    cases hk : Lib.keeps d m with
    | true =>
      rw [if_pos rfl]
      refine ⟨?_, fun x => ?_⟩
      · refine List.pairwise_append.2 ⟨h1, by simp, fun x hx y hy => ?_⟩
        rw [List.mem_singleton] at hy; subst hy
        obtain ⟨j, hj, rfl⟩ := (h2 x).1 hx
        have hne : d[m - 1]! ≠ d[m]! := by
          unfold Lib.keeps at hk
          simp at hk
          rcases hk with h | h
          · omega
          · exact fun e => h e.symm
        have a := hd j (m - 1) (by omega) (by omega)
        have b := hd (m - 1) m (by omega) (by omega)
        rcases le_or d[m - 1]! d[m]! with h | h | h
        · exact List.lt_of_le_of_lt a h
        · exact absurd h hne
        · exact absurd h b
      · rw [List.mem_append, List.mem_singleton, h2]
        constructor
        · rintro (⟨j, hj, e⟩ | e)
          · exact ⟨j, by omega, e⟩
          · exact ⟨m, by omega, e.symm⟩
        · rintro ⟨j, hj, e⟩
          rcases Nat.lt_or_ge j m with h | h
          · exact .inl ⟨j, h, e⟩
          · obtain rfl : j = m := by omega
            exact .inr e.symm
    | false =>
      rw [if_neg (by simp), List.append_nil]
      refine ⟨h1, fun x => ?_⟩
      rw [h2]
      have he : m ≠ 0 ∧ d[m]! = d[m - 1]! := by
        unfold Lib.keeps at hk
        simp at hk
        exact ⟨by omega, by simpa using hk.2⟩
      constructor
      · rintro ⟨j, hj, e⟩; exact ⟨j, by omega, e⟩
      · rintro ⟨j, hj, e⟩
        rcases Nat.lt_or_ge j m with h | h
        · exact ⟨j, h, e⟩
        · obtain rfl : j = m := by omega
          exact ⟨j - 1, by omega, by rw [← he.2, e]⟩
theorem merge_up (l : List (List UInt8)) : (l.mergeSort fun x y => decide (x ≤ y)).Pairwise (· ≤ ·) := by
  have h := List.pairwise_mergeSort (le := fun x y : List UInt8 => decide (x ≤ y)) (fun a b c h g => by simp only [decide_eq_true_eq] at *; exact List.le_trans h g) (fun a b => by
    simp only [Bool.or_eq_true, decide_eq_true_eq]
    exact List.le_total a b) l
  exact h.imp (fun h => by simpa using h)
theorem sorted_up (l : List (List UInt8)) : Up (sorted l) := by
  unfold sorted
  obtain ⟨m, hm⟩ : ∃ m, (l.mergeSort fun x y => decide (x ≤ y)) = m := ⟨_, rfl⟩
  have h := merge_up l
  rw [hm] at h ⊢
  refine (compact_up (d := m.toArray) (fun i j hij hj => ?_) m.length (by simp)).1
  have hj' : j < m.length := by simpa using hj
  rcases Nat.lt_or_ge i j with hlt | hge
  · have := List.pairwise_iff_getElem.1 h i j (by omega) hj' hlt
    simpa [getElem!_pos, hj', show i < m.length by omega] using this
  · obtain rfl : i = j := by omega
    exact List.le_refl _
theorem sorted_mem (l : List (List UInt8)) (x : List UInt8) : x ∈ sorted l ↔ x ∈ l := by
  unfold sorted
  have h := merge_up l
  have hme : x ∈ (l.mergeSort fun x y => decide (x ≤ y)) ↔ x ∈ l := List.mem_mergeSort
  obtain ⟨m, hm⟩ : ∃ m, (l.mergeSort fun x y => decide (x ≤ y)) = m := ⟨_, rfl⟩
  rw [hm] at h hme ⊢
  rw [← hme]
  refine ((compact_up (d := m.toArray) (fun i j hij hj => ?_) m.length (by simp)).2 x).trans ?_
  · have hj' : j < m.length := by simpa using hj
    rcases Nat.lt_or_ge i j with hlt | hge
    · have := List.pairwise_iff_getElem.1 h i j (by omega) hj' hlt
      simpa [getElem!_pos, hj', show i < m.length by omega] using this
    · obtain rfl : i = j := by omega
      exact List.le_refl _
  · rw [List.mem_iff_getElem?]
    constructor
    · rintro ⟨j, hj, e⟩
      refine ⟨j, ?_⟩
      rw [← e, List.getElem?_eq_getElem hj]
      simp [getElem!_pos, hj]
    · rintro ⟨j, e⟩
      have hj := (List.getElem?_eq_some_iff.1 e).1
      refine ⟨j, hj, ?_⟩
      rw [List.getElem?_eq_getElem hj] at e
      simpa [getElem!_pos, hj] using e
theorem sorted_of_up {l : List (List UInt8)} (h : Up l) : sorted l = l := up_ext (sorted_up l) h (sorted_mem l)

/-! ### a name put into a list that rises -/
def insert1 (x : List UInt8) : List (List UInt8) → List (List UInt8)
  | [] => [x]
  | y :: t => if x < y then x :: y :: t else y :: insert1 x t
theorem insert1_mem (x : List UInt8) : ∀ (l : List (List UInt8)) (z : List UInt8), z ∈ insert1 x l ↔ z = x ∨ z ∈ l
  | [], z => by simp [insert1]
  | y :: t, z => by
    unfold insert1
    split
    · simp
    · rw [List.mem_cons, insert1_mem x t z, List.mem_cons]
      constructor
      · rintro (h | h | h) <;> simp [h]
      · rintro (h | h | h) <;> simp [h]
theorem insert1_up {x : List UInt8} : ∀ {l : List (List UInt8)}, Up l → x ∉ l → Up (insert1 x l)
  | [], _, _ => by simp [insert1, Up]
  | y :: t, h, hx => by
    have h' := List.pairwise_cons.1 h
    unfold insert1
    split
    · rename_i hlt
      exact List.pairwise_cons.2 ⟨fun z hz => by
        rcases List.mem_cons.1 hz with e | e
        · subst e; exact hlt
        · exact lt_trans' hlt (h'.1 z e), h⟩
    · rename_i hlt
      refine List.pairwise_cons.2 ⟨fun z hz => ?_, insert1_up h'.2 (fun h => hx (by simp [h]))⟩
      rcases (insert1_mem x t z).1 hz with e | e
      · subst e
        rcases le_or z y with g | g | g
        · exact absurd g hlt
        · subst g; exact absurd (by simp) hx
        · exact g
      · exact h'.1 z e
/-- A list of names, one after the other put into a list that rises. -/
def insAll : List (List UInt8) → List (List UInt8) → List (List UInt8)
  | out, [] => out
  | out, x :: t => insAll (if x ∈ out then out else insert1 x out) t
theorem insAll_up : ∀ (l out : List (List UInt8)), Up out → Up (insAll out l) ∧ ∀ z, z ∈ insAll out l ↔ z ∈ out ∨ z ∈ l
  | [], out, h => ⟨h, fun z => by simp [insAll]⟩
  | x :: t, out, h => by
    unfold insAll
    by_cases hx : x ∈ out
    · rw [if_pos hx]
      obtain ⟨h1, h2⟩ := insAll_up t out h
      refine ⟨h1, fun z => ?_⟩
      rw [h2, List.mem_cons]
      constructor
      · rintro (g | g) <;> simp [g]
      · rintro (g | g | g)
        · exact .inl g
        · subst g; exact .inl hx
        · exact .inr g
    · rw [if_neg hx]
      obtain ⟨h1, h2⟩ := insAll_up t _ (insert1_up h hx)
      refine ⟨h1, fun z => ?_⟩
      rw [h2, insert1_mem, List.mem_cons]
      constructor
      · rintro ((g | g) | g) <;> simp [g]
      · rintro (g | g | g) <;> simp [g]
theorem insAll_sorted (l : List (List UInt8)) : insAll [] l = sorted l := by
  obtain ⟨h1, h2⟩ := insAll_up l [] (by simp [Up])
  exact up_ext h1 (sorted_up l) fun z => by rw [h2, sorted_mem]; simp

/-! ### places in a list that rises -/
def belowL (l : List (List UInt8)) (x : List UInt8) : Nat := l.countP fun y => decide (y < x)
theorem belowL_zero {l : List (List UInt8)} {x : List UInt8} (h : ∀ y ∈ l, ¬ y < x) : belowL l x = 0 := List.countP_eq_zero.2 fun y hy => by simpa using h y hy
theorem belowL_cons (y : List UInt8) (t : List (List UInt8)) (x : List UInt8) : belowL (y :: t) x = belowL t x + if y < x then 1 else 0 := by
  unfold belowL
  rw [List.countP_cons]
  simp
theorem find_iff : ∀ {l : List (List UInt8)} (x : List UInt8), Up l → (l[belowL l x]? = some x ↔ x ∈ l)
  | [], x, _ => by simp
  | y :: t, x, h => by
    have h' := List.pairwise_cons.1 h
    rw [belowL_cons]
    by_cases hlt : y < x
    · rw [if_pos hlt, List.getElem?_cons_succ, find_iff x h'.2, List.mem_cons]
      constructor
      · exact .inr
      · rintro (e | e)
        · subst e; exact absurd hlt (lt_irr x)
        · exact e
    · rw [if_neg hlt, belowL_zero (fun z hz g => hlt (lt_trans' (h'.1 z hz) g))]
      simp only [Nat.add_zero, List.getElem?_cons_zero, Option.some.injEq, List.mem_cons]
      constructor
      · intro e; exact .inl e.symm
      · rintro (e | e)
        · exact e.symm
        · exact absurd (h'.1 x e) hlt
theorem belowL_at : ∀ {l : List (List UInt8)} {x : List UInt8} {i : Nat}, Up l → l[i]? = some x → belowL l x = i
  | [], x, i, _, h => by simp at h
  | y :: t, x, 0, hu, h => by
    have h' := List.pairwise_cons.1 hu
    obtain rfl : y = x := by simpa using h
    rw [belowL_cons, if_neg (lt_irr y), belowL_zero (fun z hz g => lt_asym (h'.1 z hz) g)]
  | y :: t, x, i + 1, hu, h => by
    have h' := List.pairwise_cons.1 hu
    rw [List.getElem?_cons_succ] at h
    rw [belowL_cons, if_pos (h'.1 x (List.mem_of_getElem? h)), belowL_at h'.2 h]
theorem asc_of_up {l : List (List UInt8)} (h : Up l) : Asc (SS l) := by
  unfold Asc SS
  rw [List.pairwise_map]
  exact List.Pairwise.imp (fun g => fun k => lt_asym g k) h
theorem below_SS (l : List (List UInt8)) (x : ByteArray) : below (SS l) x = belowL l (dat x) := by
  unfold below belowL SS
  rw [List.countP_map]
  rfl
theorem find_f {l : List (List UInt8)} (h : Up l) (hl : l.length < 4611686018427387904) (x : ByteArray) : fold_Find.f (SS l) x = some ((belowL l (dat x) : Int), decide (dat x ∈ l)) := by
  unfold fold_Find.f
  rw [if_pos ⟨asc_of_up h, by rw [SS_len]; exact hl⟩, below_SS]
  refine congrArg some (Prod.ext rfl ?_)
  show decide _ = decide _
  rw [decide_eq_decide, ← find_iff (dat x) h]
  unfold SS
  rw [List.getElem?_map]
  constructor
  · intro e
    cases g : l[belowL l (dat x)]? with
    | none => rw [g] at e; cases e
    | some y =>
      rw [g] at e
      have : mkS y = x := Option.some.inj e
      rw [← this]; rfl
  · intro e
    rw [e]
    exact congrArg some (mkS_data x)
theorem sorted_f (l : List ByteArray) (hl : l.length ≤ 4294967296) : fold_Sorted.f l = some (SS (sorted (l.map dat))) := by
  unfold fold_Sorted.f; rw [if_pos hl]; rfl

/-! ### text without the spaces at its ends -/
def trim (l : List UInt8) : List UInt8 := rcut space (l.dropWhile space)
theorem rcut_prefix (p : UInt8 → Bool) (l : List UInt8) : ∃ t, l = rcut p l ++ t ∧ ∀ c ∈ t, p c = true := by
  refine ⟨(l.reverse.takeWhile p).reverse, ?_, fun c hc => ?_⟩
  · unfold rcut
    rw [← List.reverse_append, List.takeWhile_append_dropWhile, List.reverse_reverse]
  · have := List.mem_reverse.1 hc
    exact List.all_eq_true.1 List.all_takeWhile c this
theorem dropWhile_prefix (p : UInt8 → Bool) (l : List UInt8) : ∃ t, l = t ++ l.dropWhile p ∧ ∀ c ∈ t, p c = true :=
  ⟨l.takeWhile p, List.takeWhile_append_dropWhile.symm, fun c hc => List.all_eq_true.1 List.all_takeWhile c hc⟩
theorem dropWhile_pre {p : UInt8 → Bool} {t : List UInt8} (ht : ∀ c ∈ t, p c = true) (l : List UInt8) : (t ++ l).dropWhile p = l.dropWhile p := by
  induction t with
  | nil => rfl
  | cons c t ih => rw [List.cons_append, List.dropWhile_cons, if_pos (ht c (by simp)), ih (fun d hd => ht d (by simp [hd]))]
theorem rcut_post {p : UInt8 → Bool} {t : List UInt8} (ht : ∀ c ∈ t, p c = true) (l : List UInt8) : rcut p (l ++ t) = rcut p l := by
  unfold rcut
  rw [List.reverse_append, dropWhile_pre (fun c hc => ht c (List.mem_reverse.1 hc))]
theorem dropWhile_head {p : UInt8 → Bool} {l : List UInt8} (c : UInt8) (t : List UInt8) (h : l.dropWhile p = c :: t) : p c = false := by
  induction l with
  | nil => simp at h
  | cons x l ih =>
    rw [List.dropWhile_cons] at h
    split at h
    · exact ih h
    · rename_i hx
      cases h
      simpa using hx
theorem rcut_last {p : UInt8 → Bool} {l : List UInt8} (c : UInt8) (t : List UInt8) (h : rcut p l = t ++ [c]) : p c = false := by
  unfold rcut at h
  have := congrArg List.reverse h
  rw [List.reverse_reverse, List.reverse_append] at this
  exact dropWhile_head c t.reverse this
theorem dropWhile_idem (p : UInt8 → Bool) (l : List UInt8) : (l.dropWhile p).dropWhile p = l.dropWhile p := by
  cases h : l.dropWhile p with
  | nil => rfl
  | cons c t => rw [List.dropWhile_cons, dropWhile_head c t h]; rfl
theorem rcut_idem (p : UInt8 → Bool) (l : List UInt8) : rcut p (rcut p l) = rcut p l := by
  unfold rcut
  rw [List.reverse_reverse, dropWhile_idem]
theorem words_lead_all {t : List UInt8} (ht : ∀ c ∈ t, space c = true) (l : List UInt8) : words (t ++ l) = words l := by
  induction t with
  | nil => rfl
  | cons c t ih => rw [List.cons_append, words_lead (ht c (by simp)), ih (fun d hd => ht d (by simp [hd]))]
theorem words_trail_all : ∀ {t : List UInt8} (ht : ∀ c ∈ t, space c = true) (l : List UInt8), words (l ++ t) = words l
  | [], _, l => by rw [List.append_nil]
  | c :: t, ht, l => by
    have : l ++ c :: t = (l ++ [c]) ++ t := by simp
    rw [this, words_trail_all (fun d hd => ht d (by simp [hd])), words_trail (ht c (by simp))]
theorem words_trim (l : List UInt8) : words (trim l) = words l := by
  unfold trim
  obtain ⟨t, h1, h2⟩ := dropWhile_prefix space l
  obtain ⟨u, h3, h4⟩ := rcut_prefix space (l.dropWhile space)
  conv => rhs; rw [h1, words_lead_all h2, h3, words_trail_all h4]
/-- The trimmed text begins with no space. -/
theorem trim_head {l : List UInt8} (c : UInt8) (t : List UInt8) (h : trim l = c :: t) : space c = false := by
  unfold trim at h
  obtain ⟨u, h3, h4⟩ := rcut_prefix space (l.dropWhile space)
  rw [h, List.cons_append] at h3
  exact dropWhile_head c (t ++ u) h3
theorem trim_last {l : List UInt8} (c : UInt8) (t : List UInt8) (h : trim l = t ++ [c]) : space c = false := rcut_last c t h
theorem trim_trim (l : List UInt8) : trim (trim l) = trim l := by
  show rcut space ((trim l).dropWhile space) = trim l
  have : (trim l).dropWhile space = trim l := by
    cases h : trim l with
    | nil => rfl
    | cons c t => rw [List.dropWhile_cons, trim_head c t h]; rfl
  rw [this]
  exact rcut_idem space _
theorem trim_len (l : List UInt8) : (trim l).length ≤ l.length := by
  unfold trim
  obtain ⟨t, h1, h2⟩ := dropWhile_prefix space l
  obtain ⟨u, h3, h4⟩ := rcut_prefix space (l.dropWhile space)
  have a := congrArg List.length h1
  have b := congrArg List.length h3
  rw [List.length_append] at a b
  omega
theorem trim_within {a t u : List UInt8} (ht : ∀ c ∈ t, space c = true) (hu : ∀ c ∈ u, space c = true) : trim (t ++ a ++ u) = trim a := by
  unfold trim
  rw [List.append_assoc, dropWhile_pre ht]
  by_cases h : ∀ c ∈ a, space c = true
  · have e1 : (a ++ u).dropWhile space = [] := by
      have := dropWhile_pre (t := a ++ u) (fun c hc => by rcases List.mem_append.1 hc with g | g; exact h c g; exact hu c g) []
      simpa using this
    have e2 : a.dropWhile space = [] := by
      have := dropWhile_pre (t := a) h []
      simpa using this
    rw [e1, e2]
  · have e : (a ++ u).dropWhile space = a.dropWhile space ++ u := by
      clear ht
      induction a with
      | nil => exact absurd (by simp) h
      | cons c a ih =>
        rw [List.cons_append, List.dropWhile_cons, List.dropWhile_cons]
        split
        · rename_i hc
          refine ih (fun g => h fun d hd => ?_)
          rcases List.mem_cons.1 hd with e | e
          · subst e; exact hc
          · exact g d e
        · rfl
    rw [e, rcut_post hu]
theorem words_nil_iff (l : List UInt8) : words l = [] ↔ trim l = [] := by
  constructor
  · intro h
    cases e : trim l with
    | nil => rfl
    | cons c t =>
      exfalso
      have hw := words_trim l
      rw [h, e] at hw
      have hc := trim_head c t e
      unfold words fieldsAux at hw
      rw [if_neg (by simp [hc])] at hw
      have : ∀ (m w : List UInt8), w ≠ [] → fieldsAux space m w ≠ [] := by
        intro m
        induction m with
        | nil => intro w hw h; unfold fieldsAux at h; rw [if_neg hw] at h; cases h
        | cons d m ih =>
          intro w hw h
          unfold fieldsAux at h
          split at h
          · first | (cases h; done) | (rw [if_neg hw] at h; cases h)
          · exact ih _ (by simp) h
      exact this t ([] ++ [c]) (by simp) hw
  · intro h
    rw [← words_trim l, h]; rfl
end Go.Proofs.Ytmbmjaiggefjmaa
