/- What the printed functions of chapter 10 come to: plain Lean. -/
import Derived.Test.YtejdfmghcgkojaaRiskLinkLaws
import Derived.Test.YtejdfmghcgkojaaPrx1
import Derived.Test.YtejdfmghcgkojaaPrx3
namespace Go.Proofs.Ytejdfmghcgkojaa.Pure
set_option linter.unusedVariables false
set_option linter.unusedSimpArgs false
open Go.RowKit Go.Proofs.Ytejdfmghcgkojaa.Pr Go.Proofs.YtejdfmghcgkojaaW.PrintWords Go.Proofs.YtejdfmghcgkojaaW.PrintLast

abbrev dat (s : ByteArray) : List UInt8 := s.data.toList
theorem toList_dat (s : ByteArray) : s.toList = dat s := Lib.toList_data s
theorem dat_inj {a b : ByteArray} (h : dat a = dat b) : a = b := by rw [← Lib.mk_data a, ← Lib.mk_data b]; exact congrArg (fun l : List UInt8 => (⟨l.toArray⟩ : ByteArray)) h
theorem dat_len (s : ByteArray) : (dat s).length = s.size := (Lib.size_eq s).symm
theorem dat_app (a b : ByteArray) : dat (a ++ b) = dat a ++ dat b := by simp
theorem extract_pre' (s : ByteArray) (n : Nat) : (s.extract 0 n).toList = (dat s).take n := by rw [Lib.toList_data, extract_pre]
theorem isPrefix_take (s p : List UInt8) : p.isPrefixOf s = decide (s.take p.length = p) := by
  rw [Bool.eq_iff_iff, List.isPrefixOf_iff_prefix, decide_eq_true_eq, List.prefix_iff_eq_take]
  exact ⟨fun h => h.symm, fun h => h.symm⟩
theorem prefix_f (s p : ByteArray) (hs : s.size ≤ 4000000000000000000) : strings_HasPrefix.f s p = some (Lib.hasPrefix (dat s) (dat p)) := by
  unfold strings_HasPrefix.f stringslite_HasPrefix.f
  unfold Lib.hasPrefix
  rw [isPrefix_take, dat_len]
  by_cases h : (s.size : Int) ≥ (p.size : Int)
  · rw [if_pos h, if_pos (by omega), if_pos (by omega)]
    simp only [Option.bind_some]
    rw [extract_pre', Int.toNat_natCast, toList_dat]
    refine congrArg some ?_
    rw [Bool.eq_iff_iff, beq_iff_eq, decide_eq_true_eq]
  · rw [if_neg h]
    simp only [Option.bind_some]
    refine congrArg some (Eq.symm (decide_eq_false ?_))
    intro e
    have := congrArg List.length e
    rw [List.length_take, dat_len, dat_len] at this
    omega
theorem handler_f (s : ByteArray) (hs : s.size ≤ 4000000000000000000) : risk_Handler.f s = some (handlerB s) := by
  unfold risk_Handler.f handlerB
  rw [prefix_f s _ hs]
  simp only [Option.bind_some]
  show (if Lib.hasPrefix (dat s) [111, 110] = true then _ else _) = _
  cases Lib.hasPrefix (dat s) [111, 110] with
  | true =>
    rw [if_pos rfl, Bool.true_and]
    refine congrArg some ?_
    rw [decide_eq_decide]; omega
  | false => rfl
theorem handler_two {s : ByteArray} {c d : UInt8} {t : List UInt8} (h : dat s = c :: d :: t) : Lib.hasPrefix (dat s) [111, 110] = decide (c = 111 ∧ d = 110) := by
  unfold Lib.hasPrefix
  rw [h, isPrefix_take, decide_eq_decide]
  simp
theorem toNat_eq {c : UInt8} {n : Nat} (h : n < 256) : ((c.toNat : Int) = (n : Int)) ↔ c = n.toUInt8 := by
  constructor
  · intro e
    apply UInt8.toNat_inj.1
    have : n.toUInt8.toNat = n := by simp [Nat.toUInt8, UInt8.toNat, UInt8.ofNat]; omega
    rw [this]; omega
  · intro e
    subst e
    have : n.toUInt8.toNat = n := by simp [Nat.toUInt8, UInt8.toNat, UInt8.ofNat]; omega
    rw [this]
theorem rhandler_f (s : ByteArray) : boltingref10_Handler.f s = some (handlerB s) := by
  unfold boltingref10_Handler.f handlerB
  by_cases h : (s.size : Int) > 2
  · rw [if_pos h, if_pos (by omega), decide_eq_true (show 2 < s.size by omega), Bool.and_true]
    rcases hd : dat s with _ | ⟨c, _ | ⟨d, t⟩⟩
    · have := dat_len s; rw [hd] at this; simp at this; omega
    · have := dat_len s; rw [hd] at this; simp at this; omega
    · have b0 : bt s 0 = (c.toNat : Int) := bt_c (k := 0) (by show (dat s)[0]? = _; rw [hd]; rfl)
      have b1 : bt s 1 = (d.toNat : Int) := bt_c (k := 1) (by show (dat s)[1]? = _; rw [hd]; rfl)
      have hh := handler_two hd
      rw [show Lib.hasPrefix s.data.toList [111, 110] = decide (c = 111 ∧ d = 110) from hh, b0, b1]
      have e0 := toNat_eq (c := c) (n := 111) (by omega)
      have e1 := toNat_eq (c := d) (n := 110) (by omega)
      by_cases hc : (c.toNat : Int) = 111
      · rw [if_pos hc, if_pos (by omega)]
        refine congrArg some ?_
        rw [Bool.eq_iff_iff, beq_iff_eq, decide_eq_true_eq]
        exact ⟨fun g => ⟨e0.1 hc, e1.1 g⟩, fun g => e1.2 g.2⟩
      · rw [if_neg hc]
        refine congrArg some (Eq.symm (decide_eq_false ?_))
        exact fun g => hc (e0.2 g.1)
  · rw [if_neg h, decide_eq_false (show ¬ 2 < s.size by omega), Bool.and_false]

/-! ### an element and an attribute, a blank between them -/
theorem rd_at {l : List ByteArray} {i : Nat} {x : ByteArray} (h : l[i]? = some x) : rdOf ByteArray.empty l (i : Int) = x := by
  unfold rdOf
  rw [Int.toNat_natCast, List.getD_eq_getElem?_getD, h]
  rfl
theorem get_some {α : Type} {l : List α} {i : Nat} (h : i < l.length) : ∃ x, l[i]? = some x := ⟨_, List.getElem?_eq_getElem h⟩
theorem drop_at {α : Type} {l : List α} {i : Nat} {x : α} (h : l[i]? = some x) : l.drop i = x :: l.drop (i + 1) := by
  rw [List.drop_eq_getElem?_toList_append, h]
  simp
/-- Does a text stand in a list? -/
def mem (l : List ByteArray) (s : ByteArray) : Bool := l.any fun x => decide (x = s)
theorem has_l0 (l : List ByteArray) (s : ByteArray) (hl : l.length ≤ 4000000000000000000) : ∀ (d i : Nat), i + d = l.length → ∀ k, d < k → boltingref02_Has.l0 k l s (i : Int) = some (mem (l.drop i) s)
  | 0, i, h, k, hk => by
    obtain ⟨k, rfl⟩ : ∃ m, k = m + 1 := ⟨k - 1, by omega⟩
    simp only [boltingref02_Has.l0]
    rw [if_neg (by omega), List.drop_of_length_le (by omega)]
    rfl
  | d + 1, i, h, k, hk => by
    obtain ⟨k, rfl⟩ : ∃ m, k = m + 1 := ⟨k - 1, by omega⟩
    obtain ⟨x, hx⟩ := get_some (show i < l.length by omega)
    simp only [boltingref02_Has.l0]
    rw [if_pos (by omega), if_pos (by omega), rd_at hx, drop_at hx]
    show _ = some (decide (x = s) || mem (l.drop (i + 1)) s)
    by_cases e : x = s
    · subst e; rw [if_pos rfl]; simp
    · rw [if_neg (fun g => e (dat_inj (by rw [← toList_dat, ← toList_dat]; exact g))), wrap_succ (by omega) (by omega), decide_eq_false e, Bool.false_or]
      exact has_l0 l s hl d (i + 1) (by omega) k (by omega)
theorem has_f (l : List ByteArray) (s : ByteArray) (hl : l.length ≤ 4000000000000000000) {k : Nat} (hk : l.length < k) : boltingref02_Has.f k l s = some (mem l s) :=
  has_l0 l s hl l.length 0 (by omega) k hk
def plain (l : List UInt8) : Bool := l.all fun c => decide (c ≠ 32)
theorem plain_l0 (s : ByteArray) (hs : s.size ≤ 4000000000000000000) : ∀ (d i : Nat), i + d = s.size → ∀ k, d < k → boltingref10_plain.l0 k s (i : Int) = some (plain ((dat s).drop i))
  | 0, i, h, k, hk => by
    obtain ⟨k, rfl⟩ : ∃ m, k = m + 1 := ⟨k - 1, by omega⟩
    simp only [boltingref10_plain.l0]
    rw [if_neg (by omega), List.drop_of_length_le (by rw [dat_len]; omega)]
    rfl
  | d + 1, i, h, k, hk => by
    obtain ⟨k, rfl⟩ : ∃ m, k = m + 1 := ⟨k - 1, by omega⟩
    obtain ⟨c, hc⟩ := at_some s (show i < s.size by omega)
    have hd : (dat s).drop i = c :: (dat s).drop (i + 1) := drop_one hc
    simp only [boltingref10_plain.l0]
    rw [if_pos (by omega), if_pos (by omega), bt_c hc, hd]
    show _ = some (decide (c ≠ 32) && plain ((dat s).drop (i + 1)))
    have e := toNat_eq (c := c) (n := 32) (by omega)
    by_cases g : (c.toNat : Int) = 32
    · rw [if_pos g, decide_eq_false (fun n => n (e.1 g)), Bool.false_and]
    · rw [if_neg g, decide_eq_true (show c ≠ 32 from fun n => g (e.2 n)), Bool.true_and, wrap_succ (by omega) (by omega)]
      exact plain_l0 s hs d (i + 1) (by omega) k (by omega)
theorem plain_f (s : ByteArray) (hs : s.size ≤ 4000000000000000000) {k : Nat} (hk : s.size < k) : boltingref10_plain.f k s = some (plain (dat s)) :=
  plain_l0 s hs s.size 0 (by omega) k hk
/-- A row of the reference's lists tells of a pair. -/
def pairAt (x y z : ByteArray) : Bool := decide (dat z = dat x ++ 32 :: dat y) && !mem [x, y] ByteArray.empty && plain (dat x)
theorem pair_l0 (l : List ByteArray) (x y : ByteArray) (hl : l.length ≤ 1000) (hx : x.size ≤ 140737488355328) (hy : y.size ≤ 140737488355328) : ∀ (d i : Nat), i + d = l.length → ∀ k, d + x.size + 10 < k → boltingref10_pair.l0 k l x y (i : Int) = some ((l.drop i).any (pairAt x y))
  | 0, i, h, k, hk => by
    obtain ⟨k, rfl⟩ : ∃ m, k = m + 1 := ⟨k - 1, by omega⟩
    simp only [boltingref10_pair.l0]
    rw [if_neg (by omega), List.drop_of_length_le (by omega)]
    rfl
  | d + 1, i, h, k, hk => by
    obtain ⟨k, rfl⟩ : ∃ m, k = m + 1 := ⟨k - 1, by omega⟩
    obtain ⟨z, hz⟩ := get_some (show i < l.length by omega)
    have ih := pair_l0 l x y hl hx hy d (i + 1) (by omega) k (by omega)
    have s32 : (⟨#[32]⟩ : ByteArray).size = 1 := rfl
    simp only [boltingref10_pair.l0]
    rw [if_pos (by omega), if_pos (by omega), if_pos (by omega), if_pos (by rw [ByteArray.size_append, s32]; omega), rd_at hz, drop_at hz, List.any_cons, wrap_succ (by omega) (by omega)]
    have e : (z.toList = (x ++ (⟨#[32]⟩ : ByteArray) ++ y).toList) = (dat z = dat x ++ 32 :: dat y) := by
      rw [toList_dat, toList_dat, dat_app, dat_app, List.append_assoc]
      rfl
    rw [has_f _ _ (by simp) (by show 2 < k; omega), plain_f x (by omega) (by omega)]
    simp only [Option.bind_some]
    rw [show ((i : Int) + 1) = ((i + 1 : Nat) : Int) by omega, ih]
    generalize (l.drop (i + 1)).any (pairAt x y) = R
    have hp : pairAt x y z = (decide (dat z = dat x ++ 32 :: dat y) && !mem [x, y] ByteArray.empty && plain (dat x)) := rfl
    rw [hp]
    by_cases g : dat z = dat x ++ 32 :: dat y
    · rw [if_pos (e ▸ g), decide_eq_true g, Bool.true_and]
      show (if mem [x, y] ByteArray.empty = true then _ else _) = _
      cases mem [x, y] ByteArray.empty with
      | true => rw [if_pos rfl]; simp
      | false =>
        rw [if_neg (by simp)]
        cases plain (dat x) with
        | true => rw [if_pos rfl]; rfl
        | false => rw [if_neg (by simp)]; simp
    · rw [if_neg (fun n => g (e ▸ n)), decide_eq_false g]
      simp
theorem pair_f (l : List ByteArray) (x y : ByteArray) (hl : l.length ≤ 1000) (hx : x.size ≤ 140737488355328) (hy : y.size ≤ 140737488355328) {k : Nat} (hk : l.length + x.size + 10 < k) : boltingref10_pair.f k l x y = some (l.any (pairAt x y)) :=
  pair_l0 l x y hl hx hy l.length 0 (by omega) k hk
theorem split32 : ∀ {a b c d : List UInt8}, plain a = true → plain c = true → (a ++ 32 :: b = c ++ 32 :: d ↔ a = c ∧ b = d)
  | [], b, [], d, _, _ => by simp
  | [], b, x :: c, d, _, h => by
    unfold plain at h
    simp at h
    constructor
    · intro e; rw [List.nil_append, List.cons_append] at e; exact absurd (List.cons.inj e).1.symm h.1
    · rintro ⟨e, _⟩; cases e
  | x :: a, b, [], d, h, _ => by
    unfold plain at h
    simp at h
    constructor
    · intro e; rw [List.nil_append, List.cons_append] at e; exact absurd (List.cons.inj e).1 h.1
    · rintro ⟨e, _⟩; cases e
  | x :: a, b, y :: c, d, h, g => by
    have h' : plain a = true := by unfold plain at h ⊢; simp at h ⊢; exact h.2
    have g' : plain c = true := by unfold plain at g ⊢; simp at g ⊢; exact g.2
    rw [List.cons_append, List.cons_append, List.cons.injEq, split32 h' g', List.cons.injEq, and_assoc]
theorem pairAt_eq (x y z e a : ByteArray) (hz : dat z = dat e ++ 32 :: dat a) (he : plain (dat e) = true) (hn : dat e ≠ []) (hm : dat a ≠ []) : pairAt x y z = decide (e = x ∧ a = y) := by
  unfold pairAt
  rw [Bool.eq_iff_iff]
  simp only [Bool.and_eq_true, decide_eq_true_eq, Bool.not_eq_true']
  constructor
  · rintro ⟨⟨h1, h2⟩, h3⟩
    rw [hz, split32 he h3] at h1
    exact ⟨dat_inj h1.1, dat_inj h1.2⟩
  · rintro ⟨rfl, rfl⟩
    refine ⟨⟨hz, ?_⟩, he⟩
    unfold mem
    rw [List.any_eq_false]
    intro v hv
    simp only [List.mem_cons, List.not_mem_nil, or_false] at hv
    simp only [decide_eq_true_eq]
    rcases hv with rfl | rfl
    · rintro rfl; exact hn rfl
    · rintro rfl; exact hm rfl
theorem rnav_f (x y : ByteArray) (hx : x.size ≤ 140737488355328) (hy : y.size ≤ 140737488355328) {k : Nat} (hk : x.size + 100 < k) : boltingref10_Nav.f k x y = some (navB x y) := by
  unfold boltingref10_Nav.f boltingref10_leads.f
  simp only [Option.bind_some]
  rw [pair_f _ x y (by decide) hx hy (by show 9 + x.size + 10 < k; omega)]
  simp only [Option.bind_some]
  refine congrArg some ?_
  unfold navB leadsL
  simp only [List.any_cons, List.any_nil, Bool.or_false]
  unfold isAt
  congr 1
  · exact pairAt_eq x y _ _ _ (by decide) (by decide) (by decide) (by decide)
  congr 1
  · exact pairAt_eq x y _ _ _ (by decide) (by decide) (by decide) (by decide)
  congr 1
  · exact pairAt_eq x y _ _ _ (by decide) (by decide) (by decide) (by decide)
  congr 1
  · exact pairAt_eq x y _ _ _ (by decide) (by decide) (by decide) (by decide)
  congr 1
  · exact pairAt_eq x y _ _ _ (by decide) (by decide) (by decide) (by decide)
  congr 1
  · exact pairAt_eq x y _ _ _ (by decide) (by decide) (by decide) (by decide)
  congr 1
  · exact pairAt_eq x y _ _ _ (by decide) (by decide) (by decide) (by decide)
  congr 1
  · exact pairAt_eq x y _ _ _ (by decide) (by decide) (by decide) (by decide)
  · exact pairAt_eq x y _ _ _ (by decide) (by decide) (by decide) (by decide)
def sinkF (x y : ByteArray) : Int := if handlerB y = true then 2 else sinkI x y
theorem rsink_f (x y : ByteArray) (hx : x.size ≤ 140737488355328) (hy : y.size ≤ 140737488355328) {k : Nat} (hk : x.size + 100 < k) : boltingref10_Sink.f k x y = some (sinkF x y) := by
  unfold boltingref10_Sink.f boltingref10_takes.f sinkF
  rw [rhandler_f]
  simp only [Option.bind_some]
  cases handlerB y with
  | true => rw [if_pos rfl, if_pos rfl]
  | false =>
    simp only [Bool.false_eq_true, if_false, Option.bind_some]
    rw [pair_f _ x y (by decide) hx hy (by show 3 + x.size + 10 < k; omega)]
    simp only [Option.bind_some, List.any_cons, List.any_nil, Bool.or_false]
    rw [pairAt_eq x y _ ⟨#[115, 99, 114, 105, 112, 116]⟩ ⟨#[115, 114, 99]⟩ (by decide) (by decide) (by decide) (by decide), pairAt_eq x y _ ⟨#[101, 109, 98, 101, 100]⟩ ⟨#[115, 114, 99]⟩ (by decide) (by decide) (by decide) (by decide), pairAt_eq x y _ ⟨#[111, 98, 106, 101, 99, 116]⟩ ⟨#[100, 97, 116, 97]⟩ (by decide) (by decide) (by decide) (by decide)]
    unfold sinkI sinksL
    simp only [List.find?_cons, List.find?_nil, isAt]
    by_cases h1 : (⟨#[115, 99, 114, 105, 112, 116]⟩ : ByteArray) = x ∧ (⟨#[115, 114, 99]⟩ : ByteArray) = y
    · rw [decide_eq_true h1]; rfl
    rw [decide_eq_false h1]
    by_cases h2 : (⟨#[101, 109, 98, 101, 100]⟩ : ByteArray) = x ∧ (⟨#[115, 114, 99]⟩ : ByteArray) = y
    · rw [decide_eq_true h2]; rfl
    rw [decide_eq_false h2]
    by_cases h3 : (⟨#[111, 98, 106, 101, 99, 116]⟩ : ByteArray) = x ∧ (⟨#[100, 97, 116, 97]⟩ : ByteArray) = y
    · rw [decide_eq_true h3]; rfl
    rw [decide_eq_false h3]
    by_cases h4 : (⟨#[105, 102, 114, 97, 109, 101]⟩ : ByteArray) = x ∧ (⟨#[115, 114, 99, 100, 111, 99]⟩ : ByteArray) = y
    · obtain ⟨rfl, rfl⟩ := h4
      rw [if_neg (by simp), if_pos (by rw [toList_dat]), if_pos (by rw [toList_dat]), decide_eq_true ⟨rfl, rfl⟩]
      rfl
    · rw [decide_eq_false h4]
      have e : ∀ (s : ByteArray) (l : List UInt8), (s.toList = l) = (mkS l = s) := fun s l => by
        rw [toList_dat]
        exact propext ⟨fun h => by rw [← h]; exact mkS_data s, fun h => by rw [← h]; rfl⟩
      rw [if_neg (by simp)]
      split
      · rename_i g1
        rw [if_neg (fun g2 => h4 ⟨(e _ _) ▸ g1, (e _ _) ▸ g2⟩)]
        try rfl
      · rfl
def unsafeL : List ByteArray := [⟨#[98, 97, 115, 101]⟩, ⟨#[101, 109, 98, 101, 100]⟩, ⟨#[102, 114, 97, 109, 101]⟩, ⟨#[105, 102, 114, 97, 109, 101]⟩, ⟨#[108, 105, 110, 107]⟩, ⟨#[109, 101, 116, 97]⟩, ⟨#[111, 98, 106, 101, 99, 116]⟩, ⟨#[115, 99, 114, 105, 112, 116]⟩]
theorem element_f (s : ByteArray) : risk_Element.f s = some (mem unsafeL s) := by
  have e : ∀ (l : List UInt8), (s.toList = l) = (mkS l = s) := fun l => by
    rw [toList_dat]
    exact propext ⟨fun h => by rw [← h]; exact mkS_data s, fun h => by rw [← h]; rfl⟩
  unfold risk_Element.f mem unsafeL
  simp only [e, List.any_cons, List.any_nil, Bool.or_false]
  repeat' split
  all_goals
    refine congrArg some (Eq.symm ?_)
    first
    | (rw [Bool.eq_iff_iff]; simp only [Bool.or_eq_true, decide_eq_true_eq, eq_self, iff_true]; simp_all [mkS]; done)
    | (simp_all [mkS]; done)
end Go.Proofs.Ytejdfmghcgkojaa.Pure
