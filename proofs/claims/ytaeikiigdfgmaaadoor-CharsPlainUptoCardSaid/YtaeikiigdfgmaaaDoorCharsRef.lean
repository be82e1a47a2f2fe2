/- The reference's functions of layer 1: what the printed ones come to. Plain Lean. -/
import Derived.Test.YtaeikiigdfgmaaaDoorPrx3
import Derived.Test.YtaeikiigdfgmaaaDoorPrx5
import Derived.Test.YtaeikiigdfgmaaaDoorPrx1
import Derived.Test.YtaeikiigdfgmaaaDoorPrx2
namespace Go.Proofs.YtaeikiigdfgmaaaDoor.Pure
set_option linter.unusedVariables false
set_option linter.unusedSimpArgs false
open Go.RowKit Go.Proofs.YtaeikiigdfgmaaaDoor Go.Proofs.YtaeikiigdfgmaaaDoor.Pr Go.Proofs.YtaeikiigdfgmaaaDoorW.PrintWords Go.Proofs.YtaeikiigdfgmaaaDoorW.PrintLast

theorem wrap_id {i : Int} (h0 : -9000000000000000000 ≤ i) (h : i < 9000000000000000000) : wrap64 i = i := by unfold wrap64; omega
theorem dat_len (s : ByteArray) : (dat s).length = s.size := (Lib.size_eq s).symm
theorem toList_dat (s : ByteArray) : s.toList = dat s := Lib.toList_data s
theorem dat_app (a b : ByteArray) : dat (a ++ b) = dat a ++ dat b := by simp
theorem mkS_toList (l : List UInt8) : (mkS l).toList = l := by rw [Lib.toList_data]; rfl
theorem mkS_size (l : List UInt8) : (mkS l).size = l.length := by rw [Lib.size_eq]; rfl
theorem mkS_dat (s : ByteArray) : mkS (dat s) = s := Lib.mk_data s
theorem bt_nb (s : ByteArray) {i : Nat} (h : i < s.size) : bt s (i : Int) = (Chars.nb (dat s) i : Int) := by
  have hb := byte_at s i h
  unfold bt Chars.nb
  rw [dif_pos (by simpa using h), List.getD_eq_getElem?_getD, hb]
  simp
theorem nb_drop (l : List UInt8) (i k : Nat) : Chars.nb (l.drop i) k = Chars.nb l (i + k) := by
  unfold Chars.nb
  rw [List.getD_eq_getElem?_getD, List.getD_eq_getElem?_getD, List.getElem?_drop]
theorem in_f (s : ByteArray) (i lo hi : Nat) (hs : s.size ≤ 4000000000000000000) : boltingref01_in.f s (i : Int) (lo : Int) (hi : Int) = some (decide (i < s.size ∧ lo ≤ Chars.nb (dat s) i ∧ Chars.nb (dat s) i ≤ hi)) := by
  unfold boltingref01_in.f
  by_cases h : i < s.size
  · have hb := Chars.nb_lt (dat s) i
    rw [if_pos (by omega), if_pos (by omega), bt_nb s h, wrap_id (by omega) (by omega)]
    by_cases h2 : lo ≤ Chars.nb (dat s) i
    · rw [if_pos (by omega)]
      congr 1
      rw [decide_eq_decide]
      omega
    · rw [if_neg (by omega), decide_eq_false (by omega)]
  · rw [if_neg (by omega), decide_eq_false (by omega)]
theorem size_j1 (s : ByteArray) (i c lo hi : Nat) (hs : s.size ≤ 4000000000000000000) (hi' : i < s.size) {k : Nat} (hk : 3 ≤ k) : boltingref01_Size.j1 k s (i : Int) (c : Int) (lo : Int) (hi : Int) =
    some (if (i + 1 < s.size ∧ lo ≤ Chars.nb (dat s) (i + 1) ∧ Chars.nb (dat s) (i + 1) ≤ hi) ∧ (i + 2 < s.size ∧ 128 ≤ Chars.nb (dat s) (i + 2) ∧ Chars.nb (dat s) (i + 2) ≤ 191) then
      (if 224 ≤ c ∧ c ≤ 239 then 3 else if (240 ≤ c ∧ c ≤ 244) ∧ (i + 3 < s.size ∧ 128 ≤ Chars.nb (dat s) (i + 3) ∧ Chars.nb (dat s) (i + 3) ≤ 191) then 4 else 0) else 0) := by
  obtain ⟨k, rfl⟩ : ∃ m, k = m + 3 := ⟨k - 3, by omega⟩
  have e1 : wrap64 ((i : Int) + 1) = ((i + 1 : Nat) : Int) := wrap_id (by omega) (by omega)
  have e2 : wrap64 ((i : Int) + 2) = ((i + 2 : Nat) : Int) := wrap_id (by omega) (by omega)
  have e3 : wrap64 ((i : Int) + 3) = ((i + 3 : Nat) : Int) := wrap_id (by omega) (by omega)
  have i1 := in_f s (i + 1) lo hi hs
  have i2 := in_f s (i + 2) 128 191 hs
  have i3 := in_f s (i + 3) 128 191 hs
  obtain ⟨v3, hv3⟩ : ∃ v : Int, (if (240 ≤ c ∧ c ≤ 244) ∧ (i + 3 < s.size ∧ 128 ≤ Chars.nb (dat s) (i + 3) ∧ Chars.nb (dat s) (i + 3) ≤ 191) then (4 : Int) else 0) = v := ⟨_, rfl⟩
  have hj3 : ∀ b, boltingref01_Size.j3 (k + 1) s (i : Int) (c : Int) b = some (if b = true then 3 else v3) := fun b => by
    simp only [boltingref01_Size.j3]
    cases b with
    | true => rfl
    | false =>
      simp only [Bool.false_eq_true, if_false]
      rw [e3, ← hv3]
      by_cases h1 : 240 ≤ c
      · rw [if_pos (show (c : Int) ≥ 240 by omega)]
        by_cases h2 : c ≤ 244
        · rw [if_pos (show (c : Int) ≤ 244 by omega)]
          have i3' : boltingref01_in.f s ((i + 3 : Nat) : Int) 128 191 = some (decide (i + 3 < s.size ∧ 128 ≤ Chars.nb (dat s) (i + 3) ∧ Chars.nb (dat s) (i + 3) ≤ 191)) := i3
          rw [i3']
          simp only [Option.bind_some, decide_eq_true_eq]
          by_cases h3 : i + 3 < s.size ∧ 128 ≤ Chars.nb (dat s) (i + 3) ∧ Chars.nb (dat s) (i + 3) ≤ 191
          · rw [if_pos h3, if_pos ⟨⟨h1, h2⟩, h3⟩]
          · rw [if_neg h3, if_neg (fun z => h3 z.2)]
        · rw [if_neg (show ¬ (c : Int) ≤ 244 by omega), if_neg (fun z => h2 z.1.2)]
      · rw [if_neg (show ¬ (c : Int) ≥ 240 by omega), if_neg (fun z => h1 z.1.1)]
  obtain ⟨v2, hv2⟩ : ∃ v : Int, (if 224 ≤ c ∧ c ≤ 239 then (3 : Int) else v3) = v := ⟨_, rfl⟩
  have hj2 : ∀ b, boltingref01_Size.j2 (k + 2) s (i : Int) (c : Int) b = some (if b = true then 0 else v2) := fun b => by
    rw [show k + 2 = (k + 1) + 1 from rfl]
    simp only [boltingref01_Size.j2]
    cases b with
    | true => rfl
    | false =>
      simp only [Bool.false_eq_true, if_false]
      rw [← hv2]
      by_cases h1 : 224 ≤ c
      · rw [if_pos (show (c : Int) ≥ 224 by omega), hj3]
        by_cases h2 : c ≤ 239
        · rw [decide_eq_true (show (c : Int) ≤ 239 by omega), if_pos rfl, if_pos ⟨h1, h2⟩]
        · rw [decide_eq_false (show ¬ (c : Int) ≤ 239 by omega), if_neg (show ¬ (false = true) by simp), if_neg (fun z => h2 z.2)]
      · rw [if_neg (show ¬ (c : Int) ≥ 224 by omega), hj3, if_neg (show ¬ (false = true) by simp), if_neg (fun z => h1 z.1)]
  rw [hv3, hv2]
  rw [show k + 3 = (k + 2) + 1 from rfl]
  simp only [boltingref01_Size.j1]
  rw [e1, e2, i1]
  simp only [Option.bind_some, decide_eq_true_eq]
  have i2' : boltingref01_in.f s ((i + 2 : Nat) : Int) 128 191 = some (decide (i + 2 < s.size ∧ 128 ≤ Chars.nb (dat s) (i + 2) ∧ Chars.nb (dat s) (i + 2) ≤ 191)) := i2
  by_cases h1 : i + 1 < s.size ∧ lo ≤ Chars.nb (dat s) (i + 1) ∧ Chars.nb (dat s) (i + 1) ≤ hi
  · rw [if_pos h1, i2']
    simp only [Option.bind_some]
    rw [hj2]
    by_cases h2 : i + 2 < s.size ∧ 128 ≤ Chars.nb (dat s) (i + 2) ∧ Chars.nb (dat s) (i + 2) ≤ 191
    · rw [decide_eq_true h2, if_neg (show ¬ ((!true) = true) by simp), if_pos ⟨h1, h2⟩]
    · rw [decide_eq_false h2, if_pos (show (!false) = true from rfl), if_neg (fun z => h2 z.2)]
  · rw [if_neg h1, hj2, if_pos rfl, if_neg (fun z => h1 z.1)]
theorem size_f (s : ByteArray) (i : Nat) (hs : s.size ≤ 4000000000000000000) (hi : i < s.size) {k : Nat} (hk : 5 ≤ k) : boltingref01_Size.f k s (i : Int) = some (Chars.sizeL ((dat s).drop i) : Int) := by
  obtain ⟨k, rfl⟩ : ∃ m, k = m + 1 := ⟨k - 1, by omega⟩
  have hb := Chars.nb_lt (dat s) i
  have e1 : wrap64 ((i : Int) + 1) = ((i + 1 : Nat) : Int) := wrap_id (by omega) (by omega)
  have i1 := in_f s (i + 1) 128 191 hs
  unfold boltingref01_Size.f Chars.sizeL Chars.sizeN
  rw [if_pos (by omega), if_pos (by omega), bt_nb s hi, wrap_id (by omega) (by omega), e1, List.length_drop, dat_len, nb_drop, nb_drop, nb_drop, nb_drop]
  have n1 : (1 < s.size - i) = (i + 1 < s.size) := propext ⟨fun h => by omega, fun h => by omega⟩
  have n2 : (2 < s.size - i) = (i + 2 < s.size) := propext ⟨fun h => by omega, fun h => by omega⟩
  have n3 : (3 < s.size - i) = (i + 3 < s.size) := propext ⟨fun h => by omega, fun h => by omega⟩
  simp only [n1, n2, n3, Nat.add_zero]
  generalize hc : Chars.nb (dat s) i = c at hb ⊢
  by_cases c0 : c < 128
  · rw [if_pos (by omega), if_pos c0]; rfl
  · rw [if_neg (show ¬ (c : Int) < 128 by omega), if_neg c0]
    have hj0 : boltingref01_Size.j0 (k + 1) s (i : Int) (c : Int) false = some (if (i + 1 < s.size ∧ (if c = 224 then 160 else if c = 240 then 144 else 128) ≤ Chars.nb (dat s) (i + 1) ∧ Chars.nb (dat s) (i + 1) ≤ (if c = 237 then 159 else if c = 244 then 143 else 191)) ∧ (i + 2 < s.size ∧ 128 ≤ Chars.nb (dat s) (i + 2) ∧ Chars.nb (dat s) (i + 2) ≤ 191) then
        (if 224 ≤ c ∧ c ≤ 239 then 3 else if (240 ≤ c ∧ c ≤ 244) ∧ (i + 3 < s.size ∧ 128 ≤ Chars.nb (dat s) (i + 3) ∧ Chars.nb (dat s) (i + 3) ≤ 191) then 4 else 0) else 0) := by
      simp only [boltingref01_Size.j0]
      rw [if_neg (by simp)]
      by_cases d1 : c = 224
      · subst d1
        rw [if_pos (by rfl)]
        exact size_j1 s i 224 160 191 hs hi (by omega)
      rw [if_neg (by omega)]
      by_cases d2 : c = 237
      · subst d2
        rw [if_pos (by rfl)]
        exact size_j1 s i 237 128 159 hs hi (by omega)
      rw [if_neg (by omega)]
      by_cases d3 : c = 240
      · subst d3
        rw [if_pos (by rfl)]
        exact size_j1 s i 240 144 191 hs hi (by omega)
      rw [if_neg (by omega)]
      by_cases d4 : c = 244
      · subst d4
        rw [if_pos (by rfl)]
        exact size_j1 s i 244 128 143 hs hi (by omega)
      rw [if_neg (show ¬ (c : Int) = 244 by omega), if_neg d1, if_neg d3, if_neg d2, if_neg d4]
      exact size_j1 s i c 128 191 hs hi (by omega)
    have hj0t : boltingref01_Size.j0 (k + 1) s (i : Int) (c : Int) true = some 2 := by
      simp only [boltingref01_Size.j0]
      rw [if_pos trivial]
    have cast : ∀ (p q r : Prop) [Decidable p] [Decidable q] [Decidable r], (some (if p then (if q then 3 else if r then 4 else 0) else 0) : Option Int) = some ((if p then (if q then 3 else if r then 4 else 0) else 0 : Nat) : Int) := fun p q r _ _ _ => by
      repeat' split
      all_goals rfl
    rw [cast] at hj0
    generalize (if (i + 1 < s.size ∧ (if c = 224 then 160 else if c = 240 then 144 else 128) ≤ Chars.nb (dat s) (i + 1) ∧ Chars.nb (dat s) (i + 1) ≤ (if c = 237 then 159 else if c = 244 then 143 else 191)) ∧ (i + 2 < s.size ∧ 128 ≤ Chars.nb (dat s) (i + 2) ∧ Chars.nb (dat s) (i + 2) ≤ 191) then
        (if 224 ≤ c ∧ c ≤ 239 then 3 else if (240 ≤ c ∧ c ≤ 244) ∧ (i + 3 < s.size ∧ 128 ≤ Chars.nb (dat s) (i + 3) ∧ Chars.nb (dat s) (i + 3) ≤ 191) then 4 else 0) else 0 : Nat) = V at hj0 ⊢
    have i1' : boltingref01_in.f s ((i + 1 : Nat) : Int) 128 191 = some (decide (i + 1 < s.size ∧ 128 ≤ Chars.nb (dat s) (i + 1) ∧ Chars.nb (dat s) (i + 1) ≤ 191)) := i1
    by_cases c1 : 194 ≤ c
    · rw [if_pos (show (c : Int) ≥ 194 by omega)]
      by_cases c2 : c ≤ 223
      · rw [if_pos (show (c : Int) ≤ 223 by omega), i1']
        simp only [Option.bind_some]
        by_cases h1 : i + 1 < s.size ∧ 128 ≤ Chars.nb (dat s) (i + 1) ∧ Chars.nb (dat s) (i + 1) ≤ 191
        · rw [decide_eq_true h1, hj0t, if_pos ⟨⟨c1, c2⟩, h1⟩]; rfl
        · rw [decide_eq_false h1, hj0, if_neg (fun z => h1 z.2)]
      · rw [if_neg (show ¬ (c : Int) ≤ 223 by omega), hj0, if_neg (fun z => c2 z.1.2)]
    · rw [if_neg (show ¬ (c : Int) ≥ 194 by omega), hj0, if_neg (fun z => c1 z.1.1)]
theorem drop_at {s : ByteArray} {i : Nat} (hi : i < s.size) : ∃ c, (dat s)[i]? = some c ∧ (dat s).drop i = c :: (dat s).drop (i + 1) ∧ bt s (i : Int) = (c.toNat : Int) := by
  have hb := byte_at s i hi
  refine ⟨_, hb, ?_, ?_⟩
  · rw [List.drop_eq_getElem?_toList_append, hb]; simp
  · rw [bt_nb s hi]
    unfold Chars.nb
    rw [List.getD_eq_getElem?_getD, hb]
    rfl
theorem wr (s : ByteArray) {i n : Nat} (hs : s.size ≤ 4000000000000000000) (h : i + n ≤ s.size) : wrap64 ((i : Int) + (n : Int)) = ((i + n : Nat) : Int) := by rw [wrap_id (by omega) (by omega)]; omega

/-! ### Right -/
theorem rright_l0 (s : ByteArray) (hs : s.size ≤ 4000000000000000000) (d : Nat) : ∀ i, s.size ≤ i + d → i ≤ s.size → ∀ k, d + 5 < k → boltingref01_Right.l0 k s (i : Int) = some (Chars.right ((dat s).drop i)) := by
  induction d with
  | zero =>
    intro i h h2 k hk
    obtain ⟨k, rfl⟩ : ∃ m, k = m + 1 := ⟨k - 1, by omega⟩
    simp only [boltingref01_Right.l0]
    rw [if_neg (by omega), List.drop_of_length_le (by rw [dat_len]; omega)]
    rfl
  | succ d ih =>
    intro i h h2 k hk
    obtain ⟨k, rfl⟩ : ∃ m, k = m + 1 := ⟨k - 1, by omega⟩
    simp only [boltingref01_Right.l0]
    by_cases hi : i < s.size
    · have hne := drop_ne hi
      have hle := Chars.size_le hne
      have hg := Chars.head_good hne
      have hst := Chars.step_le hne
      rw [List.length_drop, dat_len] at hle hst
      rw [if_pos (by omega), size_f s i hs hi (by omega)]
      simp only [Option.bind_some]
      have hr : Chars.right ((dat s).drop i) = (decide (Chars.sizeL ((dat s).drop i) ≠ 0) && Chars.right ((dat s).drop (i + Chars.step ((dat s).drop i)))) := by
        unfold Chars.right
        rw [Chars.chars_cons hne, List.all_cons, hg, List.drop_drop]
      rw [hr]
      by_cases h0 : Chars.sizeL ((dat s).drop i) = 0
      · rw [if_pos (by omega), decide_eq_false (by simp [h0]), Bool.false_and]
      · have e : Chars.step ((dat s).drop i) = Chars.sizeL ((dat s).drop i) := by unfold Chars.step; omega
        rw [if_neg (by omega), decide_eq_true h0, Bool.true_and, e, wr s hs (by omega)]
        exact ih _ (by omega) (by omega) k (by omega)
    · rw [if_neg (by omega), List.drop_of_length_le (by rw [dat_len]; omega)]
      rfl
theorem rright_f (s : ByteArray) (hs : s.size ≤ 4000000000000000000) {k : Nat} (hk : s.size + 5 < k) : boltingref01_Right.f k s = some (Chars.right (dat s)) := by
  have := rright_l0 s hs s.size 0 (by omega) (by omega) k hk
  rw [List.drop_zero] at this
  exact this
/-! ### Decode -/
def toI (l : List UInt8) : List Int := l.map fun c => (c.toNat : Int)
theorem toI_app (a b : List UInt8) : toI a ++ toI b = toI (a ++ b) := by simp [toI]
theorem toI_len (l : List UInt8) : (toI l).length = l.length := by simp [toI]
theorem str_toI (l : List UInt8) : strOfNums (toI l) = mkS l := by
  simp [strOfNums, toI, mkS, List.map_map, Function.comp_def]
theorem bytes_toI (s : ByteArray) : bytesOf s = toI (dat s) := rfl
theorem odd_toI : ([239, 191, 189] : List Int) = toI Chars.odd := rfl
theorem rdecode_l0 (s : ByteArray) (hs : s.size ≤ 1000000000) (d : Nat) : ∀ i acc, s.size ≤ i + d → i ≤ s.size → acc.length ≤ 3 * i → ∀ k, d + 5 < k → boltingref01_Decode.l0 k s (toI acc) (i : Int) = some (mkS (acc ++ Chars.decode ((dat s).drop i))) := by
  induction d with
  | zero =>
    intro i acc h h2 hl k hk
    obtain ⟨k, rfl⟩ : ∃ m, k = m + 1 := ⟨k - 1, by omega⟩
    simp only [boltingref01_Decode.l0]
    rw [if_neg (by omega), List.drop_of_length_le (by rw [dat_len]; omega), str_toI, Chars.decode_nil, List.append_nil]
  | succ d ih =>
    intro i acc h h2 hl k hk
    obtain ⟨k, rfl⟩ : ∃ m, k = m + 1 := ⟨k - 1, by omega⟩
    simp only [boltingref01_Decode.l0]
    by_cases hi : i < s.size
    · have hne := drop_ne hi
      have hg := Chars.head_good hne
      have hst := Chars.step_le hne
      rw [List.length_drop, dat_len] at hst
      obtain ⟨c, hc, hcd, hbt⟩ := drop_at hi
      have hodd : Chars.odd.length = 3 := rfl
      have hsz := toI_len acc
      rw [if_pos (by omega), size_f s i (by omega) hi (by omega)]
      simp only [Option.bind_some]
      rw [Chars.decode_cons hne, List.drop_drop]
      by_cases h0 : Chars.sizeL ((dat s).drop i) = 0
      · have e : Chars.step ((dat s).drop i) = 1 := by unfold Chars.step; rw [h0]; rfl
        have er : Chars.repl (((dat s).drop i).take 1) = Chars.odd := by
          rw [e, h0] at hg
          unfold Chars.repl
          rw [if_neg (by rw [hg]; simp)]
        rw [if_pos (by omega), odd_toI, if_pos (by rw [toI_len, toI_len, hodd]; omega), e, er, toI_app, show ((i : Int) + 1) = (i : Int) + ((1 : Nat) : Int) from rfl, wr s (by omega) (by omega), ← List.append_assoc]
        exact ih (i + 1) _ (by omega) (by omega) (by rw [List.length_append, hodd]; omega) k (by omega)
      · have e : Chars.step ((dat s).drop i) = Chars.sizeL ((dat s).drop i) := by unfold Chars.step; omega
        rw [if_neg (by omega), if_pos (by omega), hbt]
        by_cases hz : c.toNat = 0
        · have hc0 : c = 0 := by rw [← UInt8.toNat_inj]; exact hz
          have e1 : Chars.sizeL ((dat s).drop i) = 1 := by rw [hcd]; exact Chars.size_small (by omega)
          have er : Chars.repl (((dat s).drop i).take 1) = Chars.odd := by
            rw [hcd, hc0]
            show Chars.repl [0] = Chars.odd
            decide
          rw [if_pos (by omega), odd_toI, if_pos (by rw [toI_len, toI_len, hodd]; omega), e, e1, er, toI_app, show ((i : Int) + 1) = (i : Int) + ((1 : Nat) : Int) from rfl, wr s (by omega) (by omega), ← List.append_assoc]
          exact ih (i + 1) _ (by omega) (by omega) (by rw [List.length_append, hodd]; omega) k (by omega)
        · have er : Chars.repl (((dat s).drop i).take (Chars.step ((dat s).drop i))) = ((dat s).drop i).take (Chars.step ((dat s).drop i)) := by
            have hn0 : ((dat s).drop i).take (Chars.step ((dat s).drop i)) ≠ [0] := fun z => by
              rw [hcd] at z
              have hst1 := Chars.step_pos ((dat s).drop i)
              rw [hcd] at hst1
              obtain ⟨n, hn⟩ : ∃ n, Chars.step (c :: (dat s).drop (i + 1)) = n + 1 := ⟨Chars.step (c :: (dat s).drop (i + 1)) - 1, by omega⟩
              rw [hn, List.take_succ_cons] at z
              exact hz (by rw [(List.cons.inj z).1]; rfl)
            unfold Chars.repl
            rw [if_pos ⟨by rw [hg]; exact decide_eq_true h0, hn0⟩]
          have hex : dat (s.extract i (i + Chars.step ((dat s).drop i))) = ((dat s).drop i).take (Chars.step ((dat s).drop i)) := by
            show (s.extract i _).data.toList = _
            rw [Lib.extract_data, Nat.add_sub_cancel_left]
          have hexs : (s.extract i (i + Chars.step ((dat s).drop i))).size = Chars.step ((dat s).drop i) := by
            rw [← dat_len, hex, List.length_take, List.length_drop, dat_len]; omega
          have h4 := Chars.size_le4 hne
          rw [if_neg (by omega), ← e, wr s (by omega) (by omega), if_pos (by omega), if_pos (by omega), Int.toNat_natCast, Int.toNat_natCast, if_pos (by rw [hexs, toI_len]; omega), bytes_toI, hex, toI_app, er, ← List.append_assoc]
          exact ih _ _ (by have := Chars.step_pos ((dat s).drop i); omega) (by omega) (by rw [List.length_append, List.length_take]; have := Chars.step_pos ((dat s).drop i); omega) k (by omega)
    · rw [if_neg (by omega), List.drop_of_length_le (by rw [dat_len]; omega), str_toI, Chars.decode_nil, List.append_nil]
theorem rdecode_f (s : ByteArray) (hs : s.size ≤ 1000000000) {k : Nat} (hk : s.size + 5 < k) : boltingref01_Decode.f k s = some (mkS (Chars.decode (dat s))) := by
  have := rdecode_l0 s hs s.size 0 [] (by omega) (by omega) (by simp) k hk
  rw [List.drop_zero] at this
  exact this
/-! ### Lines -/
theorem rlines_l0 (s : ByteArray) (hs : s.size ≤ 100000000000) (d : Nat) : ∀ i acc, s.size ≤ i + d → i ≤ s.size → acc.length ≤ i → ∀ k, d < k → boltingref01_Lines.l0 k s (toI acc) (i : Int) = some (mkS (acc ++ Chars.lines ((dat s).drop i))) := by
  induction d using Nat.strongRecOn with
  | _ d ih =>
    intro i acc h h2 hl k hk
    obtain ⟨k, rfl⟩ : ∃ m, k = m + 1 := ⟨k - 1, by omega⟩
    have hsz := toI_len acc
    simp only [boltingref01_Lines.l0]
    by_cases hi : i < s.size
    · obtain ⟨c, hc, hcd, hbt⟩ := drop_at hi
      have e1 : wrap64 ((i : Int) + 1) = ((i + 1 : Nat) : Int) := wr s (n := 1) (by omega) (by omega)
      have sn : ∀ (x : UInt8), toI acc ++ [(x.toNat : Int)] = toI (acc ++ [x]) := fun x => by simp [toI]
      rw [if_pos (by omega), if_pos (by omega), hbt, e1, hcd]
      have ne (x y : UInt8) (h : x ≠ y) : ¬ ((x.toNat : Int) = (y.toNat : Int)) := fun z => h (UInt8.toNat_inj.1 (by omega))
      by_cases h13 : c = 13
      · subst h13
        rw [if_pos (by rfl), if_pos (by omega), show ([10] : List Int) = [((10 : UInt8).toNat : Int)] from rfl, sn]
        simp only [Option.bind_some]
        by_cases hi2 : i + 1 < s.size
        · obtain ⟨b, hb, hbd, hbt2⟩ := drop_at hi2
          rw [if_pos (by omega), if_pos (by omega), hbt2, hbd]
          by_cases h10 : b = 10
          · subst h10
            rw [if_pos (by rfl), Chars.lines_crlf]
            clear hbt hbt2 hb hc hbd hcd
            have e2 : wrap64 (((i + 1 : Nat) : Int) + 1) = ((i + 2 : Nat) : Int) := wr s (i := i + 1) (n := 1) (by omega) (by omega)
            rw [e2, ih (d - 2) (by omega) (i + 2) _ (by omega) (by omega) (by rw [List.length_append]; simp; omega) k (by omega), List.append_assoc]
            rfl
          · rw [if_neg (show ¬ ((b.toNat : Int) = 10) from ne b 10 h10), Chars.lines_cr (fun u z => h10 (List.cons.inj z).1), ← hbd, ih (d - 1) (by omega) (i + 1) _ (by omega) (by omega) (by rw [List.length_append]; simp; omega) k (by omega), List.append_assoc]
            rfl
        · rw [if_neg (by omega), ih (d - 1) (by omega) (i + 1) _ (by omega) (by omega) (by rw [List.length_append]; simp; omega) k (by omega), List.drop_of_length_le (show (dat s).length ≤ i + 1 by rw [dat_len]; omega)]
          simp [Chars.lines]
      · rw [if_neg (show ¬ ((c.toNat : Int) = 13) from ne c 13 h13), if_pos (by omega), sn, Chars.lines_cons h13, ih (d - 1) (by omega) (i + 1) _ (by omega) (by omega) (by rw [List.length_append]; simp; omega) k (by omega), List.append_assoc]
        rfl
    · rw [if_neg (by omega), List.drop_of_length_le (by rw [dat_len]; omega), str_toI]
      simp [Chars.lines]
theorem rlines_f (s : ByteArray) (hs : s.size ≤ 100000000000) {k : Nat} (hk : s.size < k) : boltingref01_Lines.f k s = some (mkS (Chars.lines (dat s))) := by
  have := rlines_l0 s hs s.size 0 [] (by omega) (by omega) (by simp) k hk
  rw [List.drop_zero] at this
  exact this
/-! ### Sample -/
theorem At.take_len {l : List UInt8} {k pos : Nat} (h : At l k pos) (hp : pos ≤ l.length) : (Chars.sample l k).length = pos := by
  have := congrArg List.length h.2.1
  rw [List.length_take] at this
  unfold Chars.sample
  omega
theorem rsample_l0 (s : ByteArray) (hs : s.size ≤ 4000000000000000000) (n : Int) (d : Nat) : ∀ i kk e, s.size ≤ i + d → i ≤ s.size → kk ≤ i → At (dat s) kk i → e = (Chars.sample (dat s) (min kk n.toNat)).length → ∀ k, d + 5 < k →
    boltingref01_Sample.l0 k s n (kk : Int) (e : Int) (i : Int) = some (mkS (Chars.sample (dat s) n.toNat), (Chars.count (dat s) : Int)) := by
  have hc : ∀ kk i, At (dat s) kk i → kk ≤ Chars.count (dat s) := fun kk i hA => At.cnt hA
  have fin : ∀ i kk e, s.size ≤ i → At (dat s) kk i → e = (Chars.sample (dat s) (min kk n.toNat)).length → (if (0 : Int) ≤ (e : Int) then (if (e : Int) ≤ (s.size : Int) then some (s.extract 0 ((e : Int)).toNat, (kk : Int)) else none) else none) = some (mkS (Chars.sample (dat s) n.toNat), (Chars.count (dat s) : Int)) := by
    intro i kk e h hA he
    have hdr := congrArg List.length hA.1
    rw [List.drop_of_length_le (show (dat s).length ≤ i by rw [dat_len]; omega), List.length_drop] at hdr
    simp only [Chars.chars_nil, List.length_nil] at hdr
    have hcnt : Chars.count (dat s) ≤ kk := by unfold Chars.count; omega
    have hle := Chars.sample_le (dat s) (min kk n.toNat)
    rw [dat_len] at hle
    have h1 : Chars.sample (dat s) (min kk n.toNat) = Chars.sample (dat s) n.toNat := by
      by_cases c : n.toNat ≤ kk
      · rw [Nat.min_eq_right c]
      · rw [Nat.min_eq_left (by omega), Chars.sample_all hcnt, Chars.sample_all (by omega)]
    rw [if_pos (by omega), if_pos (by omega), Int.toNat_natCast, extract_take, he, Chars.sample_pre, h1]
    have hkc : kk = Chars.count (dat s) := by
      have h5 := hc kk i hA
      omega
    rw [← hkc]
  have stepw : ∀ (i m : Nat), wrap64 ((i : Int) + mx 1 (m : Int)) = wrap64 ((i : Int) + ((max 1 m : Nat) : Int)) := fun i m => by
    congr 2
    unfold mx
    split <;> omega
  induction d with
  | zero =>
    intro i kk e h h2 hkk hA he k hk
    obtain ⟨k, rfl⟩ : ∃ m, k = m + 1 := ⟨k - 1, by omega⟩
    simp only [boltingref01_Sample.l0]
    rw [if_neg (by omega)]
    exact fin i kk e (by omega) hA he
  | succ d ih =>
    intro i kk e h h2 hkk hA he k hk
    obtain ⟨k, rfl⟩ : ∃ m, k = m + 1 := ⟨k - 1, by omega⟩
    simp only [boltingref01_Sample.l0]
    by_cases hi : i < s.size
    · have hne := drop_ne hi
      have hst := Chars.step_le hne
      have hst1 := Chars.step_pos ((dat s).drop i)
      rw [List.length_drop, dat_len] at hst
      have hA2 := hA.next hne
      have hst2 : max 1 (Chars.sizeL ((dat s).drop i)) = Chars.step ((dat s).drop i) := rfl
      have hlen2 := At.take_len hA2 (by rw [dat_len]; omega)
      rw [if_pos (by omega), size_f s i hs hi (by omega)]
      simp only [Option.bind_some]
      rw [stepw, hst2, wr s hs (by omega), show ((kk : Int) + 1) = (kk : Int) + ((1 : Nat) : Int) from rfl, wr s (i := kk) (n := 1) hs (by omega)]
      by_cases hk1 : (kk : Int) < n
      · rw [if_pos hk1]
        refine ih _ (kk + 1) _ (by omega) (by omega) (by omega) hA2 ?_ k (by omega)
        rw [Nat.min_eq_left (by omega), hlen2]
      · rw [if_neg hk1]
        refine ih _ (kk + 1) e (by omega) (by omega) (by omega) hA2 ?_ k (by omega)
        rw [he, Nat.min_eq_right (by omega), Nat.min_eq_right (by omega)]
    · rw [if_neg (by omega)]
      exact fin i kk e (by omega) hA he
theorem rsample_f (s : ByteArray) (hs : s.size ≤ 4000000000000000000) (n : Int) (hn : n ≤ 9223372036854775807) {k : Nat} (hk : s.size + 5 < k) : boltingref01_Sample.f k s n = some (mkS (Chars.sample (dat s) n.toNat), (Chars.count (dat s) : Int)) := by
  have := rsample_l0 s hs n s.size 0 0 0 (by omega) (by omega) (by omega) (At.start _) (by rw [Nat.zero_min]; rfl) k hk
  exact this
/-! ### chars' own -/
set_option maxRecDepth 100000 in
theorem fixed_f : boltinglaw01_fixed.f = some true := by decide +kernel
theorem decode_f (s : ByteArray) (h : s.size ≤ 1000000000) : chars_Decode.f s = some (mkS (Chars.decode (dat s))) := by unfold chars_Decode.f; rw [if_pos h]
theorem lines_f (s : ByteArray) (h : s.size ≤ 1000000000) : chars_Lines.f s = some (mkS (Chars.lines (dat s))) := by unfold chars_Lines.f; rw [if_pos h]
theorem right_f (s : ByteArray) (h : s.size ≤ 9223372036854775807) : chars_Right.f s = some (Chars.right (dat s)) := by unfold chars_Right.f; rw [if_pos h]
theorem count_f (s : ByteArray) (h : s.size < 9223372036854775807) : chars_Count.f s = some (Chars.count (dat s) : Int) := by unfold chars_Count.f; rw [if_pos h]
theorem sample_f (s : ByteArray) (n : Int) (h : s.size ≤ 140737488355328) : chars_Sample.f s n = some (mkS (Chars.sample (dat s) n.toNat)) := by unfold chars_Sample.f; rw [if_pos h]
theorem dat_mk (l : List UInt8) : dat (mkS l) = l := rfl
theorem decode_size (s : ByteArray) : (mkS (Chars.decode (dat s))).size ≤ 3 * s.size := by rw [mkS_size, ← dat_len]; exact Chars.decode_len _
theorem lines_size (s : ByteArray) : (mkS (Chars.lines (dat s))).size ≤ s.size := by rw [mkS_size, ← dat_len]; exact Chars.lines_len _
theorem ready_f (s : ByteArray) (h : s.size ≤ 300000000) : chars_Ready.f s = some (mkS (Chars.ready (dat s))) := by
  have h2 := decode_size s
  unfold chars_Ready.f
  rw [decode_f s (by omega)]
  simp only [Option.bind_some]
  rw [lines_f _ (by omega)]
  rfl
theorem ready_size (s : ByteArray) : (mkS (Chars.ready (dat s))).size ≤ 3 * s.size := by
  rw [mkS_size, ← dat_len]
  have h1 := Chars.lines_len (Chars.decode (dat s))
  have h2 := Chars.decode_len (dat s)
  show (Chars.lines (Chars.decode (dat s))).length ≤ _
  omega
end Go.Proofs.YtaeikiigdfgmaaaDoor.Pure
