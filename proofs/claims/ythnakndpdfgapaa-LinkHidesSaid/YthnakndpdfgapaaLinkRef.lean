/- What the reference's functions of layer 9 come to: plain Lean over the printed functions. -/
import Derived.Test.YthnakndpdfgapaaPrx
namespace Go.Proofs.Ythnakndpdfgapaa.Pure
set_option linter.unusedVariables false
set_option linter.unusedSimpArgs false
open Go.RowKit Go.Proofs.Ythnakndpdfgapaa.Pr Go.Proofs.YthnakndpdfgapaaW.PrintWords Go.Proofs.YthnakndpdfgapaaW.PrintLast

theorem wrap_succ {i : Int} (h0 : -1 ≤ i) (h : i < 9000000000000000000) : wrap64 (i + 1) = i + 1 := by unfold wrap64; omega
theorem wrap_id {i : Int} (h0 : -9000000000000000000 ≤ i) (h : i < 9000000000000000000) : wrap64 i = i := by unfold wrap64; omega
theorem bt_c {s : ByteArray} {k : Nat} {c : UInt8} (h : s.data.toList[k]? = some c) : bt s (k : Int) = (c.toNat : Int) := by
  have hl : k < s.data.toList.length := (List.getElem?_eq_some_iff.1 h).1
  have hl' : k < s.size := by simpa using hl
  have := byte_at s k hl'
  rw [h] at this
  unfold bt
  rw [dif_pos (by simpa using hl')]
  simp only [Int.toNat_natCast]
  rw [← Option.some.inj this]
theorem at_some (s : ByteArray) {k : Nat} (h : k < s.size) : ∃ c, s.data.toList[k]? = some c := ⟨_, byte_at s k h⟩
theorem at_lt {s : ByteArray} {k : Nat} {c : UInt8} (h : s.data.toList[k]? = some c) : k < s.size := by
  have hl : k < s.data.toList.length := (List.getElem?_eq_some_iff.1 h).1
  simpa using hl
def toI (l : List UInt8) : List Int := l.map fun c => (c.toNat : Int)
theorem toI_snoc (l : List UInt8) (c : UInt8) : toI l ++ [(c.toNat : Int)] = toI (l ++ [c]) := by simp [toI]
theorem toI_len (l : List UInt8) : (toI l).length = l.length := by simp [toI]
theorem str_toI (l : List UInt8) : strOfNums (toI l) = mkS l := by
  simp [strOfNums, toI, mkS, List.map_map, Function.comp_def]
theorem mkS_data (s : ByteArray) : mkS s.data.toList = s := Lib.mk_data s
theorem mkS_list (l : List UInt8) : (mkS l).data.toList = l := rfl
theorem mkS_toList (l : List UInt8) : (mkS l).toList = l := by rw [Lib.toList_data]; rfl
theorem mkS_size (l : List UInt8) : (mkS l).size = l.length := by rw [Lib.size_eq]; rfl

/-! ### Strip -/
theorem rcut_append (p : UInt8 → Bool) (a b : List UInt8) : rcut p (a ++ b) = if rcut p b = [] then rcut p a else a ++ rcut p b := by
  unfold rcut
  rw [List.reverse_append, List.dropWhile_append]
  cases h : (b.reverse.dropWhile p) with
  | nil => simp
  | cons x t => simp
theorem lead_snoc (p : UInt8 → Bool) (l : List UInt8) (c : UInt8) : lead p (l ++ [c]) = if lead p l = l.length then (if p c then l.length + 1 else l.length) else lead p l := by
  unfold lead
  rw [List.takeWhile_append]
  split
  · simp only [List.takeWhile_cons, List.takeWhile_nil]
    split <;> simp
  · rfl
def F (l : List UInt8) : Int := if lead ws l = l.length then -1 else (lead ws l : Int)
def T (l : List UInt8) : Int := (tail ws l : Int) - 1
theorem F_ws {l : List UInt8} {c : UInt8} (h : ws c = true) : F (l ++ [c]) = F l := by
  unfold F
  rw [lead_snoc, h]
  have := lead_le ws l
  by_cases h1 : lead ws l = l.length
  · rw [if_pos h1, if_pos h1]; simp
  · rw [if_neg h1, if_neg h1, if_neg (by simp; omega)]
theorem F_non {l : List UInt8} {c : UInt8} (h : ws c = false) : F (l ++ [c]) = if F l < 0 then (l.length : Int) else F l := by
  unfold F
  rw [lead_snoc, h]
  have := lead_le ws l
  by_cases h1 : lead ws l = l.length
  · rw [if_pos h1, if_pos h1]; simp
  · rw [if_neg h1, if_neg h1, if_neg (by simp; omega), if_neg (by omega)]
theorem T_ws {l : List UInt8} {c : UInt8} (h : ws c = true) : T (l ++ [c]) = T l := by
  unfold T tail
  rw [rcut_append_one, h]; simp
theorem T_non {l : List UInt8} {c : UInt8} (h : ws c = false) : T (l ++ [c]) = l.length := by
  unfold T tail
  rw [rcut_append_one, h]; simp
theorem drop_nil_all {p : UInt8 → Bool} : ∀ {m : List UInt8}, m.dropWhile p = [] ↔ ∀ x ∈ m, p x = true
  | [] => by simp
  | c :: t => by
    rw [List.dropWhile_cons]
    by_cases h : p c = true
    · rw [if_pos h, drop_nil_all]; simp [h]
    · rw [if_neg h]; simp [h]
theorem lead_all {p : UInt8 → Bool} : ∀ {m : List UInt8}, lead p m = m.length ↔ ∀ x ∈ m, p x = true
  | [] => by simp [lead]
  | c :: t => by
    have ih := @lead_all p t
    unfold lead at ih ⊢
    rw [List.takeWhile_cons]
    by_cases h : p c = true
    · rw [if_pos h]; simp [h, ih]
    · rw [if_neg h]; simp [h]
theorem rcut_nil_iff {p : UInt8 → Bool} {l : List UInt8} : rcut p l = [] ↔ lead p l = l.length := by
  rw [lead_all]
  unfold rcut
  rw [List.reverse_eq_nil_iff, drop_nil_all]
  simp
theorem ref_strip_l1 (s : ByteArray) (e : Nat) (he : e ≤ s.size) (hs : s.size ≤ 1000000) : ∀ (d i : Nat) (acc : List UInt8), i + d = e → acc.length ≤ i → ∀ k, d < k →
    boltingref09_Strip.l1 k s ((e : Int) - 1) (toI acc) (i : Int) = some (mkS (acc ++ (((s.data.toList.drop i).take d).filter keep)))
  | 0, i, acc, h, hl, k, hk => by
    obtain ⟨k, rfl⟩ : ∃ m, k = m + 1 := ⟨k - 1, by omega⟩
    simp only [boltingref09_Strip.l1]
    rw [if_neg (by omega), str_toI]
    simp
  | d + 1, i, acc, h, hl, k, hk => by
    obtain ⟨k, rfl⟩ : ∃ m, k = m + 1 := ⟨k - 1, by omega⟩
    obtain ⟨c, hc⟩ := at_some s (show i < s.size by omega)
    simp only [boltingref09_Strip.l1]
    rw [if_pos (by omega), if_pos (by omega), if_pos (by omega), bt_c hc, wrap_succ (by omega) (by omega)]
    have hd : (s.data.toList.drop i).take (d + 1) = c :: (s.data.toList.drop (i + 1)).take d := by rw [drop_one hc]; rfl
    rw [hd, List.filter_cons]
    have e1 : ((i : Int) + 1) = ((i + 1 : Nat) : Int) := by omega
    rw [e1]
    by_cases k9 : c.toNat = 9
    · rw [if_pos (by omega), if_neg (by simp [keep, k9])]
      exact ref_strip_l1 s e he hs d (i + 1) acc (by omega) (by omega) k (by omega)
    by_cases k10 : c.toNat = 10
    · rw [if_neg (by omega), if_pos (by omega), if_neg (by simp [keep, k10])]
      exact ref_strip_l1 s e he hs d (i + 1) acc (by omega) (by omega) k (by omega)
    by_cases k13 : c.toNat = 13
    · rw [if_neg (by omega), if_neg (by omega), if_pos (by omega), if_neg (by simp [keep, k13])]
      exact ref_strip_l1 s e he hs d (i + 1) acc (by omega) (by omega) k (by omega)
    rw [if_neg (by omega), if_neg (by omega), if_neg (by omega), if_pos (by rw [toI_len]; omega), toI_snoc, if_pos (by simp [keep, k9, k10, k13])]
    have := ref_strip_l1 s e he hs d (i + 1) (acc ++ [c]) (by omega) (by simp; omega) k (by omega)
    rw [this]
    simp
theorem strip_parts (l : List UInt8) : (lead ws l = l.length ∧ strip l = [] ∧ tail ws l = 0) ∨ (lead ws l < l.length ∧ lead ws l ≤ tail ws l ∧ strip l = ((l.drop (lead ws l)).take (tail ws l - lead ws l)).filter keep) := by
  have hle := lead_le ws l
  rcases Nat.lt_or_ge (lead ws l) l.length with h | h
  · refine .inr ⟨h, ?_⟩
    have hsplit : l = l.take (lead ws l) ++ l.drop (lead ws l) := (List.take_append_drop _ _).symm
    obtain ⟨c, hc⟩ : ∃ c, l[lead ws l]? = some c := ⟨_, List.getElem?_eq_getElem h⟩
    have hnc := lead_stop_at ws l c hc
    have hne : rcut ws (l.drop (lead ws l)) ≠ [] := by
      rw [Ne, rcut_nil_iff]
      rw [drop_one hc]
      unfold lead
      simp [List.takeWhile_cons, hnc]
    have hr : rcut ws l = l.take (lead ws l) ++ rcut ws (l.drop (lead ws l)) := by
      conv => lhs; rw [hsplit]
      rw [rcut_append, if_neg hne]
    have ht : tail ws l = lead ws l + tail ws (l.drop (lead ws l)) := by
      unfold tail
      rw [hr]
      simp
      omega
    refine ⟨by omega, ?_⟩
    unfold strip
    rw [← drop_lead, rcut_take ws (l.drop (lead ws l))]
    rw [show tail ws l - lead ws l = tail ws (l.drop (lead ws l)) by omega]
  · have he : lead ws l = l.length := by omega
    refine .inl ⟨he, ?_, ?_⟩
    · unfold strip
      rw [← drop_lead, he]
      simp [rcut_nil]
    · unfold tail
      rw [rcut_nil_iff.2 he]; rfl
theorem ref_strip_l0 (s : ByteArray) (hs : s.size ≤ 1000000) : ∀ (d i : Nat), i + d = s.size → ∀ k, d + s.size + 1 < k →
    boltingref09_Strip.l0 k s (F (s.data.toList.take i)) (T (s.data.toList.take i)) (i : Int) = some (mkS (strip s.data.toList))
  | 0, i, h, k, hk => by
    obtain ⟨k, rfl⟩ : ∃ m, k = m + 1 := ⟨k - 1, by omega⟩
    simp only [boltingref09_Strip.l0]
    rw [if_neg (by omega), List.take_of_length_le (by rw [← Lib.size_eq]; omega)]
    rcases strip_parts s.data.toList with ⟨h1, h2, h3⟩ | ⟨h1, h2, h3⟩
    · unfold F T
      rw [if_pos h1, h3, h2]
      have := ref_strip_l1 s 0 (Nat.zero_le _) hs 0 0 [] rfl (Nat.le_refl _) k (by omega)
      simpa [mx, toI] using this
    · unfold F T
      rw [if_neg (by omega), h3]
      have htl := tail_le ws s.data.toList
      rw [← Lib.size_eq] at htl
      have := ref_strip_l1 s (tail ws s.data.toList) htl hs (tail ws s.data.toList - lead ws s.data.toList) (lead ws s.data.toList) [] (by omega) (Nat.zero_le _) k (by omega)
      rw [show mx 0 ((lead ws s.data.toList : Nat) : Int) = ((lead ws s.data.toList : Nat) : Int) by unfold mx; split <;> omega]
      simpa [toI] using this
  | d + 1, i, h, k, hk => by
    obtain ⟨k, rfl⟩ : ∃ m, k = m + 1 := ⟨k - 1, by omega⟩
    obtain ⟨c, hc⟩ := at_some s (show i < s.size by omega)
    have hlen : (s.data.toList.take i).length = i := by rw [List.length_take, ← Lib.size_eq]; omega
    have ih := ref_strip_l0 s hs d (i + 1) (by omega) k (by omega)
    rw [take_succ' hc] at ih
    simp only [boltingref09_Strip.l0]
    rw [if_pos (by omega), if_pos (by omega), bt_c hc, wrap_succ (by omega) (by omega), show ((i : Int) + 1) = ((i + 1 : Nat) : Int) by omega]
    by_cases hw : c.toNat ≤ 32
    · have hws : ws c = true := by simpa [ws] using hw
      rw [if_neg (by omega)]
      rwa [F_ws hws, T_ws hws] at ih
    · have hws : ws c = false := by simpa [ws] using hw
      rw [if_pos (by omega)]
      rw [F_non hws, T_non hws, hlen] at ih
      by_cases hf : F (s.data.toList.take i) < 0
      · rw [if_pos hf]
        rwa [if_pos hf] at ih
      · rw [if_neg hf]
        rwa [if_neg hf] at ih
theorem ref_strip (s : ByteArray) (hs : s.size ≤ 1000000) : ∀ k, 3000000 < k → boltingref09_Strip.f k s = some (mkS (strip s.data.toList)) := by
  intro k hk
  have := ref_strip_l0 s hs s.size 0 (by omega) k (by omega)
  simpa [F, T, lead, tail, rcut_nil, boltingref09_Strip.f] using this
end Go.Proofs.Ythnakndpdfgapaa.Pure
