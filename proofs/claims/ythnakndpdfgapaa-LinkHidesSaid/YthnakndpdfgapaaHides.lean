/- What does not count makes no difference to a scheme, nor do great letters; plain Lean. -/
import Derived.Test.YthnakndpdfgapaaLinkLaws
namespace Go.Proofs.Ythnakndpdfgapaa.Pure
set_option linter.unusedVariables false
set_option linter.unusedSimpArgs false
open Go.RowKit Go.Proofs.Ythnakndpdfgapaa.Pr Go.Proofs.YthnakndpdfgapaaW.PrintWords Go.Proofs.YthnakndpdfgapaaW.PrintLast

theorem bef_cons (c : UInt8) (t : List UInt8) (h : c ≠ 58) : bef 58 (c :: t) = c :: bef 58 t := by unfold bef; simp [List.takeWhile_cons, h]
theorem bef_58 (t : List UInt8) : bef 58 (58 :: t) = [] := by unfold bef; simp [List.takeWhile_cons]
theorem bef_ins {c : UInt8} (h1 : keep c = false) (h2 : c ≠ 58) : ∀ a b : List UInt8, (bef 58 (a ++ c :: b)).filter keep = (bef 58 (a ++ b)).filter keep
  | [], b => by rw [List.nil_append, List.nil_append, bef_cons c b h2, List.filter_cons, if_neg (by simp [h1])]
  | x :: a, b => by
    by_cases hx : x = 58
    · subst hx; rw [List.cons_append, List.cons_append, bef_58, bef_58]
    · rw [List.cons_append, List.cons_append, bef_cons x _ hx, bef_cons x _ hx, List.filter_cons, List.filter_cons, bef_ins h1 h2 a b]
theorem pre_ins {c : UInt8} (h0 : ws c = true) (h1 : keep c = false) (h2 : c ≠ 58) : ∀ a b : List UInt8, pre (a ++ c :: b) = pre (a ++ b)
  | [], b => by unfold pre; rw [List.nil_append, List.nil_append, List.dropWhile_cons, if_pos h0]
  | x :: a, b => by
    have ih := pre_ins h0 h1 h2 a b
    unfold pre at ih ⊢
    rw [List.cons_append, List.cons_append, List.dropWhile_cons, List.dropWhile_cons]
    split
    · exact ih
    · have := bef_ins h1 h2 (x :: a) b
      exact this
theorem contains_ins {c : UInt8} (h2 : c ≠ 58) (a b : List UInt8) : (a ++ c :: b).contains 58 = (a ++ b).contains 58 := by
  rw [List.contains_eq_mem, List.contains_eq_mem]
  congr 1
  simp [Ne.symm h2]
/-- What two texts must have alike. -/
def Alike (l m : List UInt8) : Prop := l.contains 58 = m.contains 58 ∧ okName (pre l) = okName (pre m) ∧ lower (pre l) = lower (pre m)
theorem Alike.refl (l : List UInt8) : Alike l l := ⟨rfl, rfl, rfl⟩
theorem Alike.trans {a b c : List UInt8} (h : Alike a b) (k : Alike b c) : Alike a c := ⟨h.1.trans k.1, h.2.1.trans k.2.1, h.2.2.trans k.2.2⟩
theorem Alike.scheme {l m : List UInt8} (h : Alike l m) : scheme l = scheme m := by rw [scheme_pre, scheme_pre, h.1, h.2.1, h.2.2]
theorem alike_ins {c : UInt8} (hc : c = 9 ∨ c = 10 ∨ c = 13) (a b : List UInt8) : Alike (a ++ b) (a ++ c :: b) := by
  have h : ws c = true ∧ keep c = false ∧ c ≠ 58 := by rcases hc with rfl | rfl | rfl <;> decide
  refine ⟨(contains_ins h.2.2 a b).symm, ?_, ?_⟩ <;> rw [pre_ins h.1 h.2.1 h.2.2]
/-- Great letters. -/
def gr (c : UInt8) : UInt8 := if 97 ≤ c.toNat ∧ c.toNat ≤ 122 then c - 32 else c
theorem gr_all : ∀ c : UInt8, ws (gr c) = ws c ∧ keep (gr c) = keep c ∧ (gr c = 58 ↔ c = 58) ∧ letter (gr c) = letter c ∧ inScheme (gr c) = inScheme c ∧ low (gr c) = low c := by
  have h : ∀ n, n < 256 → ws (gr (UInt8.ofNat n)) = ws (UInt8.ofNat n) ∧ keep (gr (UInt8.ofNat n)) = keep (UInt8.ofNat n) ∧ (gr (UInt8.ofNat n) = 58 ↔ (UInt8.ofNat n) = 58) ∧ letter (gr (UInt8.ofNat n)) = letter (UInt8.ofNat n) ∧ inScheme (gr (UInt8.ofNat n)) = inScheme (UInt8.ofNat n) ∧ low (gr (UInt8.ofNat n)) = low (UInt8.ofNat n) := by decide +kernel
  intro c
  have := h c.toNat c.toNat_lt
  rwa [UInt8.ofNat_toNat] at this
theorem bef_gr : ∀ l : List UInt8, bef 58 (l.map gr) = (bef 58 l).map gr
  | [] => rfl
  | c :: t => by
    by_cases h : c = 58
    · subst h; rw [List.map_cons, show gr 58 = 58 by decide, bef_58, bef_58]; rfl
    · rw [List.map_cons, bef_cons _ _ (fun e => h ((gr_all c).2.2.1.1 e)), bef_cons _ _ h, bef_gr t]; rfl
theorem drop_gr : ∀ l : List UInt8, (l.map gr).dropWhile ws = (l.dropWhile ws).map gr
  | [] => rfl
  | c :: t => by
    rw [List.map_cons, List.dropWhile_cons, List.dropWhile_cons, (gr_all c).1]
    split
    · exact drop_gr t
    · rfl
theorem filter_gr : ∀ l : List UInt8, (l.map gr).filter keep = (l.filter keep).map gr
  | [] => rfl
  | c :: t => by
    rw [List.map_cons, List.filter_cons, List.filter_cons, (gr_all c).2.1, filter_gr t]
    split <;> rfl
theorem contains_gr : ∀ l : List UInt8, (l.map gr).contains 58 = l.contains 58
  | [] => rfl
  | c :: t => by
    rw [List.map_cons, List.contains_cons, List.contains_cons, contains_gr t]
    have := (gr_all c).2.2.1
    congr 1
    rw [Bool.eq_iff_iff, beq_iff_eq, beq_iff_eq]
    exact ⟨fun e => (this.1 e.symm).symm, fun e => (this.2 e.symm).symm⟩
theorem ok_gr (l : List UInt8) : okName (l.map gr) = okName l := by
  cases l with
  | nil => rfl
  | cons c t =>
    have h : ∀ l : List UInt8, (l.map gr).all inScheme = l.all inScheme := by
      intro l
      induction l with
      | nil => rfl
      | cons a b ih => rw [List.map_cons, List.all_cons, List.all_cons, ih, (gr_all a).2.2.2.2.1]
    show (letter (gr c) && ((c :: t).map gr).all inScheme) = (letter c && (c :: t).all inScheme)
    rw [h, (gr_all c).2.2.2.1]
theorem lower_gr (l : List UInt8) : lower (l.map gr) = lower l := by
  unfold lower
  rw [List.map_map]
  congr 1
  funext c
  exact (gr_all c).2.2.2.2.2
theorem alike_gr (l : List UInt8) : Alike l (l.map gr) := by
  have h : pre (l.map gr) = (pre l).map gr := by unfold pre; rw [drop_gr, bef_gr, filter_gr]
  refine ⟨(contains_gr l).symm, ?_, ?_⟩
  · rw [h, ok_gr]
  · rw [h, lower_gr]
/-- Great letters, if they are asked for: what stands after k rounds. -/
def ug (great : Bool) (c : UInt8) : UInt8 := if great then gr c else c
def gcur (great : Bool) (l : List UInt8) (k : Nat) : List UInt8 := (l.take k).map (ug great) ++ l.drop k
theorem gcur_len (g : Bool) (l : List UInt8) (k : Nat) : (gcur g l k).length = l.length := by simp [gcur]; omega
theorem gcur_at (g : Bool) (l : List UInt8) (k : Nat) (h : k < l.length) : (gcur g l k)[k]? = l[k]? := by
  unfold gcur
  rw [List.getElem?_append_right (by simp; omega)]
  simp [Nat.min_eq_left (Nat.le_of_lt h)]
theorem gcur_step {g : Bool} {l : List UInt8} {k : Nat} {c : UInt8} (h : l[k]? = some c) : (gcur g l k).set k (ug g c) = gcur g l (k + 1) := by
  have hl : k < l.length := (List.getElem?_eq_some_iff.1 h).1
  have hd : l.drop k = c :: l.drop (k + 1) := by rw [List.drop_eq_getElem?_toList_append, h]; simp
  unfold gcur
  rw [hd, List.set_append_right _ _ (by simp; omega), take_succ' h]
  simp [Nat.min_eq_left (Nat.le_of_lt hl)]
theorem gcur_same {g : Bool} {l : List UInt8} {k : Nat} {c : UInt8} (h : l[k]? = some c) (hc : ug g c = c) : gcur g l k = gcur g l (k + 1) := by
  have hl : k < l.length := (List.getElem?_eq_some_iff.1 h).1
  rw [← gcur_step h, hc]
  apply List.ext_getElem?
  intro i
  rw [List.getElem?_set]
  split
  · rename_i he
    subst he
    rw [if_pos (by rw [gcur_len]; exact hl), gcur_at g l k hl, h]
  · rfl
theorem gcur_end (g : Bool) (l : List UInt8) : gcur g l l.length = l.map (ug g) := by simp [gcur]
theorem alike_ug (g : Bool) (l : List UInt8) : Alike l (l.map (ug g)) := by
  cases g with
  | true => exact alike_gr l
  | false =>
    have : l.map (ug false) = l := by
      have e : ug false = id := by funext c; rfl
      rw [e, List.map_id]
    rw [this]; exact Alike.refl l
theorem gr_in {c : UInt8} (h0 : 97 ≤ c.toNat) (h1 : c.toNat ≤ 122) : ((gr c).toNat : Int) = (c.toNat : Int) - 32 := by
  have e : gr c = c - 32 := by unfold gr; rw [if_pos ⟨h0, h1⟩]
  have h2 : (32 : UInt8) ≤ c := by rw [UInt8.le_iff_toNat_le]; show 32 ≤ c.toNat; omega
  rw [e, UInt8.toNat_sub_of_le _ _ h2]
  show ((c.toNat - 32 : Nat) : Int) = _
  omega
theorem gr_out {c : UInt8} (h : ¬ (97 ≤ c.toNat ∧ c.toNat ≤ 122)) : gr c = c := by unfold gr; rw [if_neg h]
theorem script_alike {l m : List UInt8} (h : Alike l m) : script l = script m := by unfold script; rw [h.scheme]
theorem alike_step {X t : List UInt8} (h : Alike X t) (q : Nat) (c : UInt8) (hc : c = 9 ∨ c = 10 ∨ c = 13) : Alike X (t.take q ++ c :: t.drop q) :=
  h.trans (by
    have := alike_ins hc (t.take q) (t.drop q)
    rwa [List.take_append_drop] at this)
/-- Between what does not count. -/
theorem scheme_around (l : List UInt8) : scheme ([1, 32] ++ l ++ [32, 31]) = scheme l := by
  rw [scheme_pre, scheme_pre]
  have hc : ([1, 32] ++ l ++ [32, 31]).contains 58 = l.contains 58 := by
    rw [List.contains_eq_mem, List.contains_eq_mem]
    congr 1
    simp
  rw [hc]
  cases h : l.contains 58 with
  | false => rfl
  | true =>
    have hp : pre ([1, 32] ++ l ++ [32, 31]) = pre l := by
      have e : pre ([1, 32] ++ (l ++ [32, 31])) = pre (l ++ [32, 31]) := by
        unfold pre
        rw [show [1, 32] ++ (l ++ [32, 31]) = 1 :: 32 :: (l ++ [32, 31]) from rfl, List.dropWhile_cons, if_pos (by decide), List.dropWhile_cons, if_pos (by decide)]
      rw [List.append_assoc, e, pre_app h]
    rw [hp]
end Go.Proofs.Ythnakndpdfgapaa.Pure
