import Derived.Test.YticacakoefojbaaGreatJCleanKeeps5
import Derived.Test.YticacakoefojbaaGreatJCleanKeeps3
import Derived.Test.YticacakoefojbaaGreatJCleanKeeps4
import Derived.Test.YticacakoefojbaaGreatJCleanKeeps1
import Derived.Test.YticacakoefojbaaGreatJCleanKeeps2
import Derived.OpenShut
import Derived.ShutString
import Derived.SizedLaws
import Derived.WalkKit
import Derived.ProofKit
import Derived.ChangeOld
import Derived.Below
import Derived.Test.YticacakoefojbaaGreatRows
set_option linter.unusedSimpArgs false
set_option linter.unusedVariables false
namespace Go.Proofs.YticacakoefojbaaGreat.Pure
open Go.RowKit Go.Proofs.YticacakoefojbaaGreat.Pr Go.Proofs.YticacakoefojbaaGreat.Fo Go.Proofs.YticacakoefojbaaGreatW.PrintWords Go.Proofs.YticacakoefojbaaGreatW.PrintLast Go.Proofs.YticacakoefojbaaGreatW.PrintMore

def uniq : List Atr → List Atr → Bool
 | _, [] => true
 | seen, a :: t => seen.all (fun b => !decide (a.f0 = b.f0)) && uniq (seen ++ [a]) t
def empB (s : ByteArray) : Bool := decide (s.size = 0)
def rowB (x : Rw) : Bool := if x.f1 = 1 ∨ x.f1 = 2 then empB x.f2 && decide (x.f4.length = 0) else decide (x.f1 = 0) && !empB x.f2 && empB x.f3 && uniq [] x.f4
theorem emp_iff (s : ByteArray) : s.toList = ([] : List UInt8) ↔ s.size = 0 := by
 rw [Lib.toList_data]
 constructor
 ·intro e
  have := congrArg List.length e
  simpa using this
 ·intro e
  have e : s.data = #[] := Array.size_eq_zero_iff.1 e
  rw [e]
theorem emp_true {s : ByteArray} (h : s.size = 0) : empB s = true := decide_eq_true h
theorem emp_false {s : ByteArray} (h : ¬ s.size = 0) : empB s = false := decide_eq_false h
theorem emp_b (s : ByteArray) : (s.toList == ([] : List UInt8)) = empB s := by
 unfold empB
 rw [Bool.eq_iff_iff, beq_iff_eq, decide_eq_true_eq]
 exact emp_iff s
theorem emp_n (s : ByteArray) : (s.toList != ([] : List UInt8)) = !empB s := by rw [bne, emp_b]
theorem name_iff (a b : ByteArray) : a.toList = b.toList ↔ a = b := toList_iff a b
theorem rowB_text {x : Rw} (h : x.f1 = 1 ∨ x.f1 = 2) : rowB x = (empB x.f2 && decide (x.f4.length = 0)) := by unfold rowB; rw [if_pos h]
theorem rowB_el {x : Rw} (h : ¬ (x.f1 = 1 ∨ x.f1 = 2)) : rowB x = (decide (x.f1 = 0) && !empB x.f2 && empB x.f3 && uniq [] x.f4) := by unfold rowB; rw [if_neg h]
theorem row_l1 (L : List Atr) (hL : L.length ≤ 50) (i : Nat) (a : Atr) (hi : L[i]? = some a) (d0 d1 : Int) (d2 d3 : ByteArray) : ∀ (d j : Nat), j + d = i → ∀ m k, k = m + d + 1 →
  rows_row.l1 k L (L.length : Int) (i : Int) (L.take i) ((L.take i).length : Int) (j : Int) d0 d1 d2 d3 L a.f0 a.f1 = if ((L.take i).drop j).all (fun b => !decide (a.f0 = b.f0)) = true then rows_row.l0 m L (L.length : Int) ((i : Int) + 1) d0 d1 d2 d3 L else some false
 | 0, j, h, m, k, hk => by
  obtain rfl : k = m + 1 := hk
  have hil : i < L.length := (List.getElem?_eq_some_iff.1 hi).1
  have ht : (L.take i).length = i := by rw [List.length_take]; omega
  simp only [rows_row.l1]
  rw [if_neg (by omega), List.drop_of_length_le (by omega), wrap_succ (by omega) (by omega)]; rfl
 | d + 1, j, h, m, k, hk => by
  obtain ⟨k, rfl⟩ : ∃ q, k = q + 1 := ⟨k - 1, by omega⟩
  have hil : i < L.length := (List.getElem?_eq_some_iff.1 hi).1
  have ht : (L.take i).length = i := by rw [List.length_take]; omega
  obtain ⟨b, hb⟩ := get_some (l := L.take i) (show j < (L.take i).length by omega)
  simp only [rows_row.l1]
  rw [if_pos (by omega), if_pos (by omega), if_pos (by omega), rdA_at hb, drop_at hb, List.all_cons]
  by_cases e : a.f0 = b.f0
  ·rw [if_pos (by rw [e]), decide_eq_true e]; rfl
  ·rw [if_neg (fun g => e ((name_iff _ _).1 g)), decide_eq_false e, wrap_succ (by omega) (by omega)]
   exact row_l1 L hL i a hi d0 d1 d2 d3 d (j + 1) (by omega) m k (by omega)
theorem row_l0 (L : List Atr) (hL : L.length ≤ 50) (d0 d1 : Int) (d2 d3 : ByteArray) : ∀ (d i : Nat), i + d = L.length → ∀ k, d * 60 < k →
  rows_row.l0 k L (L.length : Int) (i : Int) d0 d1 d2 d3 L = some (uniq (L.take i) (L.drop i))
 | 0, i, h, k, hk => by
  obtain ⟨k, rfl⟩ : ∃ q, k = q + 1 := ⟨k - 1, by omega⟩
  simp only [rows_row.l0]
  rw [if_neg (by omega), List.drop_of_length_le (by omega)]; rfl
 | d + 1, i, h, k, hk => by
  obtain ⟨k, rfl⟩ : ∃ q, k = q + 1 := ⟨k - 1, by omega⟩
  obtain ⟨a, ha⟩ := get_some (l := L) (show i < L.length by omega)
  have hk2 : (d + 1) * 60 = d * 60 + 60 := Nat.succ_mul _ _
  simp only [rows_row.l0]
  rw [if_pos (by omega), if_pos (by omega), if_pos (by omega), if_pos (by omega)]
  simp only [Option.bind_some, Int.toNat_natCast, rdA_at ha]
  have := row_l1 L hL i a ha d0 d1 d2 d3 i 0 (by omega) (k - i - 1) k (by omega)
  rw [show ((0 : Nat) : Int) = 0 from rfl] at this
  rw [this, List.drop_zero, drop_at ha]
  show _ = some ((L.take i).all _ && uniq (L.take i ++ [a]) (L.drop (i + 1)))
  rw [← take_at ha]
  have ih := row_l0 L hL d0 d1 d2 d3 d (i + 1) (by omega) (k - i - 1) (by omega)
  rw [show ((i + 1 : Nat) : Int) = (i : Int) + 1 from rfl] at ih
  rw [ih]
  cases (L.take i).all (fun b => !decide (a.f0 = b.f0)) with
  | true => rw [if_pos rfl, Bool.true_and]
  | false => rw [if_neg (by simp), Bool.false_and]
theorem row_f (x : Rw) (hx : x.f4.length ≤ 50) {k : Nat} (hk : 4000 < k) : rows_row.f k x.f0 x.f1 x.f2 x.f3 x.f4 = some (rowB x) := by
 obtain ⟨k, rfl⟩ : ∃ q, k = q + 2 := ⟨k - 2, by omega⟩
 have hl0 := row_l0 x.f4 hx x.f0 x.f1 x.f2 x.f3 x.f4.length 0 (by omega) k (by omega)
 rw [show ((0 : Nat) : Int) = 0 from rfl, List.take_zero, List.drop_zero] at hl0
 have hlen : ((x.f4.length : Int) == 0) = decide (x.f4.length = 0) := by rw [Bool.eq_iff_iff, beq_iff_eq, decide_eq_true_eq]; omega
 have j1 : ∀ b, rows_row.j1 (k + 1) b x.f0 x.f1 x.f2 x.f3 x.f4 = some (!b && uniq [] x.f4) := fun b => by
  simp only [rows_row.j1]
  cases b with
  | true => rw [if_pos rfl]; rfl
  | false => rw [if_neg (by simp), hl0]; rfl
 unfold rows_row.f
 by_cases h1 : x.f1 = 1
 ·rw [if_pos h1, rowB_text (.inl h1)]
  simp only [rows_row.j0]
  rw [if_pos trivial, hlen]
  by_cases h2 : x.f2.size = 0
  ·rw [if_pos ((emp_iff _).2 h2), emp_true h2, Bool.true_and]
  ·rw [if_neg (fun g => h2 ((emp_iff _).1 g)), emp_false h2, Bool.false_and]
 ·rw [if_neg h1]
  by_cases h2 : x.f1 = 2
  ·rw [rowB_text (.inr h2), show (x.f1 == 2) = true from beq_iff_eq.2 h2]
   simp only [rows_row.j0]
   rw [if_pos trivial, hlen]
   by_cases h3 : x.f2.size = 0
   ·rw [if_pos ((emp_iff _).2 h3), emp_true h3, Bool.true_and]
   ·rw [if_neg (fun g => h3 ((emp_iff _).1 g)), emp_false h3, Bool.false_and]
  ·rw [rowB_el (fun g => g.elim h1 h2), show (x.f1 == 2) = false from beq_eq_false_iff_ne.2 h2]
   simp only [rows_row.j0]
   rw [if_neg (by simp), j1, j1, emp_n]
   by_cases h0 : x.f1 = 0
   ·rw [if_pos h0, decide_eq_true h0]
    by_cases h3 : x.f2.size = 0
    ·rw [if_pos ((emp_iff _).2 h3), emp_true h3]; rfl
    ·rw [if_neg (fun g => h3 ((emp_iff _).1 g)), emp_false h3, Bool.not_not]; rfl
   ·rw [if_neg h0, decide_eq_false h0]; rfl
theorem rrow_l1 (x : Rw) (hx : x.f4.length ≤ 50) (i : Nat) (a : Atr) (hi : x.f4[i]? = some a) : ∀ (d j : Nat), j + d = i → ∀ m k, k = m + d + 1 →
  boltingref04_Row.l1 k (i : Int) (j : Int) x.f0 x.f1 x.f2 x.f3 x.f4 = if ((x.f4.take i).drop j).all (fun b => !decide (a.f0 = b.f0)) = true then boltingref04_Row.l0 m ((i : Int) + 1) x.f0 x.f1 x.f2 x.f3 x.f4 else some false
 | 0, j, h, m, k, hk => by
  obtain rfl : k = m + 1 := hk
  have hil : i < x.f4.length := (List.getElem?_eq_some_iff.1 hi).1
  have ht : (x.f4.take i).length = i := by rw [List.length_take]; omega
  simp only [boltingref04_Row.l1]
  rw [if_neg (by omega), List.drop_of_length_le (by omega), wrap_succ (by omega) (by omega)]; rfl
 | d + 1, j, h, m, k, hk => by
  obtain ⟨k, rfl⟩ : ∃ q, k = q + 1 := ⟨k - 1, by omega⟩
  have hil : i < x.f4.length := (List.getElem?_eq_some_iff.1 hi).1
  obtain ⟨b, hb⟩ := get_some (l := x.f4) (show j < x.f4.length by omega)
  have hb2 : (x.f4.take i)[j]? = some b := by rw [List.getElem?_take, if_pos (by omega)]; exact hb
  simp only [boltingref04_Row.l1]
  rw [if_pos (by omega), if_pos (by omega), if_pos (by omega), if_pos (by omega), if_pos (by omega), rdA_at hb, rdA_at hi, drop_at hb2, List.all_cons]
  by_cases e : a.f0 = b.f0
  ·rw [if_pos (by rw [e]), decide_eq_true e]; rfl
  ·rw [if_neg (fun g => e ((name_iff _ _).1 g)), decide_eq_false e, wrap_succ (by omega) (by omega)]
   exact rrow_l1 x hx i a hi d (j + 1) (by omega) m k (by omega)
theorem rrow_l0 (x : Rw) (hx : x.f4.length ≤ 50) : ∀ (d i : Nat), i + d = x.f4.length → ∀ k, d * 60 < k →
  boltingref04_Row.l0 k (i : Int) x.f0 x.f1 x.f2 x.f3 x.f4 = some (uniq (x.f4.take i) (x.f4.drop i) && (decide (x.f1 = 0) && !empB x.f2 && empB x.f3))
 | 0, i, h, k, hk => by
  obtain ⟨k, rfl⟩ : ∃ q, k = q + 1 := ⟨k - 1, by omega⟩
  simp only [boltingref04_Row.l0]
  rw [if_neg (by omega), List.drop_of_length_le (by omega), emp_b]
  show _ = some (true && _)
  rw [Bool.true_and]
  by_cases h0 : x.f1 = 0
  ·rw [if_pos h0, decide_eq_true h0]
   by_cases h3 : x.f2.size = 0
   ·rw [if_pos ((emp_iff _).2 h3), emp_true h3]; rfl
   ·rw [if_neg (fun g => h3 ((emp_iff _).1 g)), emp_false h3]; rfl
  ·rw [if_neg h0, decide_eq_false h0]; rfl
 | d + 1, i, h, k, hk => by
  obtain ⟨k, rfl⟩ : ∃ q, k = q + 1 := ⟨k - 1, by omega⟩
  obtain ⟨a, ha⟩ := get_some (l := x.f4) (show i < x.f4.length by omega)
  have hk2 : (d + 1) * 60 = d * 60 + 60 := Nat.succ_mul _ _
  simp only [boltingref04_Row.l0]
  rw [if_pos (by omega)]
  have := rrow_l1 x hx i a ha i 0 (by omega) (k - i - 1) k (by omega)
  rw [show ((0 : Nat) : Int) = 0 from rfl] at this
  rw [this, List.drop_zero, drop_at ha]
  show _ = some (((x.f4.take i).all _ && uniq (x.f4.take i ++ [a]) (x.f4.drop (i + 1))) && _)
  rw [← take_at ha]
  have ih := rrow_l0 x hx d (i + 1) (by omega) (k - i - 1) (by omega)
  rw [show ((i + 1 : Nat) : Int) = (i : Int) + 1 from rfl] at ih
  rw [ih]
  cases (x.f4.take i).all (fun b => !decide (a.f0 = b.f0)) with
  | true => rw [if_pos rfl, Bool.true_and]
  | false => rw [if_neg (by simp), Bool.false_and, Bool.false_and]
theorem rrow_f (x : Rw) (hx : x.f4.length ≤ 50) {k : Nat} (hk : 4000 < k) : boltingref04_Row.f k x.f0 x.f1 x.f2 x.f3 x.f4 = some (rowB x) := by
 obtain ⟨k, rfl⟩ : ∃ q, k = q + 1 := ⟨k - 1, by omega⟩
 have hl0 := rrow_l0 x hx x.f4.length 0 (by omega) k (by omega)
 rw [show ((0 : Nat) : Int) = 0 from rfl, List.take_zero, List.drop_zero] at hl0
 have hlen : ((x.f4.length : Int) == 0) = decide (x.f4.length = 0) := by rw [Bool.eq_iff_iff, beq_iff_eq, decide_eq_true_eq]; omega
 unfold boltingref04_Row.f
 by_cases h1 : x.f1 = 1
 ·rw [if_pos h1, rowB_text (.inl h1)]
  simp only [boltingref04_Row.j0]
  rw [if_pos trivial, hlen]
  by_cases h2 : x.f2.size = 0
  ·rw [if_pos ((emp_iff _).2 h2), emp_true h2, Bool.true_and]
  ·rw [if_neg (fun g => h2 ((emp_iff _).1 g)), emp_false h2, Bool.false_and]
 ·rw [if_neg h1]
  by_cases h2 : x.f1 = 2
  ·rw [rowB_text (.inr h2), show (x.f1 == 2) = true from beq_iff_eq.2 h2]
   simp only [boltingref04_Row.j0]
   rw [if_pos trivial, hlen]
   by_cases h3 : x.f2.size = 0
   ·rw [if_pos ((emp_iff _).2 h3), emp_true h3, Bool.true_and]
   ·rw [if_neg (fun g => h3 ((emp_iff _).1 g)), emp_false h3, Bool.false_and]
  ·rw [rowB_el (fun g => g.elim h1 h2), show (x.f1 == 2) = false from beq_eq_false_iff_ne.2 h2]
   simp only [boltingref04_Row.j0]
   rw [if_neg (by simp), hl0, Bool.and_comm]
def rightB : Int → List Rw → Bool
 | _, [] => true
 | m, x :: t => decide (0 ≤ x.f0) && decide (x.f0 ≤ m) && rowB x && rightB (if x.f1 = 0 then x.f0 + 1 else x.f0) t
theorem right_iff : ∀ (l : List Rw) (m : Int), rightB m l = true ↔ RightL (fun x => rowB x = true) m l
 | [], m => ⟨fun _ => trivial, fun _ => rfl⟩
 | x :: t, m => by
  show (decide (0 ≤ x.f0) && decide (x.f0 ≤ m) && rowB x && rightB _ t) = true ↔ (0 ≤ x.f0 ∧ x.f0 ≤ m ∧ rowB x = true ∧ RightL _ _ t)
  rw [Bool.and_eq_true, Bool.and_eq_true, Bool.and_eq_true, decide_eq_true_eq, decide_eq_true_eq, right_iff t]
  constructor
  ·rintro ⟨⟨⟨a, b⟩, c⟩, d⟩; exact ⟨a, b, c, d⟩
  ·rintro ⟨a, b, c, d⟩; exact ⟨⟨⟨a, b⟩, c⟩, d⟩
theorem rights_l0 (l : List Rw) (hl : l.length ≤ 200) (hx : ∀ x ∈ l, x.f4.length ≤ 50) : ∀ (d i : Nat) (m : Int), i + d = l.length → m ≤ i → ∀ k, 2 * d + 4001 < k →
  rows_right.l0 k m l (l.length : Int) (i : Int) = some (rightB m (l.drop i))
 | 0, i, m, h, hm, k, hk => by
  obtain ⟨k, rfl⟩ : ∃ q, k = q + 1 := ⟨k - 1, by omega⟩
  simp only [rows_right.l0]
  rw [if_neg (by omega), List.drop_of_length_le (by omega)]; rfl
 | d + 1, i, m, h, hm, k, hk => by
  obtain ⟨k, rfl⟩ : ∃ q, k = q + 2 := ⟨k - 2, by omega⟩
  obtain ⟨x, h0⟩ := get_some (l := l) (show i < l.length by omega)
  simp only [rows_right.l0]
  rw [if_pos (by omega), if_pos (by omega), if_pos (by omega), rdR_at h0, row_f x (hx x (List.mem_of_getElem? h0)) (by omega), drop_at h0]
  simp only [rows_right.j1, Option.bind_some]
  show _ = some (decide (0 ≤ x.f0) && decide (x.f0 ≤ m) && rowB x && rightB (if x.f1 = 0 then x.f0 + 1 else x.f0) (l.drop (i + 1)))
  by_cases a : x.f0 < 0
  ·rw [if_pos a, if_pos trivial, decide_eq_false (show ¬ 0 ≤ x.f0 by omega)]; rfl
  ·rw [if_neg a, decide_eq_true (show 0 ≤ x.f0 by omega)]
   by_cases b : x.f0 > m
   ·rw [if_pos b, if_pos trivial, decide_eq_false (show ¬ x.f0 ≤ m by omega)]; rfl
   ·rw [if_neg b, decide_eq_true (show x.f0 ≤ m by omega)]
    cases hr : rowB x with
    | false => rw [if_pos (by simp)]; rfl
    | true =>
     rw [if_neg (by simp), wrap_succ (i := (i : Int)) (by omega) (by omega), wrap_succ (i := x.f0) (by omega) (by omega)]
     have e1 := rights_l0 l hl hx d (i + 1) (x.f0 + 1) (by omega) (by omega) k (by omega)
     have e2 := rights_l0 l hl hx d (i + 1) x.f0 (by omega) (by omega) k (by omega)
     rw [show ((i + 1 : Nat) : Int) = (i : Int) + 1 from rfl] at e1 e2
     rw [e1, e2]
     split <;> rfl
theorem rights_f (l : List Rw) (hl : l.length ≤ 200) (hx : ∀ x ∈ l, x.f4.length ≤ 50) {k : Nat} (hk : 5000 < k) : rows_right.f k l = some (rightB 0 l) := by
 have := rights_l0 l hl hx l.length 0 0 (by omega) (by omega) k (by omega)
 exact this
def mostAt (l : List Rw) (i : Nat) : Int := if i = 0 then 0 else match l[i - 1]? with
 | none => 0
 | some p => if p.f1 = 0 then p.f0 + 1 else p.f0
theorem rrights_l0 (l : List Rw) (hl : l.length ≤ 200) (hx : ∀ x ∈ l, x.f4.length ≤ 50) : ∀ (d i : Nat), i + d = l.length → (∀ p, 0 < i → l[i - 1]? = some p → 0 ≤ p.f0 ∧ p.f0 + 1 ≤ i) → ∀ k, 2 * d + 4001 < k →
  boltingref04_Right.l0 k l (i : Int) = some (rightB (mostAt l i) (l.drop i))
 | 0, i, h, hp, k, hk => by
  obtain ⟨k, rfl⟩ : ∃ q, k = q + 1 := ⟨k - 1, by omega⟩
  simp only [boltingref04_Right.l0]
  rw [if_neg (by omega), List.drop_of_length_le (by omega)]; rfl
 | d + 1, i, h, hp, k, hk => by
  obtain ⟨k, rfl⟩ : ∃ q, k = q + 2 := ⟨k - 2, by omega⟩
  obtain ⟨x, h0⟩ := get_some (l := l) (show i < l.length by omega)
  simp only [boltingref04_Right.l0]
  rw [if_pos (by omega), if_pos (by omega), rdR_at h0, rrow_f x (hx x (List.mem_of_getElem? h0)) (by omega), Option.bind_some, drop_at h0]
  simp only [boltingref04_Right.j1]
  rw [if_pos trivial]
  show _ = some (decide (0 ≤ x.f0) && decide (x.f0 ≤ mostAt l i) && rowB x && rightB (if x.f1 = 0 then x.f0 + 1 else x.f0) (l.drop (i + 1)))
  cases hr : rowB x with
  | false => rw [if_neg (by simp)]; simp
  | true =>
   rw [if_pos rfl, Bool.and_true, wrap_succ (i := (i : Int)) (by omega) (by omega)]
   by_cases a : x.f0 < 0
   ·rw [if_pos a, decide_eq_false (show ¬ 0 ≤ x.f0 by omega)]; rfl
   ·rw [if_neg a, decide_eq_true (show 0 ≤ x.f0 by omega), Bool.true_and]
    have hnext : x.f0 ≤ mostAt l i → boltingref04_Right.l0 k l ((i : Int) + 1) = some (rightB (if x.f1 = 0 then x.f0 + 1 else x.f0) (l.drop (i + 1))) := fun hle => by
     have hm : mostAt l i ≤ i := by
      unfold mostAt
      split
      ·omega
      ·rename_i hi0
       obtain ⟨p, hp0⟩ := get_some (l := l) (show i - 1 < l.length by omega)
       obtain ⟨q1, q2⟩ := hp p (by omega) hp0
       rw [hp0]
       simp only []
       split <;> omega
     have ih := rrights_l0 l hl hx d (i + 1) (by omega) (fun p _ hp1 => by
      rw [Nat.add_sub_cancel] at hp1
      rw [h0] at hp1
      obtain rfl := Option.some.inj hp1
      exact ⟨by omega, by omega⟩) k (by omega)
     rw [show ((i + 1 : Nat) : Int) = (i : Int) + 1 from rfl] at ih
     rw [ih]
     have : mostAt l (i + 1) = if x.f1 = 0 then x.f0 + 1 else x.f0 := by
      unfold mostAt
      rw [if_neg (by omega), Nat.add_sub_cancel, h0]
     rw [this]
    by_cases h00 : i = 0
    ·subst h00
     have hm0 : mostAt l 0 = 0 := rfl
     rw [if_pos (by rfl), hm0]
     by_cases c : x.f0 = 0
     ·rw [if_neg (by rw [c]; simp), if_neg (by omega), decide_eq_true (by omega), Bool.true_and]
      exact hnext (by rw [hm0]; omega)
     ·rw [if_pos (by simpa using c), decide_eq_false (by omega)]; rfl
    ·rw [if_neg (by omega), if_neg (by simp), if_pos (by omega)]
     obtain ⟨p, hp0⟩ := get_some (l := l) (show i - 1 < l.length by omega)
     obtain ⟨q1, q2⟩ := hp p (by omega) hp0
     have e1 : wrap64 ((i : Int) - 1) = ((i - 1 : Nat) : Int) := by rw [wrap_id (by omega) (by omega)]; omega
     have hm : mostAt l i = if p.f1 = 0 then p.f0 + 1 else p.f0 := by
      unfold mostAt
      rw [if_neg h00, hp0]
     rw [e1, if_pos (by omega), if_pos (by omega), rdR_at hp0, wrap_succ (i := p.f0) (by omega) (by omega), hm]
     by_cases c : x.f0 > p.f0 + 1
     ·rw [if_pos c, decide_eq_false (by split <;> omega)]; rfl
     ·rw [if_neg c]
      by_cases c2 : x.f0 = p.f0 + 1
      ·rw [if_pos c2]
       by_cases c3 : p.f1 = 0
       ·rw [if_pos c3, if_pos c3, decide_eq_true (by omega), Bool.true_and]
        exact hnext (by rw [hm, if_pos c3]; omega)
       ·rw [if_neg c3, if_neg c3, decide_eq_false (by omega)]; rfl
      ·rw [if_neg c2, decide_eq_true (by split <;> omega), Bool.true_and]
       exact hnext (by rw [hm]; split <;> omega)
theorem rright_f (l : List Rw) (hl : l.length ≤ 200) (hx : ∀ x ∈ l, x.f4.length ≤ 50) {k : Nat} (hk : 5000 < k) : boltingref04_Right.f k l = some (rightB 0 l) := by
 have := rrights_l0 l hl hx l.length 0 (by omega) (fun p h => by omega) k (by omega)
 exact this
theorem rbig_l0 (l : List Rw) (hl : l.length ≤ 200) : ∀ (d i : Nat), i + d = l.length → ∀ k, d < k → boltingref04_Big.l0 k l (i : Int) = some ((l.drop i).any deepB)
 | 0, i, h, k, hk => by
  obtain ⟨k, rfl⟩ : ∃ q, k = q + 1 := ⟨k - 1, by omega⟩
  simp only [boltingref04_Big.l0]
  rw [if_neg (by omega), List.drop_of_length_le (by omega), decide_eq_false (by omega)]; rfl
 | d + 1, i, h, k, hk => by
  obtain ⟨k, rfl⟩ : ∃ q, k = q + 1 := ⟨k - 1, by omega⟩
  obtain ⟨x, h0⟩ := get_some (l := l) (show i < l.length by omega)
  simp only [boltingref04_Big.l0]
  rw [if_pos (by omega), if_pos (by omega), rdR_at h0, drop_at h0, List.any_cons, wrap_succ (by omega) (by omega)]
  by_cases a : x.f0 ≥ 60
  ·rw [if_pos a, show deepB x = true from decide_eq_true a]; rfl
  ·rw [if_neg a, show deepB x = false from decide_eq_false a, Bool.false_or]
   exact rbig_l0 l hl d (i + 1) (by omega) k (by omega)
theorem rbig_f (l : List Rw) (hl : l.length ≤ 200) {k : Nat} (hk : 300 < k) : boltingref04_Big.f k l = some (l.any deepB) := by
 have := rbig_l0 l hl l.length 0 (by omega) k (by omega)
 exact this
theorem big_f (l : List Rw) (hl : l.length ≤ 200) : rows_big.f l = some (l.any deepB) := by
 unfold rows_big.f bigL
 rw [decide_eq_false (by omega), Bool.false_or]
def checkR (l : List Rw) : Int := if l.any deepB = true then 2 else if rightB 0 l = true then 0 else 40
theorem rows_check_f (l : List Rw) (hl : l.length ≤ 200) (hx : ∀ x ∈ l, x.f4.length ≤ 50) {k : Nat} (hk : 5000 < k) : rows_Check.f k l = some (checkR l) := by
 unfold rows_Check.f checkR
 rw [big_f l hl, Option.bind_some, rights_f l hl hx hk, Option.bind_some]
 split <;> (try split) <;> rfl
theorem rrows_check_f (l : List Rw) (hl : l.length ≤ 200) (hx : ∀ x ∈ l, x.f4.length ≤ 50) {k : Nat} (hk : 5000 < k) : boltingref04_Check.f k l = some (checkR l) := by
 unfold boltingref04_Check.f checkR
 rw [rbig_f l hl (by omega), Option.bind_some, rright_f l hl hx hk, Option.bind_some]
 split <;> (try split) <;> rfl

theorem end_l0 (l : List Rw) (hl : l.length ≤ 200) (i : Nat) (x : Rw) (hi : l[i]? = some x) : ∀ (d j : Nat), j + d = l.length → ∀ k, d < k →
  rows_End.l0 k l (i : Int) (j : Int) = some ((j + ((l.drop j).takeWhile fun y => decide (x.f0 < y.f0)).length : Nat) : Int)
 | 0, j, h, k, hk => by
  obtain ⟨k, rfl⟩ : ∃ q, k = q + 1 := ⟨k - 1, by omega⟩
  simp only [rows_End.l0]
  rw [if_neg (by omega), List.drop_of_length_le (by omega)]; simp
 | d + 1, j, h, k, hk => by
  obtain ⟨k, rfl⟩ : ∃ q, k = q + 1 := ⟨k - 1, by omega⟩
  have hil : i < l.length := (List.getElem?_eq_some_iff.1 hi).1
  obtain ⟨y, h0⟩ := get_some (l := l) (show j < l.length by omega)
  simp only [rows_End.l0]
  rw [if_pos (by omega), if_pos (by omega), if_pos (by omega), if_pos (by omega), rdR_at h0, rdR_at hi, drop_at h0, List.takeWhile_cons, wrap_succ (by omega) (by omega)]
  by_cases a : y.f0 > x.f0
  ·rw [if_pos a, if_pos (decide_eq_true a)]
   have ih := end_l0 l hl i x hi d (j + 1) (by omega) k (by omega)
   rw [show ((j + 1 : Nat) : Int) = (j : Int) + 1 from rfl] at ih
   rw [ih, List.length_cons]
   congr 2; omega
  ·rw [if_neg a, if_neg (by rw [decide_eq_true_eq]; omega)]; simp
theorem end_f (l : List Rw) (hl : l.length ≤ 200) (i : Nat) (x : Rw) (hi : l[i]? = some x) {k : Nat} (hk : 300 < k) : rows_End.f k l (i : Int) = some ((i + 1 + ((l.drop (i + 1)).takeWhile fun y => decide (x.f0 < y.f0)).length : Nat) : Int) := by
 have hil : i < l.length := (List.getElem?_eq_some_iff.1 hi).1
 unfold rows_End.f rows_is.f
 rw [if_pos (by omega), Option.bind_some, if_pos (by rw [decide_eq_true_eq]; omega), wrap_succ (by omega) (by omega)]
 exact end_l0 l hl i x hi (l.length - (i + 1)) (i + 1) (by omega) k (by omega)

def neverB (n : ByteArray) : Bool := (risk_Element.f n).getD false
theorem never_f (n : ByteArray) : risk_Element.f n = some (neverB n) := by
 unfold neverB
 cases h : risk_Element.f n with
 | some b => rfl
 | none =>
  unfold risk_Element.f at h
  repeat' split at h
  all_goals cases h
def riskB (e n v : ByteArray) : Bool := (risk_Attr.f e n v).getD false
theorem risk_f (e n v : ByteArray) (hv : v.size ≤ 140737488351232) : risk_Attr.f e n v = some (riskB e n v) := by
 unfold riskB
 cases h : risk_Attr.f e n v with
 | some b => rfl
 | none =>
  unfold risk_Attr.f risk_Sink.f risk_Nav.f link_Script.f link_Scheme.f at h
  rw [bnd_of _ hv] at h
  simp only [Option.bind_some] at h
  repeat' split at h
  all_goals cases h

def keepA (c : Cf) (s : Bool) (n : ByteArray) (l : List Atr) : List Atr := l.filter fun a => attrB c n a.f0 && !(s && riskB n a.f0 a.f1)
def VS (l : List Atr) : Prop := ∀ a ∈ l, a.f1.size ≤ 140737488351232
theorem conf_attr_f {c : Cf} (hf : Fit c) (e a : ByteArray) : config_Attr.f c.al c.aal c.els c.rep c.ats c.per c.com c.dt e a = some (attrB c e a) := by
 unfold config_Attr.f
 rw [if_pos (of_fit hf)]
theorem attrs_l0 {c : Cf} (hf : Fit c) (s : Bool) (L : List Atr) (hL : L.length ≤ 50) (hv : VS L) (d0 d1 : Int) (n d3 : ByteArray) (M : List Atr) : ∀ (d i : Nat) (acc : List Atr), i + d = L.length → acc.length ≤ i → ∀ k, d < k →
  clean_Attrs.l0 k s acc L (L.length : Int) (i : Int) d0 d1 n d3 M c.al c.aal c.els c.rep c.ats c.per c.com c.dt = some (acc ++ keepA c s n (L.drop i))
 | 0, i, acc, h, ha, k, hk => by
  obtain ⟨k, rfl⟩ : ∃ q, k = q + 1 := ⟨k - 1, by omega⟩
  simp only [clean_Attrs.l0]
  rw [if_neg (by omega), List.drop_of_length_le (by omega)]; simp [keepA]
 | d + 1, i, acc, h, ha, k, hk => by
  obtain ⟨k, rfl⟩ : ∃ q, k = q + 1 := ⟨k - 1, by omega⟩
  obtain ⟨a, h0⟩ := get_some (l := L) (show i < L.length by omega)
  have hva := hv a (List.mem_of_getElem? h0)
  have e1 := attrs_l0 hf s L hL hv d0 d1 n d3 M d (i + 1) acc (by omega) (by omega) k (by omega)
  have e2 := attrs_l0 hf s L hL hv d0 d1 n d3 M d (i + 1) (acc ++ [a]) (by omega) (by simp; omega) k (by omega)
  rw [show ((i + 1 : Nat) : Int) = (i : Int) + 1 from rfl] at e1 e2
  rw [List.append_assoc] at e2
  simp only [clean_Attrs.l0]
  rw [if_pos (by omega), if_pos (by omega), if_pos (by omega), rdA_at h0, conf_attr_f hf, Option.bind_some, risk_f _ _ _ hva, wrap_succ (by omega) (by omega), drop_at h0]
  have hk1 : keepA c s n (a :: L.drop (i + 1)) = if (attrB c n a.f0 && !(s && riskB n a.f0 a.f1)) = true then a :: keepA c s n (L.drop (i + 1)) else keepA c s n (L.drop (i + 1)) := by
   unfold keepA
   rw [List.filter_cons]
  rw [hk1]
  cases attrB c n a.f0 with
  | false => rw [if_neg (by simp), if_neg (by simp)]; exact e1
  | true =>
   rw [if_pos rfl]
   cases s with
   | false => rw [if_neg (by simp), if_pos (by omega), if_pos (by simp)]; exact e2
   | true =>
    rw [if_pos rfl, Option.bind_some]
    cases riskB n a.f0 a.f1 with
    | false => rw [if_neg (by simp), if_pos (by omega), if_pos (by simp)]; exact e2
    | true => rw [if_pos rfl, if_neg (by simp)]; exact e1
theorem attrs_f {c : Cf} (hf : Fit c) (s : Bool) (d0 d1 : Int) (n d3 : ByteArray) (L : List Atr) (hL : L.length ≤ 50) (hv : VS L) {k : Nat} (hk : 60 < k) :
  clean_Attrs.f k d0 d1 n d3 L c.al c.aal c.els c.rep c.ats c.per c.com c.dt s = some (keepA c s n L) := by
 have := attrs_l0 hf s L hL hv d0 d1 n d3 L L.length 0 [] (by omega) (by simp) k (by omega)
 rw [List.drop_zero, List.nil_append] at this
 exact this
def whatC (c : Cf) (s : Bool) (x : Rw) : Int := if x.f1 = 1 then 0 else if x.f1 = 2 then (if c.com = true then 0 else 1) else if (s && neverB x.f2) = true then 1 else elemI c x.f2
def updC (c : Cf) (s : Bool) (x : Rw) : Rw := if x.f1 = 0 then { x with f4 := keepA c s x.f2 x.f4 } else x
theorem elem_kk {c : Cf} (hf : Fit c) (n : ByteArray) {k : Nat} (hk : 2000 < k) : config_Element.f k c.al c.aal c.els c.rep c.ats c.per c.com c.dt n = some (elemI c n) := by
 unfold config_Element.f elemI
 rw [contains_f _ _ (by have := hf.rep; omega) (by have := hf.rep; omega), Option.bind_some, contains_f _ _ (by have := hf.els; omega) (by have := hf.els; omega), Option.bind_some]
 split <;> (try split) <;> rfl
theorem becomes_f {c : Cf} (hf : Fit c) (s : Bool) (x : Rw) {k : Nat} (hk : 2010 < k) : clean_becomes.f k x.f0 x.f1 x.f2 x.f3 x.f4 c.al c.aal c.els c.rep c.ats c.per c.com c.dt s = some (whatC c s x) := by
 obtain ⟨k, rfl⟩ : ∃ q, k = q + 1 := ⟨k - 1, by omega⟩
 unfold clean_becomes.f whatC
 simp only [clean_becomes.j0]
 rw [never_f, elem_kk hf _ (by omega)]
 simp only [Option.bind_some]
 by_cases h1 : x.f1 = 1
 ·rw [if_pos h1, if_pos h1]
 ·rw [if_neg h1, if_neg h1]
  by_cases h2 : x.f1 = 2
  ·simp only [if_pos h2]
   cases c.com <;> rfl
  ·simp only [if_neg h2]
   cases s with
   | false => rfl
   | true =>
    cases neverB x.f2 <;> rfl

theorem rowB_kind {x : Rw} (h : rowB x = true) : x.f1 = 0 ∨ x.f1 = 1 ∨ x.f1 = 2 := by
 by_cases g : x.f1 = 1 ∨ x.f1 = 2
 ·exact .inr g
 ·rw [rowB_el g] at h
  simp only [Bool.and_eq_true, decide_eq_true_eq] at h
  exact .inl h.1.1.1
theorem rowB_none {x : Rw} (h : rowB x = true) (g : x.f1 = 1 ∨ x.f1 = 2) : x.f4 = [] ∧ x.f2.size = 0 := by
 rw [rowB_text g] at h
 simp only [Bool.and_eq_true, decide_eq_true_eq] at h
 exact ⟨List.eq_nil_of_length_eq_zero h.2, by simpa [empB] using h.1⟩
theorem updC_any {c : Cf} {s : Bool} {x : Rw} (h : rowB x = true) : updC c s x = { x with f4 := keepA c s x.f2 x.f4 } := by
 unfold updC
 rcases rowB_kind h with g | g
 ·rw [if_pos g]
 ·rw [if_neg (by rcases g with g | g <;> rw [g] <;> decide)]
  have := (rowB_none h g).1
  rw [this]
  show x = { x with f4 := [] }
  rw [← this]
structure Fine (x : Rw) : Prop where
 ok : rowB x = true
 few : x.f4.length ≤ 50
 small : VS x.f4
def up (less : List Int) (d : Nat) : Int := if d = 0 then 0 else less.getD (d - 1) 0
theorem up_take (less : List Int) (d : Nat) : up (less.take d) d = up less d := by
 unfold up
 by_cases h : d = 0
 ·rw [if_pos h, if_pos h]
 ·rw [if_neg h, if_neg h, List.getD_eq_getElem?_getD, List.getElem?_take, if_pos (by omega), ← List.getD_eq_getElem?_getD]
theorem up_snoc (less : List Int) (d : Nat) (u : Int) (h : less.length = d) : up (less ++ [u]) (d + 1) = u := by
 unfold up
 rw [if_neg (by omega), List.getD_eq_getElem?_getD, show d + 1 - 1 = d by omega, ← h]
 simp
def Low (less : List Int) : Prop := ∀ (j : Nat) (u : Int), less[j]? = some u → 0 ≤ u ∧ u ≤ j + 1
theorem Low.up {less : List Int} (h : Low less) {d : Nat} (hd : d ≤ less.length) : 0 ≤ up less d ∧ up less d ≤ d := by
 unfold Pure.up
 split
 ·omega
 ·obtain ⟨u, hu⟩ := get_some (l := less) (show d - 1 < less.length by omega)
  rw [List.getD_eq_getElem?_getD, hu]
  have := h _ _ hu
  show 0 ≤ u ∧ u ≤ d
  omega
theorem Low.take {less : List Int} (h : Low less) (d : Nat) : Low (less.take d) := fun j u hj => by
 rw [List.getElem?_take] at hj
 split at hj
 ·exact h j u hj
 ·cases hj
theorem Low.snoc {less : List Int} (h : Low less) {u : Int} (h0 : 0 ≤ u) (h1 : u ≤ less.length + 1) : Low (less ++ [u]) := fun j v hj => by
 rw [List.getElem?_append] at hj
 split at hj
 ·exact h j v hj
 ·rename_i g
  have : j - less.length = 0 := by
   cases hq : j - less.length with
   | zero => rfl
   | succ q => rw [hq] at hj; cases hj
  rw [this] at hj
  obtain rfl : u = v := by simpa using hj
  omega
theorem drop_more {l a b : List Rw} {i : Nat} (h : l.drop i = a ++ b) : l.drop (i + a.length) = b := by
 rw [← List.drop_drop, h, List.drop_left]
theorem takeWhile_tree (d : Int) (K : Fo) (rest : List Rw) (h : ∀ y, rest.head? = some y → y.f0 ≤ d) : ((flat (d + 1) K ++ rest).takeWhile fun y => decide (d < y.f0)).length = K.size := by
 have h1 : ∀ y ∈ flat (d + 1) K, decide (d < y.f0) = true := fun y hy => by
  have := flat_ge K (d + 1) y hy
  exact decide_eq_true (by omega)
 rw [List.takeWhile_append_of_pos h1]
 have h2 : rest.takeWhile (fun y => decide (d < y.f0)) = [] := by
  cases rest with
  | nil => rfl
  | cons y t => rw [List.takeWhile_cons, if_neg (by have := h y rfl; rw [decide_eq_true_eq]; omega)]
 rw [h2, List.append_nil, flat_len]
theorem walk {c : Cf} (hf : Fit c) (s : Bool) (l : List Rw) (hl : l.length ≤ 200) : ∀ (F : Fo) (d : Nat) (out : List Rw) (less : List Int) (i : Nat) (rest : List Rw) (k : Nat),
  F.Leaf → F.All Fine → l.drop i = flat d F ++ rest → (∀ y, rest.head? = some y → y.f0 ≤ d) → d ≤ less.length → Low less → less.length ≤ 200 → d + F.height ≤ 200 → out.length ≤ i → i ≤ l.length → 6000 + 2 * F.size < k →
  ∃ k' less', k ≤ k' + 2 * F.size ∧ less'.take d = less.take d ∧ d ≤ less'.length ∧ Low less' ∧ less'.length ≤ 200 ∧
   clean_Rows.l0 k l s out less (i : Int) c.al c.aal c.els c.rep c.ats c.per c.com c.dt = clean_Rows.l0 k' l s (out ++ flat (d - up less d) (keepF (whatC c s) (updC c s) F)) less' ((i + F.size : Nat) : Int) c.al c.aal c.els c.rep c.ats c.per c.com c.dt := by
 intro F
 induction F with
 | nil =>
  intro d out less i rest k _ _ _ _ hd hlow hll _ _ _ _
  refine ⟨k, less, by omega, rfl, hd, hlow, hll, ?_⟩
  show _ = clean_Rows.l0 k l s (out ++ []) less ((i + 0 : Nat) : Int) _ _ _ _ _ _ _ _
  rw [List.append_nil, Nat.add_zero]
 | cons x K R ihK ihR =>
  intro d out less i rest k hleaf hall hdrop hrest hd hlow hll hh hout hi hk
  obtain ⟨hlx, hlK, hlR⟩ := hleaf
  obtain ⟨hfx, haK, haR⟩ := hall
  have hsz : (Fo.cons x K R).size = 1 + K.size + R.size := rfl
  have hht : (Fo.cons x K R).height = max (1 + K.height) R.height := rfl
  rw [hsz] at hk
  rw [hht] at hh
  have hdrop' : l.drop i = { x with f0 := (d : Int) } :: (flat ((d : Int) + 1) K ++ (flat d R ++ rest)) := by rw [hdrop, flat]; simp
  have h0 : l[i]? = some { x with f0 := (d : Int) } := by
   have := congrArg (fun m => m[0]?) hdrop'
   simp only [List.getElem?_drop, Nat.add_zero, List.getElem?_cons_zero] at this
   exact this
  have hil : i < l.length := (List.getElem?_eq_some_iff.1 h0).1
  have hd1 : l.drop (i + 1) = flat (((d + 1 : Nat)) : Int) K ++ (flat d R ++ rest) := by
   have := drop_more (l := l) (i := i) (a := [{ x with f0 := (d : Int) }]) hdrop'
   exact this
  have hlenK : (flat (((d + 1 : Nat)) : Int) K).length = K.size := flat_len _ _
  have hd2 : l.drop (i + 1 + K.size) = flat d R ++ rest := by
   have := drop_more hd1
   rw [hlenK] at this
   exact this
  have hi2 : i + 1 + K.size ≤ l.length := by
   have := congrArg List.length hd1
   rw [List.length_drop, List.length_append, hlenK] at this
   omega
  have hrest2 : ∀ y, (flat (d : Int) R ++ rest).head? = some y → y.f0 ≤ d := fun y hy => by
   cases R with
   | nil => exact hrest y hy
   | cons z kz rz => rw [flat, List.cons_append, List.head?_cons] at hy; cases hy; exact Int.le_refl _
  have hls : (less.take d).length = d := by rw [List.length_take]; omega
  obtain ⟨hu0, hu1⟩ := hlow.up hd
  obtain ⟨u, hu⟩ : ∃ u, up less d = u := ⟨_, rfl⟩
  rw [hu] at hu0 hu1 ⊢
  obtain ⟨k, rfl⟩ : ∃ q, k = q + 2 := ⟨k - 2, by omega⟩
  have hstep : clean_Rows.l0 (k + 2) l s out less (i : Int) c.al c.aal c.els c.rep c.ats c.per c.com c.dt = clean_Rows.j1 (k + 1) l s out (less.take d) (i : Int) u c.al c.aal c.els c.rep c.ats c.per c.com c.dt (d : Int) x.f1 x.f2 x.f3 x.f4 := by
   simp only [clean_Rows.l0]
   rw [if_pos (by omega), if_pos (by omega), rdR_at h0]
   simp only [Option.bind_some, Int.toNat_natCast]
   rw [if_pos (by omega), if_pos (by omega)]
   by_cases hz : d = 0
   ·subst hz
    have : u = 0 := by rw [← hu]; rfl
    rw [if_neg (by omega), this]
   ·have e1 : wrap64 ((d : Int) - 1) = ((d - 1 : Nat) : Int) := by rw [wrap_id (by omega) (by omega)]; omega
    have e2 : rd (less.take d) ((d - 1 : Nat) : Int) = u := by
     unfold rd
     rw [Int.toNat_natCast, ← hu, ← up_take less d]
     unfold up
     rw [if_neg hz]
    rw [if_pos (by omega), e1, if_pos (by omega), if_pos (by rw [hls]; omega), e2]
  have hbec : clean_becomes.f k (d : Int) x.f1 x.f2 x.f3 x.f4 c.al c.aal c.els c.rep c.ats c.per c.com c.dt s = some (whatC c s x) := becomes_f hf s { x with f0 := (d : Int) } (by omega)
  have hkeep : keepF (whatC c s) (updC c s) (.cons x K R) = if whatC c s x = 1 then keepF (whatC c s) (updC c s) R else if whatC c s x = 2 then (keepF (whatC c s) (updC c s) K).app (keepF (whatC c s) (updC c s) R) else .cons (updC c s x) (keepF (whatC c s) (updC c s) K) (keepF (whatC c s) (updC c s) R) := rfl
  rw [hstep, hkeep, hsz]
  simp only [clean_Rows.j1]
  rw [hbec, Option.bind_some]
  have hlenF : ∀ (G : Fo) (e : Int), (flat e (keepF (whatC c s) (updC c s) G)).length ≤ G.size := fun G e => by rw [flat_len]; exact keep_size _ _ G
  by_cases w1 : whatC c s x = 1
  ·rw [if_pos w1, if_pos w1]
   have ht := takeWhile_tree (d : Int) K (flat d R ++ rest) hrest2
   have he : rows_End.f k l (i : Int) = some ((i + 1 + K.size : Nat) : Int) := by
    have h := end_f l hl i _ h0 (k := k) (by omega)
    rw [hd1] at h
    rw [← ht]
    exact h
   rw [he, Option.bind_some]
   obtain ⟨k', less', a1, a2, a3, a4, a5, a6⟩ := ihR d out (less.take d) (i + 1 + K.size) rest k hlR haR hd2 hrest (by omega) (hlow.take d) (by omega) (by omega) (by omega) hi2 (by omega)
   refine ⟨k', less', by omega, by rw [a2, List.take_take, Nat.min_self], a3, a4, a5, ?_⟩
   rw [a6, up_take, hu, show i + 1 + K.size + R.size = i + (1 + K.size + R.size) by omega]
  ·rw [if_neg w1, if_neg w1]
   by_cases w2 : whatC c s x = 2
   ·rw [if_pos w2, if_pos w2, if_pos (by omega), wrap_succ (i := u) (by omega) (by omega), wrap_succ (i := (i : Int)) (by omega) (by omega)]
    obtain ⟨k1, l1, a1, a2, a3, a4, a5, a6⟩ := ihK (d + 1) out (less.take d ++ [u + 1]) (i + 1) (flat d R ++ rest) k hlK haK hd1 (fun y hy => by have := hrest2 y hy; omega) (by rw [List.length_append, hls]; simp) ((hlow.take d).snoc (by omega) (by rw [hls]; omega)) (by rw [List.length_append, hls]; simp; omega) (by omega) (by omega) (by omega) (by omega)
    rw [up_snoc _ d _ hls] at a6
    have hout1 : (out ++ flat (((d + 1 : Nat) : Int) - (u + 1)) (keepF (whatC c s) (updC c s) K)).length ≤ i + 1 + K.size := by
     rw [List.length_append]
     have := hlenF K (((d + 1 : Nat) : Int) - (u + 1))
     omega
    have ht1 : l1.take d = less.take d := by
     have := congrArg (List.take d) a2
     rw [List.take_take, List.take_take, List.take_append_of_le_length (by rw [hls]; omega), List.take_take] at this
     simpa [Nat.min_eq_left (Nat.le_succ d)] using this
    obtain ⟨k2, l2, b1, b2, b3, b4, b5, b6⟩ := ihR d _ l1 (i + 1 + K.size) rest k1 hlR haR hd2 hrest (by omega) a4 a5 (by omega) hout1 hi2 (by omega)
    have hup1 : up l1 d = u := by rw [← up_take, ht1, up_take, hu]
    refine ⟨k2, l2, by omega, by rw [b2, ht1], b3, b4, b5, ?_⟩
    rw [show ((i : Int) + 1) = ((i + 1 : Nat) : Int) from rfl, a6, b6, hup1, flat_app, List.append_assoc, show ((d + 1 : Nat) : Int) - (u + 1) = (d : Int) - u by omega, show i + 1 + K.size + R.size = i + (1 + K.size + R.size) by omega]
   ·rw [if_neg w2, if_neg w2, attrs_f hf s _ _ _ _ _ hfx.few hfx.small (by omega), Option.bind_some, if_pos (by omega), if_pos (by omega), wrap_id (i := (d : Int) - u) (by omega) (by omega), wrap_succ (i := (i : Int)) (by omega) (by omega)]
    obtain ⟨k1, l1, a1, a2, a3, a4, a5, a6⟩ := ihK (d + 1) (out ++ [⟨(d : Int) - u, x.f1, x.f2, x.f3, keepA c s x.f2 x.f4⟩]) (less.take d ++ [u]) (i + 1) (flat d R ++ rest) k hlK haK hd1 (fun y hy => by have := hrest2 y hy; omega) (by rw [List.length_append, hls]; simp) ((hlow.take d).snoc (by omega) (by rw [hls]; omega)) (by rw [List.length_append, hls]; simp; omega) (by omega) (by rw [List.length_append]; simp; omega) (by omega) (by omega)
    rw [up_snoc _ d _ hls] at a6
    have hout1 : (out ++ [(⟨(d : Int) - u, x.f1, x.f2, x.f3, keepA c s x.f2 x.f4⟩ : Rw)] ++ flat (((d + 1 : Nat) : Int) - u) (keepF (whatC c s) (updC c s) K)).length ≤ i + 1 + K.size := by
     rw [List.length_append, List.length_append]
     have := hlenF K (((d + 1 : Nat) : Int) - u)
     simp only [List.length_singleton]
     omega
    have ht1 : l1.take d = less.take d := by
     have := congrArg (List.take d) a2
     rw [List.take_take, List.take_take, List.take_append_of_le_length (by rw [hls]; omega), List.take_take] at this
     simpa [Nat.min_eq_left (Nat.le_succ d)] using this
    obtain ⟨k2, l2, b1, b2, b3, b4, b5, b6⟩ := ihR d _ l1 (i + 1 + K.size) rest k1 hlR haR hd2 hrest (by omega) a4 a5 (by omega) hout1 hi2 (by omega)
    have hup1 : up l1 d = u := by rw [← up_take, ht1, up_take, hu]
    refine ⟨k2, l2, by omega, by rw [b2, ht1], b3, b4, b5, ?_⟩
    rw [show ((i : Int) + 1) = ((i + 1 : Nat) : Int) from rfl, a6, b6, hup1, updC_any hfx.ok, flat, show i + 1 + K.size + R.size = i + (1 + K.size + R.size) by omega]
    congr 1
    simp only [List.append_assoc, List.cons_append, List.nil_append]
    rw [show ((d + 1 : Nat) : Int) - u = (d : Int) - u + 1 by omega]

structure Tidy (l : List Rw) : Prop where
 len : l.length ≤ 200
 few : ∀ x ∈ l, x.f4.length ≤ 50
 small : ∀ x ∈ l, VS x.f4
 txt : tsz l ≤ 4000000000000000000
structure Good (F : Fo) : Prop where
 leaf : F.Leaf
 fine : F.All Fine
 low : F.height ≤ 60
 few : F.size ≤ 200
 txt : tsz (flat 0 F) ≤ 4000000000000000000
theorem fine_dep (x : Rw) (d : Int) (h : Fine x) : Fine { x with f0 := d } := ⟨h.ok, h.few, h.small⟩
theorem fine_dep' (x : Rw) (d : Int) (h : Fine { x with f0 := d }) : Fine x := ⟨h.ok, h.few, h.small⟩
theorem Good.tidy {F : Fo} (h : Good F) : Tidy (flat 0 F) :=
 ⟨by rw [flat_len]; exact h.few, fun x hx => (flat_all fine_dep F 0 h.fine x hx).few, fun x hx => (flat_all fine_dep F 0 h.fine x hx).small, h.txt⟩
theorem Good.check {F : Fo} (h : Good F) : checkR (flat 0 F) = 0 := by
 have h1 : (flat 0 F).any deepB = false := by
  rw [List.any_eq_false]
  intro x hx
  have := flat_lt F 0 x hx
  have := h.low
  unfold deepB
  rw [decide_eq_true_eq]
  omega
 have h2 : rightB 0 (flat 0 F) = true := (right_iff _ _).2 (right_flat (fun x d g => g) F 0 (Int.le_refl _) h.leaf (all_imp (fun x g => g.ok) h.fine))
 unfold checkR
 rw [h1, h2]
 rfl
theorem check_forest {l : List Rw} (h : Tidy l) (hc : checkR l = 0) : ∃ F, l = flat 0 F ∧ Good F := by
 unfold checkR at hc
 split at hc
 ·cases hc
 ·rename_i hd
  split at hc
  ·rename_i hr
   obtain ⟨F, e, hl, ha⟩ := parse ((right_iff _ _).1 hr)
   have hfine : F.All Fine := all_flat fine_dep' F 0 (fun x hx => by
    rw [← e] at hx
    have hok : rowB x = true := flat_all (P := fun x => rowB x = true) (fun x d g => g) F 0 ha x (by rw [← e]; exact hx)
    exact ⟨hok, h.few x hx, h.small x hx⟩)
   refine ⟨F, e, hl, hfine, ?_, ?_, by rw [← e]; exact h.txt⟩
   ·refine height_of F 0 60 (fun x hx => ?_)
    rw [← e] at hx
    have : deepB x = false := by
     have := List.any_eq_false.1 (by simpa using hd) x hx
     simpa using this
    unfold deepB at this
    have := of_decide_eq_false this
    omega
   ·have := h.len
    rw [e, flat_len] at this
    exact this
  ·cases hc
theorem uniq_filter (p : Atr → Bool) : ∀ (l seen seen' : List Atr), (∀ b ∈ seen', b ∈ seen) → uniq seen l = true → uniq seen' (l.filter p) = true
 | [], _, _, _, _ => rfl
 | a :: t, seen, seen', hs, h => by
  have h' : (seen.all (fun b => !decide (a.f0 = b.f0)) && uniq (seen ++ [a]) t) = true := h
  rw [Bool.and_eq_true] at h'
  rw [List.filter_cons]
  split
  ·show (seen'.all (fun b => !decide (a.f0 = b.f0)) && uniq (seen' ++ [a]) (t.filter p)) = true
   rw [Bool.and_eq_true]
   refine ⟨?_, uniq_filter p t _ _ (fun b hb => ?_) h'.2⟩
   ·rw [List.all_eq_true] at h' ⊢
    exact fun b hb => h'.1 b (hs b hb)
   ·rcases List.mem_append.1 hb with g | g
    ·exact List.mem_append_left _ (hs b g)
    ·exact List.mem_append_right _ g
  ·exact uniq_filter p t _ _ (fun b hb => List.mem_append_left _ (hs b hb)) h'.2
theorem updC_f1 (c : Cf) (s : Bool) (x : Rw) : (updC c s x).f1 = x.f1 := by unfold updC; split <;> rfl
theorem updC_f2 (c : Cf) (s : Bool) (x : Rw) : (updC c s x).f2 = x.f2 := by unfold updC; split <;> rfl
theorem updC_f3 (c : Cf) (s : Bool) (x : Rw) : (updC c s x).f3 = x.f3 := by unfold updC; split <;> rfl
theorem keepA_len (c : Cf) (s : Bool) (n : ByteArray) (l : List Atr) : (keepA c s n l).length ≤ l.length := List.length_filter_le _ _
theorem updC_fine {c : Cf} {s : Bool} {x : Rw} (h : Fine x) : Fine (updC c s x) := by
 unfold updC
 split
 ·rename_i h0
  have hne : ¬ (x.f1 = 1 ∨ x.f1 = 2) := by omega
  refine ⟨?_, Nat.le_trans (keepA_len c s x.f2 x.f4) h.few, fun a ha => h.small a (List.mem_filter.1 ha).1⟩
  have hok := h.ok
  rw [rowB_el hne] at hok
  rw [rowB_el (x := { x with f4 := keepA c s x.f2 x.f4 }) hne]
  simp only [Bool.and_eq_true] at hok ⊢
  exact ⟨hok.1, uniq_filter _ _ _ _ (fun b hb => hb) hok.2⟩
 ·exact h
theorem tsz_keep (c : Cf) (s : Bool) : ∀ (F : Fo) (d e : Int), tsz (flat d (keepF (whatC c s) (updC c s) F)) ≤ tsz (flat e F)
 | .nil, d, e => Nat.le_refl _
 | .cons x k r, d, e => by
  rw [keepF, flat, tsz, tsz_app]
  split
  ·have := tsz_keep c s r d e; omega
  ·split
   ·rw [flat_app, tsz_app]
    have h1 := tsz_keep c s k d (e + 1)
    have h2 := tsz_keep c s r d e
    omega
   ·rw [flat, tsz, tsz_app]
    have h1 := tsz_keep c s k (d + 1) (e + 1)
    have h2 := tsz_keep c s r d e
    have h3 : (updC c s x).f3.size = x.f3.size := by rw [updC_f3]
    show (updC c s x).f3.size + _ ≤ x.f3.size + _
    omega
theorem Good.keep {F : Fo} (h : Good F) (c : Cf) (s : Bool) : Good (keepF (whatC c s) (updC c s) F) :=
 ⟨keep_leaf (updC_f1 c s) h.leaf, keep_all (fun x g _ _ => updC_fine g) h.fine, Nat.le_trans (keep_height _ _ F) h.low, Nat.le_trans (keep_size _ _ F) h.few, Nat.le_trans (tsz_keep c s F 0 0) h.txt⟩
theorem tsz_fold : ∀ (l out : List Rw), tsz (l.foldl nstep out) ≤ tsz out + tsz l
 | [], out => by simp [tsz]
 | x :: t, out => by
  have h1 := tsz_fold t (nstep out x)
  have h2 := nstep_tsz out x
  rw [List.foldl_cons, tsz]
  omega
theorem tsz_norm (l : List Rw) : tsz (normL l) ≤ tsz l := by
 have := tsz_fold l []
 rw [fold_norm'] at this
 simpa [tsz] using this
theorem Good.norm {F : Fo} (h : Good F) : Good (normF F) := by
 refine ⟨norm_leaf F h.leaf, norm_all (fun x b g h1 => ?_) h.fine, Nat.le_trans (norm_height F) h.low, Nat.le_trans (norm_size F) h.few, ?_⟩
 ·refine ⟨?_, g.few, g.small⟩
  have hok := g.ok
  rw [rowB_text (.inl h1)] at hok
  rw [rowB_text (x := { x with f3 := b }) (.inl h1)]
  exact hok
 ·rw [← normL_flat F 0 h.leaf]
  exact Nat.le_trans (tsz_norm _) h.txt
theorem Good.app {A B : Fo} (h : Good A) (g : Good B) (hs : A.size + B.size ≤ 200) (ht : tsz (flat 0 A) + tsz (flat 0 B) ≤ 4000000000000000000) : Good (A.app B) :=
 ⟨leaf_app h.leaf g.leaf, all_app h.fine g.fine, by rw [height_app]; have := h.low; have := g.low; omega, by rw [size_app]; exact hs, by rw [flat_app, tsz_app]; exact ht⟩
theorem okx_flat {F : Fo} (h : F.All Fine) (hs : F.height ≤ 200) : ∀ x ∈ flat 0 F, Okx x := fun x hx => by
 have h1 := flat_ge F 0 x hx
 have h2 := flat_lt F 0 x hx
 exact ⟨wrap_id (by omega) (by omega), (flat_all fine_dep F 0 h x hx).few⟩
theorem check_kk {c : Cf} (hf : Fit c) (ht : Text c) : config_Check.f c.al c.aal c.els c.rep c.ats c.per c.com c.dt = some (checkI c) := if_pos ⟨of_fit hf, of_text ht⟩
abbrev cleaned (c : Cf) (s : Bool) (F : Fo) : Fo := normF (keepF (whatC c s) (updC c s) F)
theorem Good.cleaned {F : Fo} (h : Good F) (c : Cf) (s : Bool) : Good (cleaned c s F) := (h.keep c s).norm
theorem rows_good {c : Cf} (hf : Fit c) (ht : Text c) (hc : checkI c = 0) (s : Bool) {F : Fo} (h : Good F) {k : Nat} (hk : 8000 < k) :
  clean_Rows.f k (flat 0 F) c.al c.aal c.els c.rep c.ats c.per c.com c.dt s = some (flat 0 (cleaned c s F), 0) := by
 have htd := h.tidy
 have hlow := h.low
 have hfew := h.few
 unfold clean_Rows.f
 rw [check_kk hf ht, Option.bind_some, if_pos hc, rows_check_f _ htd.len htd.few (by omega), Option.bind_some, if_pos h.check]
 obtain ⟨k', less', a1, _, _, _, _, a6⟩ := walk hf s (flat 0 F) htd.len F 0 [] [] 0 [] k h.leaf h.fine (by simp) (fun y hy => by cases hy) (Nat.zero_le _) (fun j u hj => by cases hj) (by simp) (by omega) (by simp) (Nat.zero_le _) (by omega)
 rw [show ((0 : Nat) : Int) = 0 from rfl] at a6
 rw [a6, show (0 : Int) - up [] 0 = 0 from rfl, List.nil_append]
 obtain ⟨k', rfl⟩ : ∃ q, k' = q + 1 := ⟨k' - 1, by omega⟩
 have hg := h.keep c s
 have hgt := hg.tidy
 simp only [clean_Rows.l0]
 rw [if_neg (by rw [flat_len]; omega), normal_f _ hgt.len (okx_flat hg.fine (by have := hg.low; omega)) hgt.txt (by omega), Option.bind_some, normL_flat _ _ hg.leaf]
def whyR (c : Cf) (l : List Rw) : Int := if checkI c = 0 then checkR l else checkI c
theorem rows_why {c : Cf} (hf : Fit c) (ht : Text c) (s : Bool) {l : List Rw} (h : Tidy l) (hw : whyR c l ≠ 0) {k : Nat} (hk : 8000 < k) :
  clean_Rows.f k l c.al c.aal c.els c.rep c.ats c.per c.com c.dt s = some ([], whyR c l) := by
 unfold whyR at hw ⊢
 unfold clean_Rows.f
 rw [check_kk hf ht, Option.bind_some]
 by_cases hc : checkI c = 0
 ·rw [if_pos hc] at hw ⊢
  rw [if_pos hc, rows_check_f _ h.len h.few (by omega), Option.bind_some, if_neg hw]
 ·rw [if_neg hc, if_neg hc]
theorem attrs_same_l0 (l : List Atr) (hl : l.length ≤ 50) : ∀ (d i : Nat), i + d = l.length → ∀ k, d < k → boltingref04_Attrs.l0 k l l (i : Int) = some true
 | 0, i, h, k, hk => by
  obtain ⟨k, rfl⟩ : ∃ q, k = q + 1 := ⟨k - 1, by omega⟩
  simp only [boltingref04_Attrs.l0]
  rw [if_neg (by omega)]
 | d + 1, i, h, k, hk => by
  obtain ⟨k, rfl⟩ : ∃ q, k = q + 1 := ⟨k - 1, by omega⟩
  simp only [boltingref04_Attrs.l0]
  rw [if_pos (by omega), if_pos (by omega), if_pos (by omega), if_neg (by simp), wrap_succ (by omega) (by omega)]
  exact attrs_same_l0 l hl d (i + 1) (by omega) k (by omega)
theorem attrs_same (l : List Atr) (hl : l.length ≤ 50) {k : Nat} (hk : 60 < k) : boltingref04_Attrs.f k l l = some true := by
 unfold boltingref04_Attrs.f
 rw [if_pos rfl]
 exact attrs_same_l0 l hl l.length 0 (by omega) k (by omega)
theorem same_rows_l0 (l : List Rw) (hl : l.length ≤ 200) (hx : ∀ x ∈ l, x.f4.length ≤ 50) : ∀ (d i : Nat), i + d = l.length → ∀ k, 2 * d + 100 < k → boltingref04_Same.l0 k l l (i : Int) = some true
 | 0, i, h, k, hk => by
  obtain ⟨k, rfl⟩ : ∃ q, k = q + 1 := ⟨k - 1, by omega⟩
  simp only [boltingref04_Same.l0]
  rw [if_neg (by omega)]
 | d + 1, i, h, k, hk => by
  obtain ⟨k, rfl⟩ : ∃ q, k = q + 2 := ⟨k - 2, by omega⟩
  obtain ⟨x, h0⟩ := get_some (l := l) (show i < l.length by omega)
  simp only [boltingref04_Same.l0]
  rw [if_pos (by omega), if_pos (by omega), if_pos (by omega), rdR_at h0, if_pos trivial, if_pos trivial, if_pos trivial, if_pos trivial, attrs_same _ (hx x (List.mem_of_getElem? h0)) (by omega), Option.bind_some]
  simp only [boltingref04_Same.j1]
  rw [if_neg (by simp), wrap_succ (by omega) (by omega)]
  exact same_rows_l0 l hl hx d (i + 1) (by omega) k (by omega)
theorem same_rows (l : List Rw) (hl : l.length ≤ 200) (hx : ∀ x ∈ l, x.f4.length ≤ 50) {k : Nat} (hk : 600 < k) : boltingref04_Same.f k l l = some true := by
 unfold boltingref04_Same.f
 rw [if_pos rfl]
 exact same_rows_l0 l hl hx l.length 0 (by omega) k (by omega)

theorem text_l0 (l : List Rw) (hl : l.length ≤ 200) : ∀ (d i : Nat) (acc : List UInt8), i + d = l.length → acc.length + tsz (l.drop i) ≤ 4000000000000000000 → ∀ k, 2 * d + 1 < k →
  boltingref04_Text.l0 k l (-1) (mkS acc) (l.length : Int) (i : Int) = some (mkS (acc ++ textL (l.drop i)))
 | 0, i, acc, h, ht, k, hk => by
  obtain ⟨k, rfl⟩ : ∃ q, k = q + 2 := ⟨k - 2, by omega⟩
  simp only [boltingref04_Text.l0]
  rw [if_neg (by omega), List.drop_of_length_le (by omega)]
  simp only [boltingref04_Text.j2]
  rw [if_neg (by simp), textL, List.append_nil]
 | d + 1, i, acc, h, ht, k, hk => by
  obtain ⟨k, rfl⟩ : ∃ q, k = q + 2 := ⟨k - 2, by omega⟩
  obtain ⟨x, h0⟩ := get_some (l := l) (show i < l.length by omega)
  rw [drop_at h0, tsz] at ht
  have hxs : x.f3.data.toList.length = x.f3.size := (Lib.size_eq _).symm
  simp only [boltingref04_Text.l0]
  rw [if_pos (by omega)]
  simp only [boltingref04_Text.j2]
  rw [if_pos (by decide), if_pos (by omega), if_pos (by omega), rdR_at h0, wrap_succ (by omega) (by omega), drop_at h0, textL, tx]
  by_cases h1 : x.f1 = 1
  ·rw [if_pos h1, if_pos h1, if_pos (by rw [mkS_size]; omega)]
   have ih := text_l0 l hl d (i + 1) (acc ++ x.f3.data.toList) (by omega) (by rw [List.length_append]; omega) k (by omega)
   rw [← mkS_app, mkS_data, List.append_assoc] at ih
   exact ih
  ·rw [if_neg h1, if_neg h1, List.nil_append]
   exact text_l0 l hl d (i + 1) acc (by omega) (by omega) k (by omega)
theorem text_f (l : List Rw) (hl : l.length ≤ 200) (ht : tsz l ≤ 4000000000000000000) {k : Nat} (hk : 600 < k) : boltingref04_Text.f k l (-1) = some (mkS (textL l)) := by
 obtain ⟨k, rfl⟩ : ∃ q, k = q + 1 := ⟨k - 1, by omega⟩
 unfold boltingref04_Text.f
 rw [if_neg (by decide)]
 simp only [boltingref04_Text.j0]
 have := text_l0 l hl l.length 0 [] (by omega) (by simpa using ht) k (by omega)
 exact this

def safeX (x : Rw) : Bool := !decide (x.f1 = 0) || (!neverB x.f2 && x.f4.all fun a => !riskB x.f2 a.f0 a.f1)
theorem safe_l1 (l : List Rw) (i : Nat) (hi : i ≤ 200) (x : Rw) (hx : x.f4.length ≤ 50) (hv : VS x.f4) : ∀ (d j : Nat), j + d = x.f4.length → ∀ m k, k = m + d + 1 →
  risk_Safe.l1 k l (l.length : Int) (i : Int) x.f4 (x.f4.length : Int) (j : Int) x.f0 x.f1 x.f2 x.f3 x.f4 = if ((x.f4.drop j).all fun a => !riskB x.f2 a.f0 a.f1) = true then risk_Safe.l0 m l (l.length : Int) ((i : Int) + 1) else some false
 | 0, j, h, m, k, hk => by
  obtain rfl : k = m + 1 := hk
  simp only [risk_Safe.l1]
  rw [if_neg (by omega), List.drop_of_length_le (by omega), wrap_succ (by omega) (by omega)]; rfl
 | d + 1, j, h, m, k, hk => by
  obtain ⟨k, rfl⟩ : ∃ q, k = q + 1 := ⟨k - 1, by omega⟩
  obtain ⟨a, h0⟩ := get_some (l := x.f4) (show j < x.f4.length by omega)
  simp only [risk_Safe.l1]
  rw [if_pos (by omega), if_pos (by omega), if_pos (by omega), rdA_at h0, risk_f _ _ _ (hv a (List.mem_of_getElem? h0)), Option.bind_some, drop_at h0, List.all_cons, wrap_succ (by omega) (by omega)]
  cases riskB x.f2 a.f0 a.f1 with
  | true => rw [if_pos rfl]; rfl
  | false => rw [if_neg (by simp)]; exact safe_l1 l i hi x hx hv d (j + 1) (by omega) m k (by omega)
theorem safe_l0 (l : List Rw) (hl : Tidy l) : ∀ (d i : Nat), i + d = l.length → ∀ k, d * 60 < k → risk_Safe.l0 k l (l.length : Int) (i : Int) = some ((l.drop i).all safeX)
 | 0, i, h, k, hk => by
  obtain ⟨k, rfl⟩ : ∃ q, k = q + 1 := ⟨k - 1, by omega⟩
  simp only [risk_Safe.l0]
  rw [if_neg (by omega), List.drop_of_length_le (by omega)]; rfl
 | d + 1, i, h, k, hk => by
  obtain ⟨k, rfl⟩ : ∃ q, k = q + 1 := ⟨k - 1, by omega⟩
  obtain ⟨x, h0⟩ := get_some (l := l) (show i < l.length by omega)
  have hm := List.mem_of_getElem? h0
  have hk2 : (d + 1) * 60 = d * 60 + 60 := Nat.succ_mul _ _
  have hlen := hl.len
  have hfx := hl.few x hm
  simp only [risk_Safe.l0]
  rw [if_pos (by omega), if_pos (by omega), if_pos (by omega), rdR_at h0, drop_at h0, List.all_cons]
  unfold safeX
  by_cases h1 : x.f1 = 0
  ·rw [if_pos h1, never_f, Option.bind_some, decide_eq_true h1]
   cases neverB x.f2 with
   | true => rw [if_pos rfl]; rfl
   | false =>
    rw [if_neg (by simp)]
    have := safe_l1 l i (by omega) x hfx (hl.small x hm) x.f4.length 0 (by omega) (k - x.f4.length - 1) k (by omega)
    rw [show ((0 : Nat) : Int) = 0 from rfl, List.drop_zero] at this
    rw [this]
    have ih := safe_l0 l hl d (i + 1) (by omega) (k - x.f4.length - 1) (by omega)
    rw [show ((i + 1 : Nat) : Int) = (i : Int) + 1 from rfl] at ih
    rw [ih]
    cases x.f4.all fun a => !riskB x.f2 a.f0 a.f1 with
    | true => rw [if_pos rfl]; rfl
    | false => rw [if_neg (by simp)]; rfl
  ·rw [if_neg h1, decide_eq_false h1, wrap_succ (by omega) (by omega)]
   exact safe_l0 l hl d (i + 1) (by omega) k (by omega)
theorem safe_f (l : List Rw) (hl : Tidy l) {k : Nat} (hk : 13000 < k) : risk_Safe.f k l = some (l.all safeX) := by
 have hlen := hl.len
 have := safe_l0 l hl l.length 0 (by omega) k (by omega)
 exact this

def bndR (l : List Rw) : List Rw := (l.take 40).map fun x => { x with f4 := x.f4.take 8 }
theorem mn8 (n : Nat) : 0 ≤ mn (n : Int) 8 ∧ mn (n : Int) 8 ≤ (n : Int) ∧ (mn (n : Int) 8).toNat = min n 8 := by
 unfold mn; split <;> omega
theorem take_mn8 {α : Type} (l : List α) : l.take (mn (l.length : Int) 8).toNat = l.take 8 := by
 rw [(mn8 _).2.2]
 rcases Nat.le_total l.length 8 with h | h
 ·rw [Nat.min_eq_left h, List.take_length, List.take_of_length_le h]
 ·rw [Nat.min_eq_right h]
theorem bndr_l0 (l : List Rw) : ∀ (d i : Nat) (acc : List Rw), i + d = min l.length 40 → acc.length = i → ∀ k, d < k →
  boltinglaw13_bound.l0 k l acc (i : Int) = some (acc ++ ((l.drop i).take d).map fun x => { x with f4 := x.f4.take 8 })
 | 0, i, acc, h, ha, k, hk => by
  obtain ⟨k, rfl⟩ : ∃ q, k = q + 1 := ⟨k - 1, by omega⟩
  simp only [boltinglaw13_bound.l0]
  rw [List.take_zero, List.map_nil, List.append_nil]
  by_cases h1 : (i : Int) < (l.length : Int)
  ·rw [if_pos h1, if_neg (by omega)]
  ·rw [if_neg h1]
 | d + 1, i, acc, h, ha, k, hk => by
  obtain ⟨k, rfl⟩ : ∃ q, k = q + 1 := ⟨k - 1, by omega⟩
  obtain ⟨x, h0⟩ := get_some (l := l) (show i < l.length by omega)
  simp only [boltinglaw13_bound.l0]
  rw [if_pos (by omega), if_pos (by omega), if_pos (by omega), rdR_at h0, if_pos (mn8 _).1, if_pos (mn8 _).2.1, if_pos (by omega), take_mn8, wrap_succ (by omega) (by omega), drop_at h0, List.take_succ_cons, List.map_cons]
  have := bndr_l0 l d (i + 1) (acc ++ [{ x with f4 := x.f4.take 8 }]) (by omega) (by simp [ha]) k (by omega)
  rw [List.append_assoc] at this
  exact this
theorem bndr_f (l : List Rw) {k : Nat} (hk : 50 < k) : boltinglaw13_bound.f k l = some (bndR l) := by
 have := bndr_l0 l (min l.length 40) 0 [] (by omega) rfl k (by omega)
 unfold boltinglaw13_bound.f bndR
 rw [show ((0 : Nat) : Int) = 0 from rfl] at this
 rw [this, List.nil_append, List.drop_zero]
 congr 2
 rcases Nat.le_total l.length 40 with h | h
 ·rw [Nat.min_eq_left h, List.take_length, List.take_of_length_le h]
 ·rw [Nat.min_eq_right h]
def SizedR (l : List Rw) : Prop := ∀ x ∈ l, x.f3.size ≤ 140737488351232 ∧ VS x.f4
theorem tsz_le {M : Nat} : ∀ l : List Rw, (∀ x ∈ l, x.f3.size ≤ M) → tsz l ≤ l.length * M
 | [], _ => Nat.zero_le _
 | x :: t, h => by
  have h1 := tsz_le t (fun y hy => h y (List.mem_cons_of_mem _ hy))
  have h2 := h x (List.mem_cons_self ..)
  rw [tsz, List.length_cons, Nat.succ_mul]
  omega
theorem bndr_len (l : List Rw) : (bndR l).length ≤ 40 := by unfold bndR; rw [List.length_map]; exact List.length_take_le _ _
theorem bndr_mem {l : List Rw} {x : Rw} (h : x ∈ bndR l) : ∃ y ∈ l, x = { y with f4 := y.f4.take 8 } := by
 obtain ⟨y, hy, e⟩ := List.mem_map.1 h
 exact ⟨y, List.mem_of_mem_take hy, e.symm⟩
theorem bndr_tsz {l : List Rw} (h : SizedR l) : tsz (bndR l) ≤ 5629499534049280 := by
 have h1 := tsz_le (M := 140737488351232) (bndR l) (fun x hx => by
  obtain ⟨y, hy, rfl⟩ := bndr_mem hx
  exact (h y hy).1)
 have h2 := bndr_len l
 have h3 : (bndR l).length * 140737488351232 ≤ 40 * 140737488351232 := Nat.mul_le_mul_right _ h2
 omega
theorem bndr_tidy {l : List Rw} (h : SizedR l) : Tidy (bndR l) := by
 refine ⟨Nat.le_trans (bndr_len l) (by omega), fun x hx => ?_, fun x hx => ?_, Nat.le_trans (bndr_tsz h) (by omega)⟩
 ·obtain ⟨y, hy, rfl⟩ := bndr_mem hx
  exact Nat.le_trans (List.length_take_le _ _) (by omega)
 ·obtain ⟨y, hy, rfl⟩ := bndr_mem hx
  exact fun a ha => (h y hy).2 a (List.mem_of_mem_take ha)
end Go.Proofs.YticacakoefojbaaGreat.Pure
namespace Go.Proofs.YticacakoefojbaaGreat.Pr
open Go.RowKit Go.Proofs.YticacakoefojbaaGreatW.PrintWords Go.Proofs.YticacakoefojbaaGreatW.PrintLast Go.Proofs.YticacakoefojbaaGreatW.PrintMore
attribute [local go_sem] max2_int min2_int max_two min_two max_three min_three max_four min_four   -- for this text's walks alone

def boltinglaw12_Bound.l0 : Nat → List (S60) → Int → Bool → Bool → List ByteArray → List ByteArray → List ByteArray → List (S60) → Bool → Bool → Option (Bool × Bool × List ByteArray × List ByteArray × List ByteArray × (List (S60)) × Bool × Bool)
 | 0, _, _, _, _, _, _, _, _, _, _ => none
 | k + 1, x3, x4, x210000, x210001, x210002, x210003, x210004, x210005, x210006, x210007 => if x4 < (x210005.length : Int) then (if x4 < 12 then (if 0 ≤ x4 then (if 0 ≤ (mn (((rd_T60 x210005 x4).f1).length : Int) 70) then (if (mn (((rd_T60 x210005 x4).f1).length : Int) 70) ≤ (((rd_T60 x210005 x4).f1).length : Int) then (if x3.length < 3518437208883 then (boltinglaw12_Bound.l0 k (x3 ++ [(⟨(rd_T60 x210005 x4).f0, (((rd_T60 x210005 x4).f1).take ((mn (((rd_T60 x210005 x4).f1).length : Int) 70) : Int).toNat)⟩ : S60)]) (wrap64 (x4 + 1)) x210000 x210001 x210002 x210003 x210004 x210005 x210006 x210007) else (none)) else (none)) else (none)) else (none)) else (some (x210000, x210001, x210002, x210003, x210004, x3, x210006, x210007))) else (some (x210000, x210001, x210002, x210003, x210004, x3, x210006, x210007))
def boltinglaw12_Bound.f (k : Nat) (a0_0 : Bool) (a0_1 : Bool) (l0_2 : List ByteArray) (l0_3 : List ByteArray) (l0_4 : List ByteArray) (l0_5 : List (S60)) (a0_6 : Bool) (a0_7 : Bool) : Option (Bool × Bool × List ByteArray × List ByteArray × List ByteArray × (List (S60)) × Bool × Bool) := if 0 ≤ (mn (l0_2.length : Int) 70) then (if (mn (l0_2.length : Int) 70) ≤ (l0_2.length : Int) then (if 0 ≤ (mn (l0_3.length : Int) 70) then (if (mn (l0_3.length : Int) 70) ≤ (l0_3.length : Int) then (if 0 ≤ (mn (l0_4.length : Int) 70) then (if (mn (l0_4.length : Int) 70) ≤ (l0_4.length : Int) then (boltinglaw12_Bound.l0 k (([] : List (S60))) 0 a0_0 a0_1 (l0_2.take ((mn (l0_2.length : Int) 70) : Int).toNat) (l0_3.take ((mn (l0_3.length : Int) 70) : Int).toNat) (l0_4.take ((mn (l0_4.length : Int) 70) : Int).toNat) l0_5 a0_6 a0_7) else (none)) else (none)) else (none)) else (none)) else (none)) else (none)
def boltinglaw12_Bound.T8 : Bool × List (List Nat × List Nat) := (true, [([], []), ([], []), ([1], [1]), ([], []), ([2, 3], [2, 3]), ([4], [4]), ([5], [5]), ([], []), ([7], [7]), ([], []), ([8, 9], [8, 9]), ([10], [10]), ([11], [11]), ([], []), ([13], [13]), ([], []), ([14, 15], [14, 15]), ([16], [16]), ([17], [17]), ([18], [18]), ([19], [19]), ([12, 20], [12, 20]), ([6, 21], [6, 21]), ([22], [22]), ([0, 23], [0, 23]), ([24, 24, 0, 1, 2, 3, 4, 5, 6, 7, 8, 9, 10, 11, 12, 13, 14, 15, 16, 17, 18, 19, 20, 21, 22, 23, 24], [0, 24])])
def boltinglaw12_Bound.B8 : List Nat := [0, 0, 2, 0, 14, 30, 62, 0, 128, 0, 896, 1920, 3968, 0, 8192, 0, 57344, 122880, 253952, 516096, 1040384, 2097024, 4194302, 8388606, 16777215, 33554431]
end Go.Proofs.YticacakoefojbaaGreat.Pr
namespace Go.Proofs.YticacakoefojbaaGreat.Pure
open Go.RowKit Go.Lib Go.Shelf Go.Proofs.YticacakoefojbaaGreatW.PrintWords Go.Proofs.YticacakoefojbaaGreatW.PrintLast Go.Proofs.YticacakoefojbaaGreatW.PrintMore Go.Proofs.YticacakoefojbaaGreat.Pr

def cutP (p : S60) : S60 := ⟨p.f0, p.f1.take 70⟩
def bound (c : Cf) : Cf := { c with els := c.els.take 70, rep := c.rep.take 70, ats := c.ats.take 70, per := (c.per.take 12).map cutP }
end Go.Proofs.YticacakoefojbaaGreat.Pure
namespace Go.Proofs.YticacakoefojbaaGreat
set_option maxRecDepth 100000
open Go.ChangeShapes Go.WideShapes Go.RowKit Go.Proofs.YticacakoefojbaaGreat.Pr Go.Proofs.YticacakoefojbaaGreat.Pure Go.Proofs.YticacakoefojbaaGreatW.PrintWords
abbrev Short (s : ByteArray) : Prop := s.size ≤ 140737488351232
structure Sized (c : Cf) : Prop where
 els : ∀ x ∈ c.els, Short x
 rep : ∀ x ∈ c.rep, Short x
 ats : ∀ x ∈ c.ats, Short x
 per : ∀ p ∈ c.per, Short p.f0 ∧ ∀ x ∈ p.f1, Short x
abbrev kStr : Kd (List ByteArray) := Kd.slice 9 Kd.string
abbrev kC : Kd (Bool × Bool × List ByteArray × List ByteArray × List ByteArray × List S60 × Bool × Bool) :=
 Kd.pair Kd.bool (Kd.pair Kd.bool (Kd.pair kStr (Kd.pair kStr (Kd.pair kStr (Kd.pair (Kd.slice 60 k60) (Kd.pair Kd.bool Kd.bool))))))
end Go.Proofs.YticacakoefojbaaGreat
namespace Go.Proofs.YticacakoefojbaaGreat.Pr
open Go.RowKit Go.Proofs.YticacakoefojbaaGreatW.PrintWords Go.Proofs.YticacakoefojbaaGreatW.PrintLast Go.Proofs.YticacakoefojbaaGreatW.PrintMore
attribute [local go_sem] max2_int min2_int max_two min_two max_three min_three max_four min_four   -- for this text's walks alone

attribute [local go_sem high] eqA45
mutual
def boltinglaw13_among.l0 : Nat → List (S45) → List (S45) → Int → Int → Option (Bool)
 | 0, _, _, _, _ => none
 | k + 1, x0, x1, x5, x6 => if x6 < (x1.length : Int) then (boltinglaw13_among.j1 k x0 x1 x5 x6 (decide (x5 < (x0.length : Int)))) else (boltinglaw13_among.j1 k x0 x1 x5 x6 false)
def boltinglaw13_among.j1 : Nat → List (S45) → List (S45) → Int → Int → Bool → Option (Bool)
 | 0, _, _, _, _, _ => none
 | k + 1, x0, x1, x5, x6, x16 => if x16 = true then (if 0 ≤ x5 then (if x5 < (x0.length : Int) then (if 0 ≤ x6 then (if x6 < (x1.length : Int) then (if ((((rd_T45 x0 x5).f0).toList) == (((rd_T45 x1 x6).f0).toList) && ((((rd_T45 x0 x5).f1).toList) == (((rd_T45 x1 x6).f1).toList))) = true then (boltinglaw13_among.l0 k x0 x1 (wrap64 (x5 + 1)) (wrap64 (x6 + 1))) else (boltinglaw13_among.l0 k x0 x1 x5 (wrap64 (x6 + 1)))) else (none)) else (none)) else (none)) else (none)) else (some (x5 == (x0.length : Int)))
end
def boltinglaw13_among.f (k : Nat) (l0 : List (S45)) (l1 : List (S45)) : Option (Bool) := boltinglaw13_among.l0 k l0 l1 0 0
end Go.Proofs.YticacakoefojbaaGreat.Pr
namespace Go.Proofs.YticacakoefojbaaGreat.Pure
open Go.RowKit Go.Proofs.YticacakoefojbaaGreat.Pr Go.Proofs.YticacakoefojbaaGreat.Fo Go.Proofs.YticacakoefojbaaGreatW.PrintWords Go.Proofs.YticacakoefojbaaGreatW.PrintLast Go.Proofs.YticacakoefojbaaGreatW.PrintMore

def RowIn (x : Rw) : Prop := (Lit.int .i64 x.f0).wf = true ∧ (Lit.int .i64 x.f1).wf = true ∧ x.f2.size ≤ 140737488351232 ∧ x.f3.size ≤ 140737488351232 ∧ ∀ y ∈ x.f4, y.f0.size ≤ 140737488351232 ∧ y.f1.size ≤ 140737488351232
theorem sized_of {l : List Rw} (h : ∀ x ∈ l, RowIn x) : SizedR l := fun x hx => ⟨(h x hx).2.2.2.1, fun a ha => ((h x hx).2.2.2.2 a ha).2⟩
theorem all_fit : Fit allC := ⟨by decide, by decide, by decide, by decide, fun p hp => by cases hp⟩
theorem all_text : Text allC := by
 have hE : ∀ l ∈ rowsE allC, l = [] := by
  intro l hl
  have hl : l ∈ [([] : List ByteArray), [], []] := hl
  simpa using hl
 have hA : ∀ l ∈ rowsA allC, l = [] := by
  intro l hl
  have hl : l ∈ [([] : List ByteArray)] := hl
  simpa using hl
 exact ⟨(fun l hl x hx => by rw [hE l hl] at hx; cases hx), (fun l hl x hx => by rw [hA l hl] at hx; cases hx)⟩
theorem all_check : checkI allC = 0 := by decide +kernel
theorem all_elem (n : ByteArray) : elemI allC n = 0 := rfl
theorem all_attr (e a : ByteArray) : attrB allC e a = true := rfl

theorem what_upd (c c' : Cf) (s s' : Bool) (x : Rw) : whatC c s (updC c' s' x) = whatC c s x := by
 unfold whatC
 rw [updC_f1, updC_f2]
theorem keep_again.all_true : ∀ F : Fo, F.All fun _ => True
 | .nil => trivial
 | .cons x k r => ⟨trivial, keep_again.all_true k, keep_again.all_true r⟩
theorem kept_safe (c : Cf) : ∀ F : Fo, (keepF (whatC c true) (updC c true) F).All fun x => safeX x = true := by
 intro F
 refine keep_all (P := fun _ => True) (fun x _ a b => ?_) (keep_again.all_true F)
 unfold safeX
 by_cases h0 : x.f1 = 0
 ·have hn : neverB x.f2 = false := by
   cases hh : neverB x.f2 with
   | false => rfl
   | true =>
    exfalso
    apply a
    unfold whatC
    rw [if_neg (by rw [h0]; decide), if_neg (by rw [h0]; decide), if_pos (by rw [hh]; rfl)]
  rw [updC_f2, hn]
  have e : updC c true x = { x with f4 := keepA c true x.f2 x.f4 } := by unfold updC; rw [if_pos h0]
  rw [e]
  show (!decide (x.f1 = 0) || (!false && (keepA c true x.f2 x.f4).all fun a => !riskB x.f2 a.f0 a.f1)) = true
  have : ((keepA c true x.f2 x.f4).all fun a => !riskB x.f2 a.f0 a.f1) = true := by
   rw [List.all_eq_true]
   intro y hy
   have := (List.mem_filter.1 hy).2
   rw [Bool.and_eq_true] at this
   simpa using this.2
  rw [this]
  simp
 ·rw [updC_f1, decide_eq_false h0]; rfl
theorem safe_norm {F : Fo} (h : F.All fun x => safeX x = true) : (normF F).All fun x => safeX x = true :=
 norm_all (fun x b g h1 => by unfold safeX; rw [show (({ x with f3 := b } : Rw)).f1 = 1 from h1]; rfl) h
theorem safe_flat {F : Fo} (h : F.All fun x => safeX x = true) : (flat 0 F).all safeX = true := by
 rw [List.all_eq_true]
 exact flat_all (fun x d g => g) F 0 h
theorem tx_upd (c : Cf) (s : Bool) (x : Rw) : tx (updC c s x) = tx x := by unfold tx; rw [updC_f1, updC_f3]

theorem attrs_any_l0 (a b : List Atr) (hl : a.length = b.length) (ha : a.length ≤ 50) : ∀ (d i : Nat), i + d = a.length → ∀ k, d < k → ∃ r, boltingref04_Attrs.l0 k a b (i : Int) = some r ∧ (r = true → a.drop i = b.drop i)
 | 0, i, h, k, hk => by
  obtain ⟨k, rfl⟩ : ∃ q, k = q + 1 := ⟨k - 1, by omega⟩
  simp only [boltingref04_Attrs.l0]
  rw [if_neg (by omega), List.drop_of_length_le (by omega), List.drop_of_length_le (by omega)]
  exact ⟨true, rfl, fun _ => rfl⟩
 | d + 1, i, h, k, hk => by
  obtain ⟨k, rfl⟩ : ∃ q, k = q + 1 := ⟨k - 1, by omega⟩
  obtain ⟨x, h0⟩ := get_some (l := a) (show i < a.length by omega)
  obtain ⟨y, g0⟩ := get_some (l := b) (show i < b.length by omega)
  simp only [boltingref04_Attrs.l0]
  rw [if_pos (by omega), if_pos (by omega), if_pos (by omega), rdA_at h0, rdA_at g0, wrap_succ (by omega) (by omega), drop_at h0, drop_at g0]
  by_cases hq : (!(x.f0.toList == y.f0.toList) || !(x.f1.toList == y.f1.toList)) = true
  ·rw [if_pos hq]
   exact ⟨false, rfl, fun h => by cases h⟩
  ·rw [if_neg hq]
   obtain ⟨r, hr, hi⟩ := attrs_any_l0 a b hl ha d (i + 1) (by omega) k (by omega)
   refine ⟨r, hr, fun e => ?_⟩
   rw [Bool.or_eq_true, not_or, Bool.not_eq_true, Bool.not_eq_true, Bool.not_eq_false', Bool.not_eq_false', beq_iff_eq, beq_iff_eq] at hq
   have e1 := toList_inj hq.1
   have e2 := toList_inj hq.2
   rw [hi e]
   cases x; cases y
   simp only at e1 e2
   subst e1 e2
   rfl
theorem attrs_any (a b : List Atr) (ha : a.length ≤ 50) {k : Nat} (hk : 60 < k) : ∃ r, boltingref04_Attrs.f k a b = some r ∧ (r = true → a = b) := by
 unfold boltingref04_Attrs.f
 by_cases hl : a.length = b.length
 ·rw [if_pos (by omega)]
  obtain ⟨r, hr, hi⟩ := attrs_any_l0 a b hl ha a.length 0 (by omega) k (by omega)
  exact ⟨r, hr, fun e => by simpa using hi e⟩
 ·rw [if_neg (by omega)]
  exact ⟨false, rfl, fun h => by cases h⟩
theorem same_any_l0 (a b : List Rw) (hl : a.length = b.length) (ha : a.length ≤ 200) (hx : ∀ x ∈ a, x.f4.length ≤ 50) : ∀ (d i : Nat), i + d = a.length → ∀ k, 2 * d + 100 < k → ∃ r, boltingref04_Same.l0 k a b (i : Int) = some r ∧ (r = true → a.drop i = b.drop i)
 | 0, i, h, k, hk => by
  obtain ⟨k, rfl⟩ : ∃ q, k = q + 1 := ⟨k - 1, by omega⟩
  simp only [boltingref04_Same.l0]
  rw [if_neg (by omega), List.drop_of_length_le (by omega), List.drop_of_length_le (by omega)]
  exact ⟨true, rfl, fun _ => rfl⟩
 | d + 1, i, h, k, hk => by
  obtain ⟨k, rfl⟩ : ∃ q, k = q + 2 := ⟨k - 2, by omega⟩
  obtain ⟨x, h0⟩ := get_some (l := a) (show i < a.length by omega)
  obtain ⟨y, g0⟩ := get_some (l := b) (show i < b.length by omega)
  have jt : boltingref04_Same.j1 (k + 1) a b (i : Int) true = some false := by simp only [boltingref04_Same.j1]; rfl
  have no : ∃ r, (some false : Option Bool) = some r ∧ (r = true → a.drop i = b.drop i) := ⟨false, rfl, fun h => by cases h⟩
  simp only [boltingref04_Same.l0]
  rw [if_pos (by omega), if_pos (by omega), if_pos (by omega), rdR_at h0, rdR_at g0]
  by_cases e0 : x.f0 = y.f0
  ·rw [if_pos e0]
   by_cases e1 : x.f1 = y.f1
   ·rw [if_pos e1]
    by_cases e2 : x.f2.toList = y.f2.toList
    ·rw [if_pos e2]
     by_cases e3 : x.f3.toList = y.f3.toList
     ·rw [if_pos e3]
      obtain ⟨q, hq, hi⟩ := attrs_any x.f4 y.f4 (hx x (List.mem_of_getElem? h0)) (k := k + 1) (by omega)
      rw [hq, Option.bind_some]
      cases q with
      | false =>
       rw [show (!false) = true from rfl, jt]
       exact no
      | true =>
       simp only [boltingref04_Same.j1]
       rw [if_neg (by simp), wrap_succ (by omega) (by omega)]
       obtain ⟨r, hr, hj⟩ := same_any_l0 a b hl ha hx d (i + 1) (by omega) k (by omega)
       refine ⟨r, hr, fun e => ?_⟩
       have e4 := hi rfl
       have e2' := toList_inj e2
       have e3' := toList_inj e3
       rw [drop_at h0, drop_at g0, hj e]
       cases x; cases y
       simp only at e0 e1 e2' e3' e4
       subst e0 e1 e2' e3' e4
       rfl
     ·rw [if_neg e3, jt]; exact no
    ·rw [if_neg e2, jt]; exact no
   ·rw [if_neg e1, jt]; exact no
  ·rw [if_neg e0, jt]; exact no
theorem same_any (a b : List Rw) (ha : a.length ≤ 200) (hx : ∀ x ∈ a, x.f4.length ≤ 50) {k : Nat} (hk : 600 < k) : ∃ r, boltingref04_Same.f k a b = some r ∧ (r = true → a = b) := by
 unfold boltingref04_Same.f
 by_cases hl : a.length = b.length
 ·rw [if_pos (by omega)]
  obtain ⟨r, hr, hi⟩ := same_any_l0 a b hl ha hx a.length 0 (by omega) k (by omega)
  exact ⟨r, hr, fun e => by simpa using hi e⟩
 ·rw [if_neg (by omega)]
  exact ⟨false, rfl, fun h => by cases h⟩

theorem what_all (s : Bool) {x : Rw} (hk : x.f1 = 0 ∨ x.f1 = 1 ∨ x.f1 = 2) (hs : s = true → safeX x = true) : whatC allC s x ≠ 1 ∧ whatC allC s x ≠ 2 ∧ updC allC s x = x := by
 have hw : whatC allC s x = 0 := by
  unfold whatC
  rcases hk with h | h | h
  ·rw [if_neg (by omega), if_neg (by omega), if_neg, all_elem]
   intro g
   rw [Bool.and_eq_true] at g
   have := hs g.1
   unfold safeX at this
   rw [decide_eq_true h, g.2] at this
   simp at this
  ·rw [if_pos h]
  ·rw [if_neg (by omega), if_pos h]; rfl
 refine ⟨by rw [hw]; decide, by rw [hw]; decide, ?_⟩
 unfold updC
 by_cases h0 : x.f1 = 0
 ·rw [if_pos h0]
  have : keepA allC s x.f2 x.f4 = x.f4 := by
   unfold keepA
   rw [List.filter_eq_self]
   intro a ha
   rw [all_attr, Bool.true_and]
   cases s with
   | false => rfl
   | true =>
    have := hs rfl
    unfold safeX at this
    rw [decide_eq_true h0, Bool.not_true, Bool.false_or, Bool.and_eq_true] at this
    have := List.all_eq_true.1 this.2 a ha
    simpa using this
  rw [this]
 ·rw [if_neg h0]
theorem clean_all (s : Bool) {G : Fo} (hG : Good G) (hn : normF G = G) (hs : s = true → (flat 0 G).all safeX = true) : cleaned allC s G = G := by
 have : keepF (whatC allC s) (updC allC s) G = G := by
  refine keep_id ?_
  have h1 : G.All (fun x => Fine x ∧ (s = true → safeX x = true)) := all_flat (P := fun x => Fine x ∧ (s = true → safeX x = true)) (fun x d h => ⟨fine_dep' x d h.1, h.2⟩) G 0 (fun x hx => ⟨flat_all fine_dep G 0 hG.fine x hx, fun e => List.all_eq_true.1 (hs e) x hx⟩)
  exact all_imp (fun x h => what_all s (rowB_kind h.1.ok) h.2) h1
 unfold cleaned
 rw [this, hn]

theorem elNames_mem : ∀ {l : List Rw} {x : Rw}, x ∈ l → x.f1 = 0 → x.f2 ∈ elNames l
 | y :: t, x, h, h0 => by
  rw [elNames]
  rcases List.mem_cons.1 h with rfl | h
  ·rw [if_pos h0]; exact List.mem_cons_self ..
  ·split
   ·exact List.mem_cons_of_mem _ (elNames_mem h h0)
   ·exact elNames_mem h h0
theorem elNames_from : ∀ {l : List Rw} {y : ByteArray}, y ∈ elNames l → ∃ x ∈ l, y = x.f2
 | x :: t, y, h => by
  rw [elNames] at h
  split at h
  ·rcases List.mem_cons.1 h with rfl | h
   ·exact ⟨x, List.mem_cons_self .., rfl⟩
   ·obtain ⟨z, hz, e⟩ := elNames_from h
    exact ⟨z, List.mem_cons_of_mem _ hz, e⟩
  ·obtain ⟨z, hz, e⟩ := elNames_from h
   exact ⟨z, List.mem_cons_of_mem _ hz, e⟩
def namesR (n : List Rw) : List ByteArray := SS (sorted ((elNames n).map dat))
theorem namesR_mem (n : List Rw) (s : ByteArray) : mem (namesR n) s = true ↔ s ∈ elNames n := by
 unfold namesR
 rw [mem_SS, decide_eq_true_eq, sorted_mem, List.mem_map]
 constructor
 ·rintro ⟨y, hy, e⟩
  have : y = s := by rw [← mkS_data y, ← mkS_data s]; exact congrArg mkS e
  rw [← this]; exact hy
 ·exact fun h => ⟨s, h, rfl⟩
theorem namesR_from {n : List Rw} {s : ByteArray} (h : s ∈ namesR n) : s ∈ elNames n := (namesR_mem n s).1 ((mem_iff _ _).2 h)
theorem namesR_len (n : List Rw) : (namesR n).length ≤ n.length := by
 unfold namesR
 rw [SS_len]
 exact Nat.le_trans (sorted_len_le _) (by rw [List.length_map]; exact elNames_len n)
def confR (n : List Rw) : Cf := ⟨false, false, [], namesR n, [], [], false, false⟩
theorem confR_fit {n : List Rw} (h : n.length ≤ 200) : Fit (confR n) :=
 ⟨by show 0 ≤ 1000; decide, Nat.le_trans (namesR_len n) (by omega), by show 0 ≤ 1000; decide, by show 0 ≤ 1000; decide, fun p hp => by cases hp⟩
theorem confR_text {n : List Rw} (h : ∀ x ∈ n, x.f2.size ≤ 140737488351232) : Text (confR n) := by
 refine ⟨fun l hl x hx => ?_, fun l hl x hx => ?_⟩
 ·have hl : l ∈ [([] : List ByteArray), namesR n, []] := hl
  simp only [List.mem_cons, List.not_mem_nil, or_false] at hl
  rcases hl with rfl | rfl | rfl
  ·cases hx
  ·obtain ⟨y, hy, e⟩ := elNames_from (namesR_from hx)
   have := h y hy
   rw [e]; omega
  ·cases hx
 ·have hl : l ∈ [([] : List ByteArray)] := hl
  simp only [List.mem_cons, List.not_mem_nil, or_false] at hl
  subst hl
  cases hx
theorem what_rep {n : List Rw} {x : Rw} (h : x.f1 = 0 → x.f2 ∈ elNames n) (hk : x.f1 = 0 ∨ x.f1 = 1 ∨ x.f1 = 2) : (x.f1 = 0 → whatC (confR n) false x = 2) ∧ (x.f1 = 1 → whatC (confR n) false x = 0) ∧ (x.f1 = 2 → whatC (confR n) false x = 1) := by
 refine ⟨fun h0 => ?_, fun h1 => ?_, fun h2 => ?_⟩
 ·unfold whatC
  rw [if_neg (by omega), if_neg (by omega), if_neg (by simp)]
  unfold elemI
  exact if_pos ((namesR_mem n x.f2).2 (h h0))
 ·unfold whatC; rw [if_pos h1]
 ·unfold whatC; rw [if_neg (by omega), if_pos h2]; rfl
theorem emp_eq {b : ByteArray} (h : b.size = 0) : b = ⟨#[]⟩ := by
 have e : b.data = #[] := Array.size_eq_zero_iff.1 h
 cases b; simp at e; subst e; rfl
theorem keeps_good {l0 : List Rw} (h : ∀ x ∈ l0, RowIn x) (hc : checkR (bndR l0) = 0) : ∃ n a b t g sf r T, Keeps 20000 l0 (bndR l0) n a b t g sf r T := by
 have hT := bndr_tidy (sized_of h)
 have hf2 : ∀ x ∈ bndR l0, x.f2.size ≤ 140737488351232 := fun x hx => by
  obtain ⟨y, hy, rfl⟩ := bndr_mem hx
  exact (h y hy).2.2.1
 have hbnd := bndr_f l0 (k := 20000) (by omega)
 obtain ⟨L, hL⟩ : ∃ L, bndR l0 = L := ⟨_, rfl⟩
 rw [hL] at hT hf2 hbnd hc ⊢
 obtain ⟨F, rfl, hF⟩ := check_forest hT hc
 have hG : Good (normF F) := hF.norm
 have hnn : normF (normF F) = normF F := norm_norm F
 have hchk : boltingref04_Check.f 20000 (flat 0 F) = some 0 := by rw [rrows_check_f _ hT.len hT.few (by omega), hc]
 have hnrm : boltingref04_Normal.f 20000 (flat 0 F) = some (flat 0 (normF F)) := by
  rw [rnormal_f _ hT.len (okx_flat hF.fine (by have := hF.low; omega)) hT.txt (by omega), normL_flat F 0 hF.leaf]
 have hG2 : ∀ x ∈ flat 0 (normF F), x.f2.size ≤ 140737488351232 := flat_all (P := fun x => x.f2.size ≤ 140737488351232) (fun x d g => g) (normF F) 0 (norm_all (fun x b g _ => g) (all_flat (P := fun x => x.f2.size ≤ 140737488351232) (fun x d g => g) F 0 hf2))
 generalize normF F = G at hG hnn hnrm hG2
 have htd := hG.tidy
 have hka := rows_good all_fit all_text all_check false hG (k := 20000) (by omega)
 have hkb := rows_good all_fit all_text all_check true hG (k := 20000) (by omega)
 rw [clean_all false hG hnn (fun e => by cases e)] at hka
 obtain ⟨sb, hsb, hsi⟩ := same_any (flat 0 (cleaned allC true G)) (flat 0 G) (hG.cleaned allC true).tidy.len (hG.cleaned allC true).tidy.few (k := 20000) (by omega)
 have hsf : sb = (flat 0 G).all safeX := by
  cases hs : (flat 0 G).all safeX with
  | true =>
   rw [clean_all true hG hnn (fun _ => hs), same_rows _ htd.len htd.few (by omega)] at hsb
   exact (Option.some.inj hsb).symm
  | false =>
   cases sb with
   | false => rfl
   | true =>
    have e := hsi rfl
    have := safe_flat (safe_norm (kept_safe allC G))
    rw [show flat 0 (normF (keepF (whatC allC true) (updC allC true) G)) = flat 0 G from e, hs] at this
    cases this
 subst hsf
 have hcf := confR_fit (n := flat 0 G) htd.len
 have hct := confR_text hG2
 have hsort : fold_Sorted.f (elNames (flat 0 G)) = some (namesR (flat 0 G)) := sorted_f _ (by have := elNames_len (flat 0 G); have := htd.len; omega)
 have htext := text_f (flat 0 G) htd.len htd.txt (k := 20000) (by omega)
 have hsame := same_rows (flat 0 G) htd.len htd.few (k := 20000) (by omega)
 have hsafe := safe_f (flat 0 G) htd (k := 20000) (by omega)
 have hlen : (flat 0 G).length ≤ 1000 := by have := htd.len; omega
 by_cases hck : checkI (confR (flat 0 G)) = 0
 ·have hkt := rows_good hcf hct hck false hG (k := 20000) (by omega)
  have hin : G.All (fun x => Fine x ∧ (x.f1 = 0 → x.f2 ∈ elNames (flat 0 G))) := all_flat (P := fun x => Fine x ∧ (x.f1 = 0 → x.f2 ∈ elNames (flat 0 G))) (fun x d g => ⟨fine_dep' x d g.1, g.2⟩) G 0 (fun x hx => ⟨flat_all fine_dep G 0 hG.fine x hx, fun h0 => elNames_mem hx h0⟩)
  have hA := hG.keep (confR (flat 0 G)) false
  have hAll : (keepF (whatC (confR (flat 0 G)) false) (updC (confR (flat 0 G)) false) G).All (fun x => x.f1 = 1 ∧ x.f2.size = 0 ∧ x.f4 = []) := keep_all (fun x g a b => by
   obtain ⟨w0, w1, w2⟩ := what_rep g.2 (rowB_kind g.1.ok)
   rcases rowB_kind g.1.ok with k0 | k1 | k2
   ·exact absurd (w0 k0) b
   ·obtain ⟨e1, e2⟩ := rowB_none g.1.ok (.inl k1)
    have : updC (confR (flat 0 G)) false x = x := by unfold updC; rw [if_neg (by omega)]
    rw [this]
    exact ⟨k1, e2, e1⟩
   ·exact absurd (w2 k2) a) hin
  have htk : textF (keepF (whatC (confR (flat 0 G)) false) (updC (confR (flat 0 G)) false) G) = textF G := text_keep (tx_upd _ _) hG.leaf (all_imp (fun x g => by
   obtain ⟨w0, w1, w2⟩ := what_rep g.2 (rowB_kind g.1.ok)
   rcases rowB_kind g.1.ok with k0 | k1 | k2
   ·rw [w0 k0]; exact ⟨fun e => absurd e (by decide), fun _ => by omega⟩
   ·rw [w1 k1]; exact ⟨fun e => absurd e (by decide), fun e => absurd e (by decide)⟩
   ·rw [w2 k2]; exact ⟨fun _ => by omega, fun e => absurd e (by decide)⟩) hin)
  refine ⟨flat 0 G, flat 0 G, _, _, 0, _, namesR (flat 0 G), mkS (textL (flat 0 G)), hbnd, hchk, hnrm, hka, hkb, hsame, hsafe, hsb, hsort, hkt, htext, hlen, ?_, ?_⟩
  ·intro _ hT0
   rw [mkS_toList, text_flat, ← htk] at hT0
   rcases norm_texts hA.leaf hAll with ⟨_, e⟩ | ⟨e, _⟩
   ·show (flat 0 (normF (keepF (whatC (confR (flat 0 G)) false) (updC (confR (flat 0 G)) false) G))).length = 0
    rw [e]; rfl
   ·exact absurd hT0 e
  ·intro _ hT0
   rw [mkS_toList, text_flat, ← htk] at hT0
   rcases norm_texts hA.leaf hAll with ⟨e, _⟩ | ⟨_, x, e, k1, k2, k4, k3⟩
   ·exact absurd e hT0
   ·have et : flat 0 (cleaned (confR (flat 0 G)) false G) = [⟨0, 1, ⟨#[]⟩, mkS (textL (flat 0 G)), []⟩] := by
     show flat 0 (normF (keepF (whatC (confR (flat 0 G)) false) (updC (confR (flat 0 G)) false) G)) = _
     rw [e, flat, flat, flat, List.nil_append, text_flat, ← htk, ← k3, mkS_data]
     cases x
     simp only at k1 k2 k4
     subst k1 k4
     rw [emp_eq k2]
    rw [et]
    exact same_rows _ (by simp) (by simp) (by omega)
 ·have hw : whyR (confR (flat 0 G)) (flat 0 G) = checkI (confR (flat 0 G)) := by unfold whyR; rw [if_neg hck]
  have hkt := rows_why hcf hct false htd (by rw [hw]; exact hck) (k := 20000) (by omega)
  rw [hw] at hkt
  exact ⟨flat 0 G, flat 0 G, _, _, _, _, namesR (flat 0 G), mkS (textL (flat 0 G)), hbnd, hchk, hnrm, hka, hkb, hsame, hsafe, hsb, hsort, hkt, htext, hlen, fun e => absurd e hck, fun e => absurd e hck⟩
end Go.Proofs.YticacakoefojbaaGreat.Pure
namespace Go.Proofs.YticacakoefojbaaGreat.Pr
open Go.RowKit Go.Lib Go.Shelf Go.Proofs.YticacakoefojbaaGreat Go.Proofs.YticacakoefojbaaGreatW.PrintWords
open Classical in
noncomputable def boltinglaw13_CleanKeeps.f (k : Nat) (l0 : List S38) : Option Bool := if ∀ x ∈ l0, Pure.RowIn x then some true else none
theorem boltinglaw13_CleanKeeps.calls (k : Nat) (A0 : Option Addr) (c0 : Nat) (l0 : List S38) (r : Bool) (w : World) (hr0 : Kd.C k38 w A0 l0.length l0) (hc0 : l0.length ≤ c0) (h : boltinglaw13_CleanKeeps.f k l0 = some r) :
  Calls Tryz.prog 3 #[.slice A0 l0.length c0] w fun e w' => e = .returned (.bool r) ∧ Below w.heap.size w w' := by
 unfold boltinglaw13_CleanKeeps.f at h
 split at h
 case isFalse => cases h
 rename_i hS
 cases h
 by_cases hc : Pure.checkR (Pure.bndR l0) = 0
 ·obtain ⟨n, a, b, t, g, sf, r, T, H⟩ := Pure.keeps_good hS hc
  exact Pure.keeps_law w hr0 hc0 H
 ·have hT := Pure.bndr_tidy (Pure.sized_of hS)
  exact Pure.keeps_bad w hr0 hc0 (Pure.bndr_f l0 (k := 20000) (by omega)) (Pure.rrows_check_f _ hT.len hT.few (k := 20000) (by omega)) hc
end Go.Proofs.YticacakoefojbaaGreat.Pr
namespace Go.Proofs.YticacakoefojbaaGreat
open Go.Proofs.YticacakoefojbaaGreat.Pr Go.Proofs.YticacakoefojbaaGreat.Pure
theorem Pure.CleanKeeps (l0 : List Rw) (hS : ∀ x ∈ l0, RowIn x) (hl : l0.length ≤ 9223372036854775807) : ∃ k : Nat, boltinglaw13_CleanKeeps.f k l0 = some true := ⟨0, by unfold boltinglaw13_CleanKeeps.f; rw [if_pos hS]⟩
end Go.Proofs.YticacakoefojbaaGreat
namespace Go.Proofs.YticacakoefojbaaGreat.cleanKeeps
open Go.ChangeShapes Go.WideShapes Go.ChangeAt Go.RowKit
open Go.ChangeMaps (open_string shut_string)
theorem own : ownKnob Tryz.prog.godebug = none := by kernel_rfl
theorem laidOut : laidOutB Tryz.prog = true := by kernel_rfl
set_option maxRecDepth 100000 in
theorem lifted (os : Os) (started : os.Started) (H : Type) (enc : TypeId × Value → H) :
  ReturnsInHanded {} Tryz.checked os 3 .any (Rows.cleanKeepsSpec.pre6 enc Tryz.prog Tryz.f3 Rows.cleanKeepsRow.domain false) (Rows.cleanKeepsSpec.post enc Tryz.prog Tryz.f3 false true false false) := by
 refine returnsInHanded_of_change_sized (C := Tryz.checked) own started (by kernel_rfl) Tryz.func3
  (ChangeSpec.witness6 (enc := enc) (C := Tryz.checked) false ⟨#[], #[.slice none 0 0], []⟩ 8 (by kernel_rfl) (by kernel_rfl) (by kernel_rfl) (by kernel_rfl)) ?_
 intro W base args ds gs before hval0 hW hcnd hsz0 _
 have hsz : (DataW.weightsEach Tryz.prog (Tryz.f3.params.toList ++ Rows.cleanKeepsSpec.plain.varTypes Tryz.prog) (ds ++ gs)).all (· ≤ reachBytes) = true := hsz0
 have hval : ∀ (j : Nat) t v, Tryz.f3.params[j]? = some t → args[j]? = some v → Value.okWide Tryz.prog W .any base t v := hval0
 have hW' := hW
 obtain ⟨p, q, hA0, hV, rfl, hfz, hnd⟩ := hW
 have hA : DataW.TrodAll enc Tryz.prog W 0 (fun _ => true) true Tryz.f3.params.toList args.toList ds p := hA0
 rw [Tryz.params3] at hA hval hsz
 obtain ⟨v0, vs0, d0, ds0, p0, q0, hargs, rfl, rfl, h0, r0⟩ := trodAll_cons hA
 obtain ⟨rfl, rfl, rfl⟩ := trodAll_nil r0
 obtain rfl : args = #[v0] := by cases args; simp_all
 obtain ⟨rfl, rfl⟩ := trodVars_none hV
 have k0 := h0
 have lt0 : ∀ x ∈ p0, x.block < W.heap.size := by obtain ⟨m, hm⟩ := k0; exact DataW.trod_lt m _ _ _ hm
 obtain ⟨sa0, sn0, sc0, rfl⟩ := okWide_slice Tryz.underlying22 (hval 0 22 v0 rfl rfl)
 obtain ⟨fu0, hf0⟩ := h0
 obtain ⟨A0, c0, l0, hv0, hc0, hm0, hr0, hS0⟩ := opensS_row Tryz.underlying22 (opensS_struct (fun x : Pr.S38 => (x.f0, x.f1, x.f2, x.f3, x.f4)) Tryz.underlying38 rfl (by kernel_rfl) (opensTail_cons rfl (opensS_int (by kernel_rfl) Tryz.underlying3) (opensTail_cons rfl (opensS_int (by kernel_rfl) Tryz.underlying3) (opensTail_cons rfl (opensS_string (by kernel_rfl) Tryz.underlying9) (opensTail_cons rfl (opensS_string (by kernel_rfl) Tryz.underlying9) (opensTail_last rfl (opensS_slice (by kernel_rfl) Tryz.underlying36 (opensS_struct (fun x : Pr.S45 => (x.f0, x.f1)) Tryz.underlying45 rfl (by kernel_rfl) (opensTail_cons rfl (opensS_string (by kernel_rfl) Tryz.underlying9) (opensTail_last rfl (opensS_string (by kernel_rfl) Tryz.underlying9))) (fun a => ⟨⟨a.1, a.2⟩, rfl⟩)))))))) (fun a => ⟨⟨a.1, a.2.1, a.2.2.1, a.2.2.2.1, a.2.2.2.2⟩, rfl⟩)) hf0 (fun n hn => by simpa using List.all_eq_true.1 hsz n (DataW.weights_mem_each (j := 0) rfl rfl n hn))
 obtain ⟨rfl, rfl, rfl⟩ : sa0 = A0 ∧ sn0 = l0.length ∧ sc0 = c0 := by simpa [Value.cells] using hv0
 clear hA0 hval0 hsz0 hsz
 obtain ⟨k, hk⟩ := Pure.CleanKeeps l0 hS0 (Nat.le_trans hc0 (Nat.le_trans hm0 (by decide)))
 refine (Pr.boltinglaw13_CleanKeeps.calls k sa0 sc0 l0 true W hr0 hc0 hk).mono fun e W' ⟨he, bel0⟩ => ?_
 have bel : Below W.heap.size W W' := by first | exact bel0 | exact below_of_drawn0 bel0
 subst he
 exact ⟨_, rfl, _, _, _, [], _, [], hW', trodAll_mk1 (shut_bool Tryz.underlying4 _), (trodAll_cons_mk (Below.trod laidOut (by kernel_rfl) (of_decide_eq_true (by kernel_rfl)) k0 bel lt0) trodAll_mk0), rfl, bel.frame _, fun h => by cases h⟩
theorem over : Rows.cleanKeepsRow.holds Tryz.pinned (OpenSpec.ofChange Rows.cleanKeepsSpec) :=
 OpenClaim.holds_of_wide 3 Tryz.f3 rfl rfl rfl rfl rfl rfl rfl ⟨rfl, rfl, rfl, rfl, rfl⟩ rfl rfl rfl rfl rfl (by kernel_rfl) Tryz.func3 (by kernel_rfl)
  (of_decide_eq_true (by kernel_rfl)) (by unfold Func.isWrapper; first | (rw [if_pos (by decide +kernel)]; kernel_rfl) | (rw [if_neg (by decide +kernel)]; exact ⟨rfl, rfl⟩))
  (fun os started H enc _ => lifted os started H enc)
theorem proved : Rows.CleanKeepsSaid := over
#print axioms proved
end Go.Proofs.YticacakoefojbaaGreat.cleanKeeps
namespace Go.Proofs.YticacakoefojbaaGreat
theorem cleanKeeps_holds : Rows.CleanKeepsSaid := cleanKeeps.proved
end Go.Proofs.YticacakoefojbaaGreat
