/- Plain lemmas for the printed functions: numbers, bytes, lists of texts, rounds. -/
import Derived.Test.YtmbmjaiggefjmaaBase
import Derived.Test.YtmbmjaiggefjmaaWWords
import Derived.Test.YtmbmjaiggefjmaaWMore
namespace Go.Proofs.Ytmbmjaiggefjmaa
set_option linter.unusedVariables false
set_option linter.unusedSimpArgs false
open Go.RowKit Go.Proofs.YtmbmjaiggefjmaaW.PrintWords Go.Proofs.YtmbmjaiggefjmaaW.PrintMore

theorem wrap_succ {i : Int} (h0 : -1 ≤ i) (h : i < 9000000000000000000) : wrap64 (i + 1) = i + 1 := by unfold wrap64; omega
theorem wrap_id {i : Int} (h0 : -9000000000000000000 ≤ i) (h : i < 9000000000000000000) : wrap64 i = i := by unfold wrap64; omega
theorem bt_c {s : ByteArray} {k : Nat} {c : UInt8} (h : s.data.toList[k]? = some c) : bt s (k : Int) = (c.toNat : Int) := by
  have hl : k < s.data.toList.length := (List.getElem?_eq_some_iff.1 h).1
  have hl' : k < s.size := by simpa using hl
  have := byte_at s k hl'
  rw [h] at this
  unfold bt
  rw [dif_pos (by simpa using hl')]
  simp only [Int.toNat_natCast]
  rw [← Option.some.inj this]
theorem at_some (s : ByteArray) {k : Nat} (h : k < s.size) : ∃ c, s.data.toList[k]? = some c := ⟨_, byte_at s k h⟩
theorem at_lt {s : ByteArray} {k : Nat} {c : UInt8} (h : s.data.toList[k]? = some c) : k < s.size := by
  have hl : k < s.data.toList.length := (List.getElem?_eq_some_iff.1 h).1
  simpa using hl
theorem mkS_data (s : ByteArray) : mkS s.data.toList = s := Lib.mk_data s
theorem mkS_list (l : List UInt8) : (mkS l).data.toList = l := rfl
theorem mkS_toList (l : List UInt8) : (mkS l).toList = l := by rw [Lib.toList_data]; rfl
theorem mkS_size (l : List UInt8) : (mkS l).size = l.length := by rw [Lib.size_eq]; rfl
theorem mkS_inj {a b : List UInt8} (h : mkS a = mkS b) : a = b := by
  have := congrArg (fun s : ByteArray => s.data.toList) h
  exact this
theorem data_app (a b : ByteArray) : (a ++ b).data.toList = a.data.toList ++ b.data.toList := by simp
theorem mkS_app (a b : List UInt8) : mkS a ++ mkS b = mkS (a ++ b) := by
  rw [← mkS_data (mkS a ++ mkS b), data_app]; rfl
theorem extract_one {s : ByteArray} {i : Nat} {c : UInt8} (h : s.data.toList[i]? = some c) : s.extract i (i + 1) = mkS [c] := by
  rw [Lib.extract_eq]
  have : (s.data.toList.drop i).take (i + 1 - i) = [c] := by rw [drop_one h, show i + 1 - i = 1 by omega]; rfl
  rw [this]; rfl
theorem extract_mid (s : ByteArray) (a b : Nat) : s.extract a b = mkS ((s.data.toList.drop a).take (b - a)) := Lib.extract_eq s a b
theorem take_snoc {l : List UInt8} {i : Nat} {c : UInt8} (h : l[i]? = some c) : l.take (i + 1) = l.take i ++ [c] := by
  rw [List.take_add_one, h]; rfl
theorem takeS (a : ByteArray) (n : Int) (h0 : 0 ≤ n) : 0 ≤ mn (a.size : Int) n ∧ mn (a.size : Int) n ≤ (a.size : Int) ∧ ((a.extract 0 (mn (a.size : Int) n).toNat).size : Int) ≤ n := by
  have h : mn (a.size : Int) n ≤ n ∧ 0 ≤ mn (a.size : Int) n ∧ mn (a.size : Int) n ≤ (a.size : Int) := by
    unfold mn
    split <;> omega
  refine ⟨h.2.1, h.2.2, ?_⟩
  rw [ByteArray.size_extract]
  omega

/-! ### lists of texts -/
/-- A list of texts, as the printed functions hold it. -/
def SS (l : List (List UInt8)) : List ByteArray := l.map mkS
theorem SS_len (l : List (List UInt8)) : (SS l).length = l.length := List.length_map _
theorem SS_at {l : List (List UInt8)} {i : Nat} {x : List UInt8} (h : l[i]? = some x) : rdOf ByteArray.empty (SS l) (i : Int) = mkS x := by
  unfold rdOf SS
  rw [Int.toNat_natCast, List.getD_eq_getElem?_getD, List.getElem?_map, h]
  rfl
theorem SS_zero (x : List UInt8) (t : List (List UInt8)) : rdOf ByteArray.empty (SS (x :: t)) 0 = mkS x := SS_at (i := 0) rfl
theorem SS_snoc (l : List (List UInt8)) (x : List UInt8) : SS l ++ [mkS x] = SS (l ++ [x]) := by simp [SS]
theorem SS_drop (l : List (List UInt8)) (n : Nat) : (SS l).drop n = SS (l.drop n) := by simp [SS, List.map_drop]
theorem SS_data (l : List ByteArray) : SS (l.map fun s => s.data.toList) = l := by
  unfold SS
  rw [List.map_map]
  conv => rhs; rw [← List.map_id l]
  exact List.map_congr_left fun s _ => mkS_data s
theorem drop_at {α : Type} {l : List α} {i : Nat} {x : α} (h : l[i]? = some x) : l.drop i = x :: l.drop (i + 1) := by
  rw [List.drop_eq_getElem?_toList_append, h]
  simp
theorem take_at {α : Type} {l : List α} {i : Nat} {x : α} (h : l[i]? = some x) : l.take (i + 1) = l.take i ++ [x] := by
  rw [List.take_add_one, h]; rfl
theorem get_some {α : Type} {l : List α} {i : Nat} (h : i < l.length) : ∃ x, l[i]? = some x := ⟨_, List.getElem?_eq_getElem h⟩
/-- More rounds tell the same. -/
theorem more {α : Type} {f : Nat → Option α} (hm : ∀ k, LeO (f k) (f (k + 1))) {m k : Nat} (hk : m ≤ k) {r : α} (h : f m = some r) : f k = some r := by
  induction hk with
  | refl => exact h
  | step _ ih => exact hm _ _ ih
end Go.Proofs.Ytmbmjaiggefjmaa
