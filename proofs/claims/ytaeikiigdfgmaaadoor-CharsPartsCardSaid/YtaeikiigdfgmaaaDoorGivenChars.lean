/- chars' contracts: Decode (a builder in a range over a string), Lines, Right, Count, Sample, at every string (what grows: up to a bound). -/
import Derived.Test.YtaeikiigdfgmaaaDoorCharsLines
import Derived.Test.YtaeikiigdfgmaaaDoorShelf
import Derived.Test.YtaeikiigdfgmaaaDoorWWords
import Derived.WalkKit
import Derived.Below
import Derived.Shelf.Unicode.ValidAny
import Derived.Laws.RangeAny
namespace Go.Proofs.YtaeikiigdfgmaaaDoor
set_option linter.unusedVariables false
set_option linter.unusedSimpArgs false
open Go.RowKit Go.Lib Go.Proofs.YtaeikiigdfgmaaaDoorW.PrintWords

/-- What the library's own variables hold: the two tables of unicode/utf8; some int in internal/bytealg.MaxLen. -/
def G (w : World) : Prop := Lib.Utf8Tabs 0 1 w ∧ ∃ m, w.cell? ⟨2, 0, none⟩ = some (.int .i64 m)
theorem G.go {w w' : World} (h : G w) (hb : Below w.heap.size w w') : G w' := by
  obtain ⟨h1, m, h2⟩ := h
  exact ⟨Utf8Tabs_below h1 hb, m, (hb.cell (p := ⟨2, 0, none⟩) (World.block_lt_of_cell? w _ h2)).trans h2⟩
def mkS (l : List UInt8) : ByteArray := ⟨l.toArray⟩
abbrev dat (s : ByteArray) : List UInt8 := s.data.toList

/-! ### the decoder at a place, as lists have it -/
theorem decode_drop (s : ByteArray) (pos : Nat) (h : pos ≤ s.size) : Utf8.decode s pos = decodeL ((dat s).drop pos) := by
  have hg : ∀ k, (s.get! (pos + k)).toNat = Chars.nb ((dat s).drop pos) k := fun k => by
    unfold Chars.nb
    rw [List.getD_eq_getElem?_getD, List.getElem?_drop]
    show (s.data[pos + k]!).toNat = _
    rw [getElem!_def, Array.getElem?_toList]
    cases s.data[pos + k]? <;> rfl
  have h0 := hg 0
  rw [Nat.add_zero] at h0
  rw [Lib.decode_at, Chars.dec_N, h0, hg 1, hg 2, hg 3, List.length_drop, show (dat s).length = s.size from (Lib.size_eq s).symm]
theorem drop_ne {s : ByteArray} {pos : Nat} (h : pos < s.size) : (dat s).drop pos ≠ [] := fun e => by
  have := congrArg List.length e
  rw [List.length_drop, List.length_nil, show (dat s).length = s.size from (Lib.size_eq s).symm] at this
  omega

def chars_Right.f (a0 : ByteArray) : Option Bool := if a0.size ≤ 9223372036854775807 then some (Chars.right (dat a0)) else none
theorem chars_Right.calls (a0 : ByteArray) (r : Bool) (w : World) (hG : G w) (h : chars_Right.f a0 = some r) :
    Calls Tryd.prog 15 #[.string a0] w fun e w' => e = .returned (.bool r) ∧ Below w.heap.size w w' := by
  unfold chars_Right.f at h
  split at h
  case isFalse => cases h
  rename_i hs
  obtain rfl := Option.some.inj h
  have hc := Any.utf8_ValidString Tryd.lays196 a0 w hs hG.1
  rw [Chars.valid_right] at hc
  have hC : Hid (Calls Tryd.prog 26 #[.string a0] w fun e w' => e = .returned (.bool (Chars.right (dat a0))) ∧ Below w.heap.size w w') := hid hc
  clear hc h hG
  obtain ⟨b, hb⟩ : ∃ b, Chars.right (dat a0) = b := ⟨_, rfl⟩
  rw [hb] at hC ⊢
  clear hb
  go_enter Tryd.func15, Tryd.ntmps15
  go_wp2_with (go_at_call 26; refine hC.out.mono ?_; rintro e w' ⟨rfl, hb⟩)
  go_ret
  exact ⟨rfl, hb⟩
theorem runeCountFrom_list (s : ByteArray) : ∀ (f pos : Nat), s.size ≤ pos + f → runeCountFrom s f pos = Chars.count ((dat s).drop pos) := by
  intro f
  induction f with
  | zero =>
    intro pos h
    rw [List.drop_of_length_le (by rw [show (dat s).length = s.size from (Lib.size_eq s).symm]; omega)]
    rfl
  | succ f ih =>
    intro pos h
    unfold runeCountFrom
    by_cases hp : pos < s.size
    · have hne := drop_ne hp
      have hd := (Chars.dec_head hne).1
      have hst := Chars.step_pos ((dat s).drop pos)
      rw [if_pos hp, decode_drop s pos (by omega), hd, ih _ (by omega)]
      unfold Chars.count
      rw [Chars.chars_cons hne, List.length_cons, List.drop_drop]
      omega
    · rw [if_neg hp, List.drop_of_length_le (by rw [show (dat s).length = s.size from (Lib.size_eq s).symm]; omega)]
      rfl
def chars_Count.f (a0 : ByteArray) : Option Int := if a0.size < 9223372036854775807 then some (Chars.count (dat a0) : Int) else none
theorem below_iter {w : World} (s : ByteArray) (pos : Nat) : Below w.heap.size w (w.iter s pos) := (Below.refl _ w).alloc (Nat.le_refl _) _
theorem chars_Count.calls (a0 : ByteArray) (r : Int) (w : World) (h : chars_Count.f a0 = some r) :
    Calls Tryd.prog 17 #[.string a0] w fun e w' => e = .returned (.int .i64 r) ∧ Below w.heap.size w w' := by
  unfold chars_Count.f at h
  split at h
  case isFalse => cases h
  rename_i hs
  obtain rfl := Option.some.inj h
  have hc := Tryd.utf8_RuneCountInString a0 w hs
  have e : runeCount a0 = Chars.count (dat a0) := by
    have := runeCountFrom_list a0 a0.size 0 (by omega)
    rw [List.drop_zero] at this
    exact this
  rw [e] at hc
  have hC : Hid (Calls Tryd.prog 27 #[.string a0] w fun e w' => e = .returned (.int .i64 (Chars.count (dat a0) : Int)) ∧ Below w.heap.size w w') := hid (hc.mono fun e w' ⟨h1, pos, h2⟩ => ⟨h1, by rw [h2]; exact below_iter _ _⟩)
  clear hc h e
  obtain ⟨b, hb⟩ : ∃ b, (Chars.count (dat a0) : Int) = b := ⟨_, rfl⟩
  rw [hb] at hC ⊢
  clear hb
  go_enter Tryd.func17, Tryd.ntmps17
  go_wp2_with (go_at_call 27; refine hC.out.mono ?_; rintro e w' ⟨rfl, hb⟩)
  go_ret
  exact ⟨rfl, hb⟩

/-! ### Lines -/
def chars_Lines.f (a0 : ByteArray) : Option ByteArray := if a0.size ≤ 1000000000 then some (mkS (Chars.lines (dat a0))) else none
theorem chars_Lines.calls (a0 : ByteArray) (r : ByteArray) (w : World) (hG : G w) (h : chars_Lines.f a0 = some r) :
    Calls Tryd.prog 18 #[.string a0] w fun e w' => e = .returned (.string r) ∧ Below w.heap.size w w' := by
  unfold chars_Lines.f at h
  split at h
  case isFalse => cases h
  rename_i hs
  obtain rfl := Option.some.inj h
  clear h
  obtain ⟨m, hm⟩ := hG.2
  have hcb : ∀ (s sep : ByteArray), 1 ≤ sep.size → countB s sep ≤ s.size := fun s sep h1 => Lib.countB_le sep h1 s.size s (Nat.le_refl _)
  have c1 : Hid (Calls Tryd.prog 28 #[.string a0, .string ⟨#[13, 10]⟩, .string ⟨#[10]⟩] w fun e w' => e = .returned (.string (mkS (replaceAll (dat a0) Chars.crlf Chars.lf))) ∧ Below w.heap.size w w') :=
    hid (Tryd.strings_ReplaceAll a0 ⟨#[13, 10]⟩ ⟨#[10]⟩ m w (by omega) hm (by decide) (by have := hcb a0 ⟨#[13, 10]⟩ (by decide); have e : (⟨#[10]⟩ : ByteArray).size = 1 := rfl; rw [e]; omega))
  have hl : (replaceAll (dat a0) Chars.crlf Chars.lf).length ≤ a0.size := by
    have := Chars.rep_len (dat a0) (dat a0).length (Nat.le_refl _)
    rwa [show (dat a0).length = a0.size from (Lib.size_eq a0).symm] at this
  obtain ⟨l1, hl1⟩ : ∃ l, replaceAll (dat a0) Chars.crlf Chars.lf = l := ⟨_, rfl⟩
  have c2 : Hid (∀ w1, Below w.heap.size w w1 → Calls Tryd.prog 28 #[.string (mkS l1), .string ⟨#[13]⟩, .string ⟨#[10]⟩] w1 fun e w' => e = .returned (.string (mkS (Chars.lines (dat a0)))) ∧ Below w1.heap.size w1 w') :=
    hid (fun w1 hb => by
      have hm1 := (hb.cell (p := ⟨2, 0, none⟩) (World.block_lt_of_cell? w _ hm)).trans hm
      have hsz : (mkS l1).size = l1.length := by rw [Lib.size_eq]; rfl
      rw [hl1] at hl
      have := Tryd.strings_ReplaceAll (mkS l1) ⟨#[13]⟩ ⟨#[10]⟩ m w1 (by omega) hm1 (by decide) (by have := hcb (mkS l1) ⟨#[13]⟩ (by decide); have e : (⟨#[10]⟩ : ByteArray).size = 1 := rfl; rw [e]; omega)
      rw [show replaceAll (mkS l1).data.toList (⟨#[13]⟩ : ByteArray).data.toList (⟨#[10]⟩ : ByteArray).data.toList = Chars.lines (dat a0) from by rw [← Chars.lines_rep, hl1]; rfl] at this
      exact this)
  rw [hl1] at c1
  obtain ⟨r, hr⟩ : ∃ r, mkS (Chars.lines (dat a0)) = r := ⟨_, rfl⟩
  obtain ⟨s1, hs1⟩ : ∃ s, mkS l1 = s := ⟨_, rfl⟩
  rw [hr] at c2 ⊢
  rw [hs1] at c1 c2
  clear hG hm hl hl1 hr hs1 hcb
  go_enter Tryd.func18, Tryd.ntmps18
  go_wp2_with fail
  go_wp2_with (first | (go_at_call 28; (with_reducible refine c1.out.mono ?_); rintro e w1 ⟨rfl, hb1⟩; have HB1 := hid hb1; clear hb1) | (go_at_call 28; (with_reducible refine (c2.out _ HB1.out).mono ?_); rintro e w2 ⟨rfl, hb2⟩))
  go_ret
  exact ⟨rfl, HB1.out.trans (hb2.mono HB1.out.size)⟩

/-! ### Decode -/
def chars_Decode.f (a0 : ByteArray) : Option ByteArray := if a0.size ≤ 1000000000 then some (mkS (Chars.decode (dat a0))) else none
set_option maxHeartbeats 6400000 in
set_option maxRecDepth 1000000 in
theorem chars_Decode.calls (a0 : ByteArray) (r : ByteArray) (w : World) (h : chars_Decode.f a0 = some r) :
    Calls Tryd.prog 13 #[.string a0] w fun e w' => e = .returned (.string r) ∧ Below w.heap.size w w' := by
  unfold chars_Decode.f at h
  split at h
  case isFalse => cases h
  rename_i hs
  obtain rfl := Option.some.inj h
  clear h
  go_enter Tryd.func13, Tryd.ntmps13
  go_wp2
  go_loopw [] (fun wr => ∃ (pos : Nat) (acc : List UInt8), Lib.IsBuilderF 35 5 w.heap.size w.heap.size (Lib.byteCells acc) wr ∧ wr.heap[w.heap.size + 1]? = some (.stringIter a0 pos) ∧ Below w.heap.size w wr ∧ Hid (acc ++ Chars.decode ((dat a0).drop pos) = Chars.decode (dat a0)) ∧ pos ≤ a0.size ∧ acc.length ≤ 4 * pos) (fun wr => a0.size - wr.iterPos (w.heap.size + 1))
  case atStart =>
    refine ⟨0, [], (Lib.IsBuilderF.of (Lib.fresh_isBuilder 35 5 w)).alloc _, ?_, ((Below.refl _ w).alloc (Nat.le_refl _) _).alloc (by simp) _, hid (by rw [List.drop_zero]; rfl), by omega, by simp⟩
    have := World.iter_heap (w.alloc (.cells #[.pointer none, .slice none 0 0] 35)) a0 0
    simpa using this
  case round =>
    obtain ⟨pos, acc, hI, hit, hbw, hacc, hpl, hal⟩ := hrel
    have hsz : w.heap.size + 1 < wr.heap.size := (Array.getElem?_eq_some_iff.1 hit).1
    by_cases hp : pos < a0.size
    · have hnx : ∀ ty, (Instr.next (.pointer (some ⟨w.heap.size + 1, 0, none⟩)) true ty).run Tryd.prog wr = _ := fun ty => Lib.run_next_any_at wr (w.heap.size + 1) a0 pos ty hit hp
      have hwd := decode_width_pos a0 pos hp
      have hd1 := decode_le a0 pos
      have hI2 := hI.iterAt hit (pos + (Utf8.decode a0 pos).2)
      have hit2 := Lib.iterAt_heap wr (w.heap.size + 1) a0 pos (pos + (Utf8.decode a0 pos).2) hit
      have hbw2 := Lib.below_iterAt hbw (k := w.heap.size + 1) (by omega) a0 (pos + (Utf8.decode a0 pos).2)
      have hsz2 : w.heap.size ≤ (wr.iterAt (w.heap.size + 1) a0 (pos + (Utf8.decode a0 pos).2)).heap.size := by rw [Lib.iterAt_size]; omega
      have hne := drop_ne hp
      have hdec := decode_drop a0 pos (by omega)
      obtain ⟨q1, q2, _⟩ := Chars.dec_head hne
      rw [← hdec] at q1 q2
      have hst := Chars.step_le hne
      have hst1 := Chars.step_pos ((dat a0).drop pos)
      rw [List.length_drop, show (dat a0).length = a0.size from (Lib.size_eq a0).symm] at hst
      have hstep := hid (show (acc ++ encodeRune ((if (Utf8.decode a0 pos).1 = 0 then 65533 else (Utf8.decode a0 pos).1 : Nat) : Int)) ++ Chars.decode ((dat a0).drop (pos + (Utf8.decode a0 pos).2)) = Chars.decode (dat a0) by
        rw [← hacc.out, Chars.decode_cons hne, q2, List.append_assoc, List.drop_drop, q1])
      have hlen : pos + (Utf8.decode a0 pos).2 ≤ a0.size := by rw [q1]; omega
      clear q1 q2 hne hdec hst hst1 hacc
      by_cases hz : (Utf8.decode a0 pos).1 = 0
      · have hst2 := hid (show (acc ++ encodeRune 65533) ++ Chars.decode ((dat a0).drop (pos + (Utf8.decode a0 pos).2)) = Chars.decode (dat a0) by have := hstep.out; rw [if_pos hz] at this; exact this)
        clear hstep
        go_wp2_with (go_at_call 24; refine (Tryd.Builder_WriteRune_k w.heap.size w.heap.size _ _ (by omega) (by omega) _ hI2 (by rw [Lib.byteCells_length]; omega) hsz2).mono ?_)
        rintro e W1 ⟨rfl, h1, b1, k1⟩
        go_wp2
        go_roundw
        case rel =>
          refine ⟨pos + (Utf8.decode a0 pos).2, acc ++ Lib.encodeRune 65533, ?_, k1.iter hit2 (by omega), hbw2.trans b1, hst2, hlen, by have : (encodeRune 65533).length = 3 := rfl; rw [List.length_append, this]; omega⟩
          rw [Lib.byteCells_append, Lib.byteCells_encodeRune]; exact Or.inr h1
        case measure =>
          simp only [World.iterPos, k1.iter hit2 (by omega), hit]
          omega
      · have hst2 := hid (show (acc ++ encodeRune ((Utf8.decode a0 pos).1 : Int)) ++ Chars.decode ((dat a0).drop (pos + (Utf8.decode a0 pos).2)) = Chars.decode (dat a0) by have := hstep.out; rw [if_neg hz] at this; exact this)
        clear hstep
        go_wp2_with (go_at_call 24; refine (Tryd.Builder_WriteRune_k w.heap.size w.heap.size _ _ (by omega) (by omega) _ hI2 (by rw [Lib.byteCells_length]; omega) hsz2).mono ?_)
        rintro e W1 ⟨rfl, h1, b1, k1⟩
        go_wp2
        go_roundw
        case rel =>
          have hl4 := Lib.runeCells_le ((Utf8.decode a0 pos).1 : Int)
          rw [Lib.runeCells_length] at hl4
          refine ⟨pos + (Utf8.decode a0 pos).2, acc ++ Lib.encodeRune (Utf8.decode a0 pos).1, ?_, k1.iter hit2 (by omega), hbw2.trans b1, hst2, hlen, by rw [List.length_append]; omega⟩
          rw [Lib.byteCells_append, Lib.byteCells_encodeRune]; exact Or.inr h1
        case measure =>
          simp only [World.iterPos, k1.iter hit2 (by omega), hit]
          omega
    · have hnx : ∀ ty, (Instr.next (.pointer (some ⟨w.heap.size + 1, 0, none⟩)) true ty).run Tryd.prog wr = _ := fun ty => Lib.run_next_end_at wr (w.heap.size + 1) a0 pos ty hit hp
      go_wp2_with (go_at_call 25; refine (Tryd.Builder_String_any_k w.heap.size w.heap.size acc _ hI (by omega)).mono ?_)
      rintro e W1 ⟨rfl, _, b1, _⟩
      go_wp2
      go_ret
      have e := hacc.out
      rw [List.drop_of_length_le (by rw [show (dat a0).length = a0.size from (Lib.size_eq a0).symm]; omega), Chars.decode_nil, List.append_nil] at e
      rw [e]
      exact ⟨rfl, hbw.trans b1⟩

/-! ### Sample -/
def chars_Sample.f (a0 : ByteArray) (a1 : Int) : Option ByteArray := if a0.size ≤ 140737488355328 then some (mkS (Chars.sample (dat a0) a1.toNat)) else none
/-- So many characters stand ahead of a place. -/
def At (l : List UInt8) (k pos : Nat) : Prop := (Chars.chars l).drop k = Chars.chars (l.drop pos) ∧ ((Chars.chars l).take k).flatten = l.take pos ∧ k ≤ (Chars.chars l).length
theorem At.start (l : List UInt8) : At l 0 0 := ⟨rfl, rfl, Nat.zero_le _⟩
theorem At.cnt {l : List UInt8} {k pos : Nat} (h : At l k pos) : k ≤ Chars.count l := h.2.2
theorem At.next {l : List UInt8} {k pos : Nat} (h : At l k pos) (hne : l.drop pos ≠ []) : At l (k + 1) (pos + Chars.step (l.drop pos)) := by
  obtain ⟨h1, h2, _⟩ := h
  have hc := Chars.chars_cons hne
  rw [hc] at h1
  have hk : (Chars.chars l)[k]? = some ((l.drop pos).take (Chars.step (l.drop pos))) := by
    have := congrArg (fun m => m[0]?) h1
    simpa [List.getElem?_drop] using this
  refine ⟨?_, ?_, (List.getElem?_eq_some_iff.1 hk).1⟩
  · rw [← List.drop_drop, h1, List.drop_one, List.tail_cons, List.drop_drop]
  · rw [List.take_add_one, hk, List.flatten_append, h2]
    simp only [Option.toList_some, List.flatten_cons, List.flatten_nil, List.append_nil]
    rw [List.take_add]
theorem At.told {l : List UInt8} {k pos n : Nat} (h : At l k pos) (hk : k = n) : Chars.sample l n = l.take pos := by subst hk; exact h.2.1
theorem At.all {l : List UInt8} {k pos n : Nat} (h : At l k pos) (hp : l.length ≤ pos) (hk : k ≤ n) : Chars.sample l n = l := by
  refine Chars.sample_all ?_
  have := congrArg List.length h.1
  rw [List.drop_of_length_le hp, List.length_drop] at this
  unfold Chars.count
  simp [Chars.chars_nil] at this
  omega
theorem extract_take (s : ByteArray) (n : Nat) : s.extract 0 n = mkS ((dat s).take n) := by
  rw [← Lib.mk_data (s.extract 0 n), Lib.extract_data]
  simp [mkS]
set_option maxHeartbeats 6400000 in
set_option maxRecDepth 1000000 in
theorem chars_Sample.calls (a0 : ByteArray) (a1 : Int) (r : ByteArray) (w : World) (h : chars_Sample.f a0 a1 = some r) :
    Calls Tryd.prog 22 #[.string a0, .int .i64 a1] w fun e w' => e = .returned (.string r) ∧ Below w.heap.size w w' := by
  unfold chars_Sample.f at h
  split at h
  case isFalse => cases h
  rename_i hs
  obtain rfl := Option.some.inj h
  clear h
  go_enter Tryd.func22, Tryd.ntmps22
  go_wp2
  go_loopw [5] (fun kv wr => ∃ (k pos : Nat), kv = .int .i64 k ∧ wr.heap[w.heap.size]? = some (.stringIter a0 pos) ∧ Below w.heap.size w wr ∧ Hid (At (dat a0) k pos) ∧ pos ≤ a0.size ∧ k ≤ pos ∧ k ≤ a1.toNat) (fun _ wr => a0.size - wr.iterPos w.heap.size)
  case atStart =>
    refine ⟨0, 0, rfl, ?_, (Below.refl _ w).alloc (Nat.le_refl _) _, hid (At.start _), by omega, by omega, by omega⟩
    have := World.iter_heap w a0 0
    simpa using this
  case round =>
    obtain ⟨k, pos, rfl, hit, hbw, hat, hpl, hkp, hkn⟩ := hrel
    have hsz : w.heap.size < wr.heap.size := (Array.getElem?_eq_some_iff.1 hit).1
    by_cases hp : pos < a0.size
    · have hnx : ∀ ty, (Instr.next (.pointer (some ⟨w.heap.size, 0, none⟩)) true ty).run Tryd.prog wr = _ := fun ty => Lib.run_next_any_at wr w.heap.size a0 pos ty hit hp
      have hwd := decode_width_pos a0 pos hp
      have hit2 := Lib.iterAt_heap wr w.heap.size a0 pos (pos + (Utf8.decode a0 pos).2) hit
      have hbw2 := Lib.below_iterAt hbw (k := w.heap.size) (by omega) a0 (pos + (Utf8.decode a0 pos).2)
      have hne := drop_ne hp
      have q1 := (Chars.dec_head hne).1
      rw [← decode_drop a0 pos (by omega)] at q1
      have hst := Chars.step_le hne
      rw [List.length_drop, show (dat a0).length = a0.size from (Lib.size_eq a0).symm] at hst
      have hnext := hid (show At (dat a0) (k + 1) (pos + (Utf8.decode a0 pos).2) by rw [q1]; exact hat.out.next hne)
      have hlen : pos + (Utf8.decode a0 pos).2 ≤ a0.size := by rw [q1]; omega
      clear q1 hne hst
      by_cases hk : (k : Int) < a1
      · have hk2 : decide (a1 ≤ (k : Int)) = false := decide_eq_false (by omega)
        go_wp2
        go_roundw
        case rel => exact ⟨k + 1, pos + (Utf8.decode a0 pos).2, by go_num, hit2, hbw2, hnext, hlen, by omega, by omega⟩
        case measure =>
          simp only [World.iterPos, hit2, hit]
          omega
      · have hk2 : decide (a1 ≤ (k : Int)) = true := decide_eq_true (by omega)
        have htold := hid (hat.out.told (n := a1.toNat) (by omega))
        go_wp2
        go_ret
        refine ⟨?_, hbw2⟩
        rw [htold.out, ← extract_take]
        rfl
    · have hnx : ∀ ty, (Instr.next (.pointer (some ⟨w.heap.size, 0, none⟩)) true ty).run Tryd.prog wr = _ := fun ty => Lib.run_next_end_at wr w.heap.size a0 pos ty hit hp
      by_cases hn : a1 < 1
      · go_wp2
        go_ret
        refine ⟨?_, hbw⟩
        rw [show a1.toNat = 0 by omega]
        rfl
      · have hall := hid (hat.out.all (n := a1.toNat) (by rw [show (dat a0).length = a0.size from (Lib.size_eq a0).symm]; omega) (by omega))
        have hn2 : decide (a1 < 1) = false := decide_eq_false hn
        go_wp2
        go_ret
        refine ⟨?_, hbw⟩
        rw [hall.out, show mkS (dat a0) = a0 from Lib.mk_data a0]
        rfl
end Go.Proofs.YtaeikiigdfgmaaaDoor
