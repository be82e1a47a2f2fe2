/- A []byte of the call's own that a string was turned into; fold.Lower's and the reference's Lower's contracts. -/
import Derived.Test.YthnakndpdfgapaaBase
import Derived.Lib.ConvBytes
import Derived.Laws.BytesArg
import Derived.Deep.QuietTactic
namespace Go.Proofs.Ythnakndpdfgapaa
set_option linter.unusedVariables false
set_option linter.unusedSimpArgs false
open Go.RowKit

def Buf (w : World) (g : Nat) (l : List UInt8) : Prop := ∀ j c, l[j]? = some c → w.cell? ⟨g, j, none⟩ = some (.int .u8 c.toNat) ∧ w.frozen? ⟨g, j, none⟩ = false
theorem Buf.of_conv {P : Program} (w : World) (src dst e : TypeId) (s : ByteArray) {u : TypeDesc} (hs : P.underlying src = some u) (hd : P.underlying dst = some (.slice e)) (he : P.underlying e = some (.int .u8)) :
    ∃ (W : World) (cap : Nat), (convert src dst (.string s)).run P w = .ok (.slice (some ⟨w.heap.size, 0, none⟩) s.size cap) W ∧ Buf W w.heap.size s.data.toList ∧ Below w.heap.size w W := by
  refine ⟨_, _, Lib.run_convert_string_bytes w src dst e s hs hd he, fun j c hj => ?_, ⟨rfl, rfl, rfl, by rw [Lib.bytesWorld_size]; omega, fun k hk => Lib.bytesWorld_at_old w e s k hk⟩⟩
  have hl : j < s.data.toList.length := (List.getElem?_eq_some_iff.1 hj).1
  have hl' : j < s.size := by simpa using hl
  refine ⟨by rw [Lib.bytesWorld_cell w e s j hl']; simp [List.getD, hj], ?_⟩
  have hsz : s.size ≤ (Lib.bytesCells w e s).size := by unfold Lib.bytesCells; rw [Array.size_append, Array.size_map]; exact Nat.le_add_right _ _
  unfold World.frozen?
  rw [Lib.bytesWorld_at_new]
  simp
  omega
theorem Buf.set_ {w : World} {g : Nat} {l : List UInt8} (h : Buf w g l) (i : Nat) (c : UInt8) : Buf (w.setCell ⟨g, i, none⟩ (.int .u8 c.toNat)) g (l.set i c) := by
  intro j d hj
  rw [World.frozen?_setCell]
  rw [List.getElem?_set] at hj
  split at hj
  · rename_i he
    subst he
    split at hj
    · cases hj
      rename_i hl
      obtain ⟨h1, h2⟩ := h i _ (List.getElem?_eq_getElem hl)
      exact ⟨World.cell?_setCell_same _ _ _ (by rw [h1]), h2⟩
    · cases hj
  · rename_i he
    obtain ⟨h1, h2⟩ := h j d hj
    exact ⟨(World.cell?_setCell_other w _ _ _ (by intro e; injection e with _ e; exact he e)).trans h1, h2⟩
theorem Buf.string {P : Program} {w : World} {g : Nat} {l : List UInt8} (h : Buf w g l) (src e dst : TypeId) (n cap : Nat) (hn : l.length = n) (hs : P.underlying src = some (.slice e)) (he : P.underlying e = some (.int .u8)) (hd : P.underlying dst = some .string) :
    (convert src dst (.slice (some ⟨g, 0, none⟩) n cap)).run P w = .ok (.string ⟨l.toArray⟩) w := by
  have := run_convert_bytes_arg (P := P) w src e hs he g 0 n cap (l.map fun c => (c.toNat : Int)) (by simp [hn]) (fun i hi => by
    have := (h i _ (List.getElem?_eq_getElem (show i < l.length by omega))).1
    rw [Nat.zero_add, this]
    simp [List.getD, List.getElem?_eq_getElem (show i < l.length by omega)]) dst hd
  rw [this]
  congr 2
  simp [strOfNums, List.map_map, Function.comp_def]

def low (c : UInt8) : UInt8 := if 65 ≤ c.toNat ∧ c.toNat ≤ 90 then c + 32 else c
theorem low_hi {c : UInt8} (h0 : 65 ≤ c.toNat) (h1 : c.toNat ≤ 90) : (low c).toNat = c.toNat + 32 := by
  unfold low
  rw [if_pos ⟨h0, h1⟩, UInt8.toNat_add]
  show (c.toNat + 32) % 256 = _
  omega
theorem low_id {c : UInt8} (h : ¬ (65 ≤ c.toNat ∧ c.toNat ≤ 90)) : low c = c := by unfold low; rw [if_neg h]
def lower (l : List UInt8) : List UInt8 := l.map low
/-- What stands after k rounds. -/
def cur (l : List UInt8) (k : Nat) : List UInt8 := lower (l.take k) ++ l.drop k
theorem cur_len (l : List UInt8) (k : Nat) : (cur l k).length = l.length := by simp [cur, lower]; omega
theorem cur_at (l : List UInt8) (k : Nat) (h : k < l.length) : (cur l k)[k]? = l[k]? := by
  unfold cur lower
  rw [List.getElem?_append_right (by simp; omega)]
  simp [Nat.min_eq_left (Nat.le_of_lt h)]
theorem cur_step {l : List UInt8} {k : Nat} {c : UInt8} (h : l[k]? = some c) : (cur l k).set k (low c) = cur l (k + 1) := by
  have hl : k < l.length := (List.getElem?_eq_some_iff.1 h).1
  have hd : l.drop k = c :: l.drop (k + 1) := by rw [List.drop_eq_getElem?_toList_append, h]; simp
  unfold cur lower
  rw [hd, List.set_append_right _ _ (by simp; omega), take_succ' h]
  simp [Nat.min_eq_left (Nat.le_of_lt hl)]
theorem cur_same {l : List UInt8} {k : Nat} {c : UInt8} (h : l[k]? = some c) (hc : low c = c) : cur l k = cur l (k + 1) := by
  have hl : k < l.length := (List.getElem?_eq_some_iff.1 h).1
  rw [← cur_step h, hc]
  apply List.ext_getElem?
  intro i
  rw [List.getElem?_set]
  split
  · rename_i he
    subst he
    rw [if_pos (by rw [cur_len]; exact hl), cur_at l k hl, h]
  · rfl
theorem cur_end (l : List UInt8) : cur l l.length = lower l := by simp [cur]

set_option maxHeartbeats 4000000 in
set_option maxRecDepth 100000 in
theorem lower_calls (s : ByteArray) (w : World) (hs : s.size ≤ 140737488351232) :
    Calls Try.prog 25 #[.string s] w fun e w' => e = .returned (.string ⟨(lower s.data.toList).toArray⟩) ∧ Below w.heap.size w w' := by
  obtain ⟨W, cap, hcv, hbuf, hbel⟩ := Buf.of_conv (P := Try.prog) w 9 28 5 s Try.underlying9 Try.underlying28 Try.underlying5
  go_enter Try.func25, Try.ntmps25
  go_wp2_with fail
  go_loopw [10] (fun f wr => ∃ k : Nat, Buf wr w.heap.size (cur s.data.toList k) ∧ Below w.heap.size w wr ∧ k ≤ s.size ∧ f = .int .i64 k) (fun f _ => s.size - (intOf f).toNat)
  case atStart => exact ⟨0, by simpa [cur, lower] using hbuf, hbel, Nat.zero_le _, rfl⟩
  case round =>
    obtain ⟨k, hb, hbw, hks, rfl⟩ := hrel
    clear hcv hbuf
    by_cases hlt : k < s.size
    · have hc := byte_at s k hlt
      obtain ⟨c, hcc⟩ : ∃ c, s[k] = c := ⟨_, rfl⟩
      rw [hcc] at hc
      clear hcc
      obtain ⟨hcell, hfr⟩ := hb k c (by rw [cur_at _ _ (by simpa using hlt)]; exact hc)
      have hc' := hid hc
      clear hc
      by_cases hup : 65 ≤ c.toNat ∧ c.toNat ≤ 90
      · obtain ⟨u0, u1⟩ := hup
        have hlow := hid (low_hi u0 u1)
        go_wp2_with fail
        go_roundw
        case rel => exact ⟨k + 1, by rw [← cur_step hc'.out]; have := hb.set_ k (low c); rwa [show ((low c).toNat : Int) = (c.toNat : Int) + 97 - 65 from by have := hlow.out; omega] at this, hbw.setCell (p := ⟨w.heap.size, k, none⟩) (Nat.le_refl _) _, hlt, by go_num⟩
        case measure => simp [intOf]; omega
      · have hsame := hid (cur_same hc'.out (low_id hup))
        rcases (by omega : c.toNat < 65 ∨ (65 ≤ c.toNat ∧ 90 < c.toNat)) with u0 | ⟨u0, u1⟩
        all_goals
          clear hup
          go_wp2_with fail
          go_roundw
          case rel => exact ⟨k + 1, by rw [← hsame.out]; exact hb, hbw, hlt, by go_num⟩
          case measure => simp [intOf]; omega
    · have hcv2 := hb.string (P := Try.prog) 28 5 9 s.size cap (by rw [cur_len]; rfl) Try.underlying28 Try.underlying5 Try.underlying9
      go_wp2_with fail
      go_ret
      obtain rfl : k = s.size := by omega
      exact ⟨ret_str (cur_end _), hbw⟩

set_option maxHeartbeats 4000000 in
set_option maxRecDepth 100000 in
theorem ref_lower_calls (s : ByteArray) (w : World) (hs : s.size ≤ 140737488351232) :
    Calls Try.prog 27 #[.string s] w fun e w' => e = .returned (.string ⟨(lower s.data.toList).toArray⟩) ∧ Below w.heap.size w w' := by
  obtain ⟨W, cap, hcv, hbuf, hbel⟩ := Buf.of_conv (P := Try.prog) w 9 28 5 s Try.underlying9 Try.underlying28 Try.underlying5
  go_enter Try.func27, Try.ntmps27
  go_wp2_with fail
  go_loopw [4] (fun f wr => ∃ k : Nat, Buf wr w.heap.size (cur s.data.toList k) ∧ Below w.heap.size w wr ∧ k ≤ s.size ∧ f = .int .i64 k) (fun f _ => s.size - (intOf f).toNat)
  case atStart => exact ⟨0, by simpa [cur, lower] using hbuf, hbel, Nat.zero_le _, rfl⟩
  case round =>
    obtain ⟨k, hb, hbw, hks, rfl⟩ := hrel
    clear hcv hbuf
    by_cases hlt : k < s.size
    · have hc := byte_at s k hlt
      obtain ⟨c, hcc⟩ : ∃ c, s[k] = c := ⟨_, rfl⟩
      rw [hcc] at hc
      clear hcc
      obtain ⟨hcell, hfr⟩ := hb k c (by rw [cur_at _ _ (by simpa using hlt)]; exact hc)
      have hc' := hid hc
      clear hc
      by_cases hup : 65 ≤ c.toNat ∧ c.toNat ≤ 90
      · obtain ⟨u0, u1⟩ := hup
        have hlow := hid (low_hi u0 u1)
        go_wp2_with fail
        go_roundw
        case rel => exact ⟨k + 1, by rw [← cur_step hc'.out]; have := hb.set_ k (low c); rwa [show ((low c).toNat : Int) = (c.toNat : Int) + 32 from by have := hlow.out; omega] at this, hbw.setCell (p := ⟨w.heap.size, k, none⟩) (Nat.le_refl _) _, hlt, by go_num⟩
        case measure => simp [intOf]; omega
      · have hsame := hid (cur_same hc'.out (low_id hup))
        rcases (by omega : c.toNat < 65 ∨ (65 ≤ c.toNat ∧ 90 < c.toNat)) with u0 | ⟨u0, u1⟩
        all_goals
          clear hup
          go_wp2_with fail
          go_roundw
          case rel => exact ⟨k + 1, by rw [← hsame.out]; exact hb, hbw, hlt, by go_num⟩
          case measure => simp [intOf]; omega
    · have hcv2 := hb.string (P := Try.prog) 28 5 9 s.size cap (by rw [cur_len]; rfl) Try.underlying28 Try.underlying5 Try.underlying9
      go_wp2_with fail
      go_ret
      obtain rfl : k = s.size := by omega
      exact ⟨ret_str (cur_end _), hbw⟩
end Go.Proofs.Ythnakndpdfgapaa
