/- link.Script's and link.Source's contracts. -/
import Derived.Test.YthnakndpdfgapaaScheme
namespace Go.Proofs.Ythnakndpdfgapaa
set_option linter.unusedVariables false
set_option linter.unusedSimpArgs false
open Go.RowKit Go.Lib

/-! ### Script, Source -/
def js : List UInt8 := [106, 97, 118, 97, 115, 99, 114, 105, 112, 116]
def script (l : List UInt8) : Bool := ((scheme l).getD []) == js
def source (l : List UInt8) : Option (List UInt8) := if script l then some (percent (aft 58 (strip l))) else none

set_option maxHeartbeats 4000000 in
set_option maxRecDepth 100000 in
theorem script_calls (s : ByteArray) (w : World) (hs : s.size ≤ 140737488351232) :
    Calls Try.prog 18 #[.string s] w fun e w' => e = .returned (.bool (script s.data.toList)) ∧ Below w.heap.size w w' := by
  have hc := scheme_calls s w hs
  unfold script
  obtain ⟨N, hN⟩ : ∃ N : ByteArray, (⟨((scheme s.data.toList).getD []).toArray⟩ : ByteArray) = N := ⟨_, rfl⟩
  have hN' : (scheme s.data.toList).getD [] = N.data.toList := by rw [← hN]
  rw [hN'] at hc ⊢
  rw [Lib.mk_data] at hc
  obtain ⟨B, hB⟩ : ∃ B, (scheme s.data.toList).isSome = B := ⟨_, rfl⟩
  rw [hB] at hc
  clear hB hN' hN
  have hc' := hid hc
  clear hc
  go_enter Try.func18, Try.ntmps18
  go_wp2_with (go_at_call 11; refine hc'.out.mono ?_; rintro e w1 ⟨rfl, b1⟩)
  go_ret
  exact ⟨ret_bool (by rw [Lib.toList_data]; rfl), b1⟩

set_option maxHeartbeats 4000000 in
set_option maxRecDepth 100000 in
theorem source_calls (s : ByteArray) (w : World) (hs : s.size ≤ 140737488351232) :
    Calls Try.prog 16 #[.string s] w fun e w' => e = .returned (.tuple #[.string ⟨((source s.data.toList).getD []).toArray⟩, .bool (source s.data.toList).isSome]) ∧ Below w.heap.size w w' := by
  have hc := script_calls s w hs
  have hst := fun (W : World) => strip_calls s W hs
  have hl := strip_le s.data.toList
  rw [← Lib.size_eq] at hl
  unfold source
  obtain ⟨T, hT⟩ : ∃ T : ByteArray, (⟨(strip s.data.toList).toArray⟩ : ByteArray) = T := ⟨_, rfl⟩
  have hT' : strip s.data.toList = T.data.toList := by rw [← hT]
  rw [hT'] at hst hl ⊢
  rw [Lib.mk_data] at hst
  rw [← Lib.size_eq] at hl
  clear hT hT'
  have hcut := fun (W : World) => cut_calls 58 T W (by omega)
  obtain ⟨R, hR⟩ : ∃ R : ByteArray, (⟨(aft 58 T.data.toList).toArray⟩ : ByteArray) = R := ⟨_, rfl⟩
  have hR' : aft 58 T.data.toList = R.data.toList := by rw [← hR]
  have hRl := aft_le 58 T.data.toList
  rw [hR', ← Lib.size_eq, ← Lib.size_eq] at hRl
  rw [hR'] at hcut ⊢
  rw [Lib.mk_data] at hcut
  have hper := fun (W : World) => percent_calls R W (by omega)
  obtain ⟨N, hN⟩ : ∃ N : ByteArray, (⟨(bef 58 T.data.toList).toArray⟩ : ByteArray) = N := ⟨_, rfl⟩
  obtain ⟨B, hB⟩ : ∃ B, T.data.toList.contains 58 = B := ⟨_, rfl⟩
  rw [hN, hB] at hcut
  clear hN hB hR hR'
  cases hs' : script s.data.toList with
  | false =>
    rw [hs'] at hc
    rw [if_neg (by simp)]
    have hc' := hid hc
    clear hc hst hcut hper hs'
    go_enter Try.func16, Try.ntmps16
    go_wp2_with (go_at_call 18; refine hc'.out.mono ?_; rintro e w1 ⟨rfl, b1⟩)
    go_ret2
    exact ⟨rfl, b1⟩
  | true =>
    rw [hs'] at hc
    rw [if_pos rfl]
    have hc' := hid hc
    have hst' := hid hst
    have hcut' := hid hcut
    have hper' := hid hper
    clear hc hst hcut hper hs'
    go_enter Try.func16, Try.ntmps16
    go_wp2_with (first | (go_at_call 18; refine hc'.out.mono ?_; rintro e w1 ⟨rfl, b1⟩) | (go_at_call 14; refine (hst'.out _).mono ?_; rintro e w2 ⟨rfl, b2⟩) | (go_at_call 21; refine (hcut'.out _).mono ?_; rintro e w3 ⟨rfl, n3, rfl⟩) | (go_at_call 19; refine (hper'.out _).mono ?_; rintro e w4 ⟨rfl, b4⟩))
    go_ret2
    exact ⟨rfl, (b1.trans (below_drewN' (b2.mono b1.size) n3)).trans (b4.mono (Nat.le_trans b1.size b2.size))⟩
end Go.Proofs.Ythnakndpdfgapaa
