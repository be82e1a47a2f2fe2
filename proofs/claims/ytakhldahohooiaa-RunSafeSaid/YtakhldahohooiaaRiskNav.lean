/- risk.Handler, Nav, Sink: their contracts. -/
import Derived.Test.YtakhldahohooiaaRiskMaps
import Derived.Test.YtakhldahohooiaaShelf
namespace Go.Proofs.Ytakhldahohooiaa
set_option linter.unusedVariables false
set_option linter.unusedSimpArgs false
open Go.RowKit Go.Lib Go.ChangeMaps Go.Proofs.YtakhldahohooiaaW.PrintWords Go.Proofs.YtakhldahohooiaaW.PrintLast

def isAt (x y : ByteArray) (q : Put) : Bool := decide (q.el = x ∧ q.att = y)
/-- Does an attribute lead somewhere? -/
def navB (x y : ByteArray) : Bool := leadsL.any (isAt x y)
def numOf : Value → Int
  | .int _ n => n
  | _ => 0
/-- Which kind of text an attribute takes, but for handlers. -/
def sinkI (x y : ByteArray) : Int := match sinksL.find? (isAt x y) with
  | some q => numOf q.val
  | none => 0
theorem tell_nav (x y : ByteArray) : tell leadsL (.bool false) x y = .bool (navB x y) := by
  unfold tell navB
  have hv : ∀ q ∈ leadsL, q.val = .bool true := by
    intro q hq
    simp only [leadsL, List.mem_cons, List.not_mem_nil, or_false] at hq
    rcases hq with rfl | rfl | rfl | rfl | rfl | rfl | rfl | rfl | rfl <;> rfl
  show (match leadsL.find? (isAt x y) with | some q => q.val | none => _) = _
  cases hf : leadsL.find? (isAt x y) with
  | some q =>
    have h1 := List.mem_of_find?_eq_some hf
    have h2 := List.find?_some hf
    rw [List.any_eq_true.2 ⟨q, h1, h2⟩]
    exact hv q h1
  | none =>
    have : leadsL.any (isAt x y) = false := List.any_eq_false.2 (fun q hq => by have := List.find?_eq_none.1 hf q hq; exact this)
    rw [this]
theorem tell_sink (x y : ByteArray) : tell sinksL (.int .i64 0) x y = .int .i64 (sinkI x y) := by
  unfold tell sinkI
  have hv : ∀ q ∈ sinksL, q.val = .int .i64 (numOf q.val) := by
    intro q hq
    simp only [sinksL, List.mem_cons, List.not_mem_nil, or_false] at hq
    rcases hq with rfl | rfl | rfl | rfl <;> rfl
  show (match sinksL.find? (isAt x y) with | some q => q.val | none => _) = _
  cases hf : sinksL.find? (isAt x y) with
  | some q => exact hv q (List.mem_of_find?_eq_some hf)
  | none => rfl
set_option maxHeartbeats 2000000 in
theorem nav_calls (x y : ByteArray) (w : World) : Calls Try.prog 31 #[.string x, .string y] w fun e w' => e = .returned (.bool (navB x y)) ∧ Below w.heap.size w w' := by
  have hl := hid (leads_calls w)
  obtain ⟨B, hBn⟩ : ∃ B, navB x y = B := ⟨_, rfl⟩
  have HT := hid (hBn ▸ tell_nav x y)
  rw [hBn]
  clear hBn
  go_enter Try.func31, Try.ntmps31
  go_wp2_with (go_at_call 44; refine hl.out.mono ?_; rintro e w1 ⟨g, es, ck, b, rfl, hg, hb, hE, hall, hB⟩; have hlk := look_run (t := 60) Try.underlying60 (z := .bool false) Try.zeroValue4 hb hE leads_apart hall x y; rw [HT.out] at hlk; unfold pk at hlk; have HB := hid hB; clear hg hb hE hall hB)
  go_ret
  exact ⟨rfl, HB.out⟩
/-- Is an attribute a handler? -/
def handlerB (x : ByteArray) : Bool := Lib.hasPrefix x.data.toList [111, 110] && decide (2 < x.size)
set_option maxHeartbeats 2000000 in
theorem handler_calls (x : ByteArray) (w : World) : Calls Try.prog 28 #[.string x] w fun e w' => e = .returned (.bool (handlerB x)) ∧ w' = w := by
  have hp := hid (Try.strings_HasPrefix x ⟨#[111, 110]⟩ w)
  unfold handlerB
  obtain ⟨B, hB⟩ : ∃ B, Lib.hasPrefix x.data.toList [111, 110] = B := ⟨_, rfl⟩
  have hp2 := hp.out
  rw [show (⟨#[111, 110]⟩ : ByteArray).data.toList = [111, 110] from rfl, hB] at hp2
  have HP := hid hp2
  rw [hB]
  clear hB hp hp2
  cases B with
  | true =>
    go_enter Try.func28, Try.ntmps28
    go_wp2_with (go_at_call 41; refine HP.out.mono ?_; rintro e w1 ⟨rfl, rfl⟩)
    go_ret
    exact ⟨by simp; omega, rfl⟩
  | false =>
    go_enter Try.func28, Try.ntmps28
    go_wp2_with (go_at_call 41; refine HP.out.mono ?_; rintro e w1 ⟨rfl, rfl⟩)
    go_ret
    exact ⟨by simp, rfl⟩
set_option maxHeartbeats 2000000 in
theorem sink_calls (x y : ByteArray) (w : World) : Calls Try.prog 49 #[.string x, .string y] w fun e w' => e = .returned (.int .i64 (if handlerB y = true then 2 else sinkI x y)) ∧ Below w.heap.size w w' := by
  have hl := hid (sinks_calls w)
  have hh := handler_calls y w
  obtain ⟨I, hI⟩ : ∃ I, sinkI x y = I := ⟨_, rfl⟩
  have HT := hid (hI ▸ tell_sink x y)
  rw [hI]
  clear hI
  cases hb : handlerB y with
  | true =>
    rw [hb] at hh
    have HH := hid hh
    clear hh hb
    go_enter Try.func49, Try.ntmps49
    go_wp2_with (go_at_call 28; refine HH.out.mono ?_; rintro e w1 ⟨rfl, rfl⟩)
    go_ret
    exact ⟨by simp, Below.refl _ _⟩
  | false =>
    rw [hb] at hh
    have HH := hid hh
    clear hh hb
    go_enter Try.func49, Try.ntmps49
    go_wp2_with first
      | (go_at_call 28; refine HH.out.mono ?_; rintro e w1 ⟨rfl, rfl⟩)
      | (go_at_call 65; refine hl.out.mono ?_; rintro e w1 ⟨g, es, ck, b, rfl, hg, hb, hE, hall, hB⟩; have hlk := look_run (t := 79) Try.underlying79 (z := .int .i64 0) Try.zeroValue3 hb hE sinks_apart hall x y; rw [HT.out] at hlk; unfold pk at hlk; have HB := hid hB; clear hg hb hE hall hB)
    go_ret
    exact ⟨by simp, HB.out⟩
end Go.Proofs.Ytakhldahohooiaa
