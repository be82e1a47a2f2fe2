/- LoopDoes' law in the form that the row asks for. -/
import Derived.Test.YtldbplagenjooaaLoopDoes
namespace Go.Proofs.Ytldbplagenjooaa.Pr
set_option linter.unusedVariables false
open Go.RowKit Go.Lib Go.Shelf Go.Proofs.Ytldbplagenjooaa Go.Proofs.YtldbplagenjooaaW.PrintWords
structure S45 where
  f0 : Int
  f1 : Int
  f2 : ByteArray
def k45 : Kd S45 := Kd.iso (Kd.pair (Kd.int .i64) (Kd.pair (Kd.int .i64) Kd.string)) (fun x : S45 => (x.f0, x.f1, x.f2))
theorem ops_at {w : World} {A : Option Addr} {xs : List S45} (h : Kd.C k45 w A xs.length xs) : OpsAt w A (xs.map fun x => (x.f0, x.f1, x.f2)) := by
  refine ⟨by rw [List.length_map]; exact h.2.1, fun j hj => ?_⟩
  rw [List.length_map] at hj
  obtain ⟨ad, e, hc⟩ := h.2.2 (by omega)
  obtain ⟨cs, hl, hK, hq⟩ := hc j xs[j] (List.getElem?_eq_getElem hj)
  obtain ⟨_, _, rfl, rfl, ⟨_, _, rfl, rfl, rfl⟩⟩ := hK
  have h0 := hq 0 _ rfl
  have h1 := hq 1 _ rfl
  have h2 := hq 2 _ rfl
  rw [← add_add] at h0 h1 h2
  refine ⟨ad, e, ?_, ?_, ?_⟩
  · rw [List.getElem_map]; exact h0
  · rw [List.getElem_map]; exact h1
  · rw [List.getElem_map]; exact h2
def boltinglaw18_LoopDoes.f (l0 : List S45) : Option Bool := some true
theorem boltinglaw18_LoopDoes.calls (A0 : Option Addr) (c0 : Nat) (l0 : List S45) (r : Bool) (w : World) (hr0 : Kd.C k45 w A0 l0.length l0) (hc0 : l0.length ≤ c0) (h : boltinglaw18_LoopDoes.f l0 = some r) :
    Calls Try.prog 7 #[.slice A0 l0.length c0] w fun e w' => e = .returned (.bool r) ∧ Below w.heap.size w w' := by
  cases h
  have := does_law (c := c0) (ops_at hr0) (by rw [List.length_map]; exact hc0)
  rw [List.length_map] at this
  exact this
end Go.Proofs.Ytldbplagenjooaa.Pr
