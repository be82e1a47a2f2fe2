/- Texts under the row of RunScripts (part 4).. -/
import Derived.Test.YtakhldahohooiaaJRunScripts2
import Derived.Test.YtakhldahohooiaaJRunScripts3
namespace Go.Proofs.Ytakhldahohooiaa.Pr
open Go.RowKit Go.Proofs.YtakhldahohooiaaW.PrintWords Go.Proofs.YtakhldahohooiaaW.PrintLast Go.Proofs.YtakhldahohooiaaW.PrintMore
attribute [local go_sem] max2_int min2_int max_two min_two max_three min_three max_four min_four   -- for this text's walks alone
set_option linter.unusedVariables false
set_option linter.unusedSimpArgs false

/-! ### boltinglaw19_fixed: function 9 -/
def boltinglaw19_fixed.f (k : Nat)  : Option (Bool) := (some (([(⟨0, 0, (⟨#[115, 99, 114, 105, 112, 116]⟩ : ByteArray), (⟨#[]⟩ : ByteArray), ([] : List (S39))⟩ : S34), (⟨1, 1, (⟨#[]⟩ : ByteArray), (⟨#[97]⟩ : ByteArray), ([] : List (S39))⟩ : S34), (⟨0, 0, (⟨#[115, 99, 114, 105, 112, 116]⟩ : ByteArray), (⟨#[]⟩ : ByteArray), (([(⟨(⟨#[115, 114, 99]⟩ : ByteArray), (⟨#[98]⟩ : ByteArray)⟩ : S39)] : List (S39)))⟩ : S34), (⟨0, 0, (⟨#[116, 101, 109, 112, 108, 97, 116, 101]⟩ : ByteArray), (⟨#[]⟩ : ByteArray), ([] : List (S39))⟩ : S34), (⟨1, 0, (⟨#[115, 99, 114, 105, 112, 116]⟩ : ByteArray), (⟨#[]⟩ : ByteArray), ([] : List (S39))⟩ : S34), (⟨2, 1, (⟨#[]⟩ : ByteArray), (⟨#[99]⟩ : ByteArray), ([] : List (S39))⟩ : S34), (⟨0, 0, (⟨#[115, 99, 114, 105, 112, 116]⟩ : ByteArray), (⟨#[]⟩ : ByteArray), ([] : List (S39))⟩ : S34)] : List (S34)) : List (S34))).bind fun y176 => ((run_Handler.f k 0 0 (⟨#[98]⟩ : ByteArray) (⟨#[]⟩ : ByteArray) (([(⟨(⟨#[111, 110, 99, 108, 105, 99, 107]⟩ : ByteArray), (⟨#[120]⟩ : ByteArray)⟩ : S39)] : List (S39))) (⟨#[99, 108, 105, 99, 107]⟩ : ByteArray)).bind fun bt182 => ((run_Handler.f k 0 0 (⟨#[98]⟩ : ByteArray) (⟨#[]⟩ : ByteArray) (([(⟨(⟨#[111, 110]⟩ : ByteArray), (⟨#[120]⟩ : ByteArray)⟩ : S39)] : List (S39))) (⟨#[]⟩ : ByteArray)).bind fun bt187 => ((run_Follow.f k 0 0 (⟨#[97]⟩ : ByteArray) (⟨#[]⟩ : ByteArray) (([(⟨(⟨#[104, 114, 101, 102]⟩ : ByteArray), (⟨#[106, 97, 118, 97, 115, 99, 114, 105, 112, 116, 58, 120]⟩ : ByteArray)⟩ : S39)] : List (S39)))).bind fun bt192 => ((run_Scripts.f k y176).bind fun t194 => ((boltingref19_Same.f k t194 (([(⟨0, 2, (⟨#[97]⟩ : ByteArray)⟩ : S30), (⟨2, 3, (⟨#[98]⟩ : ByteArray)⟩ : S30)] : List (S30)))).bind fun t200 => (if t200 = true then (if bt182.1.toList = ([120] : List UInt8) then (if bt182.2 = true then (if bt187.2 = true then (some false) else (if bt192.1.toList = ([120] : List UInt8) then (if bt192.2 = true then ((run_Nothing.f k y176).bind fun t201 => (if t201 = true then (some false) else ((run_Nothing.f k (([(⟨0, 0, (⟨#[98]⟩ : ByteArray), (⟨#[]⟩ : ByteArray), ([] : List (S39))⟩ : S34)] : List (S34)))).bind fun t205 => (some t205)))) else (some false)) else (some false))) else (some false)) else (some false)) else (some false)))))))
theorem boltinglaw19_fixed.mono : ∀ k, LeO (boltinglaw19_fixed.f k ) (boltinglaw19_fixed.f (k + 1) ) := by
  intro  k
  unfold boltinglaw19_fixed.f
  repeat' first
      | (with_reducible exact boltingref19_Same.mono _ _ _)
      | (with_reducible exact run_Follow.mono _ _ _ _ _ _)
      | (with_reducible exact run_Handler.mono _ _ _ _ _ _ _)
      | (with_reducible exact run_Nothing.mono _ _)
      | (with_reducible exact run_Scripts.mono _ _)
      | (with_reducible exact LeO.refl _)
      | (with_reducible exact LeO.none _)
      | (with_reducible refine LeO.ite ?_ ?_)
      | (with_reducible refine LeO.bind ?_ (fun _ => ?_))
      | exact boltingref19_Same.mono _ _ _
      | exact run_Follow.mono _ _ _ _ _ _
      | exact run_Handler.mono _ _ _ _ _ _ _
      | exact run_Nothing.mono _ _
      | exact run_Scripts.mono _ _
      | exact LeO.none _
      | refine LeO.ite ?_ ?_
      | refine LeO.bind ?_ (fun _ => ?_)
set_option maxHeartbeats 8000000 in
set_option maxRecDepth 100000 in
theorem boltinglaw19_fixed.calls_true (k : Nat)  (r : Bool) (w : World) (h : boltinglaw19_fixed.f k  = some r) (hT : Aside0 (r = true)) :
    Calls Try.prog 9 #[] w fun e w' => e = .returned (.bool r) ∧ Below w.heap.size w w' := by
  have hu34 := Try.underlying34
  have hu39 := Try.underlying39
  have hu30 := Try.underlying30
  have HB := Aside0.mk (Below.refl w.heap.size w)
  have H : ((some (([(⟨0, 0, (⟨#[115, 99, 114, 105, 112, 116]⟩ : ByteArray), (⟨#[]⟩ : ByteArray), ([] : List (S39))⟩ : S34), (⟨1, 1, (⟨#[]⟩ : ByteArray), (⟨#[97]⟩ : ByteArray), ([] : List (S39))⟩ : S34), (⟨0, 0, (⟨#[115, 99, 114, 105, 112, 116]⟩ : ByteArray), (⟨#[]⟩ : ByteArray), (([(⟨(⟨#[115, 114, 99]⟩ : ByteArray), (⟨#[98]⟩ : ByteArray)⟩ : S39)] : List (S39)))⟩ : S34), (⟨0, 0, (⟨#[116, 101, 109, 112, 108, 97, 116, 101]⟩ : ByteArray), (⟨#[]⟩ : ByteArray), ([] : List (S39))⟩ : S34), (⟨1, 0, (⟨#[115, 99, 114, 105, 112, 116]⟩ : ByteArray), (⟨#[]⟩ : ByteArray), ([] : List (S39))⟩ : S34), (⟨2, 1, (⟨#[]⟩ : ByteArray), (⟨#[99]⟩ : ByteArray), ([] : List (S39))⟩ : S34), (⟨0, 0, (⟨#[115, 99, 114, 105, 112, 116]⟩ : ByteArray), (⟨#[]⟩ : ByteArray), ([] : List (S39))⟩ : S34)] : List (S34)) : List (S34))).bind fun y176 => ((run_Handler.f k 0 0 (⟨#[98]⟩ : ByteArray) (⟨#[]⟩ : ByteArray) (([(⟨(⟨#[111, 110, 99, 108, 105, 99, 107]⟩ : ByteArray), (⟨#[120]⟩ : ByteArray)⟩ : S39)] : List (S39))) (⟨#[99, 108, 105, 99, 107]⟩ : ByteArray)).bind fun bt182 => ((run_Handler.f k 0 0 (⟨#[98]⟩ : ByteArray) (⟨#[]⟩ : ByteArray) (([(⟨(⟨#[111, 110]⟩ : ByteArray), (⟨#[120]⟩ : ByteArray)⟩ : S39)] : List (S39))) (⟨#[]⟩ : ByteArray)).bind fun bt187 => ((run_Follow.f k 0 0 (⟨#[97]⟩ : ByteArray) (⟨#[]⟩ : ByteArray) (([(⟨(⟨#[104, 114, 101, 102]⟩ : ByteArray), (⟨#[106, 97, 118, 97, 115, 99, 114, 105, 112, 116, 58, 120]⟩ : ByteArray)⟩ : S39)] : List (S39)))).bind fun bt192 => ((run_Scripts.f k y176).bind fun t194 => ((boltingref19_Same.f k t194 (([(⟨0, 2, (⟨#[97]⟩ : ByteArray)⟩ : S30), (⟨2, 3, (⟨#[98]⟩ : ByteArray)⟩ : S30)] : List (S30)))).bind fun t200 => (if t200 = true then (if bt182.1.toList = ([120] : List UInt8) then (if bt182.2 = true then (if bt187.2 = true then (some false) else (if bt192.1.toList = ([120] : List UInt8) then (if bt192.2 = true then ((run_Nothing.f k y176).bind fun t201 => (if t201 = true then (some false) else ((run_Nothing.f k (([(⟨0, 0, (⟨#[98]⟩ : ByteArray), (⟨#[]⟩ : ByteArray), ([] : List (S39))⟩ : S34)] : List (S34)))).bind fun t205 => (some t205)))) else (some false)) else (some false))) else (some false)) else (some false)) else (some false)))))))) = some r := h
  clear h
  obtain ⟨y173, hy173⟩ : ∃ y_ : List (S39), y_ = (([(⟨(⟨#[115, 114, 99]⟩ : ByteArray), (⟨#[98]⟩ : ByteArray)⟩ : S39)] : List (S39))) := ⟨_, rfl⟩
  replace H : ((some (([(⟨0, 0, (⟨#[115, 99, 114, 105, 112, 116]⟩ : ByteArray), (⟨#[]⟩ : ByteArray), ([] : List (S39))⟩ : S34), (⟨1, 1, (⟨#[]⟩ : ByteArray), (⟨#[97]⟩ : ByteArray), ([] : List (S39))⟩ : S34), (⟨0, 0, (⟨#[115, 99, 114, 105, 112, 116]⟩ : ByteArray), (⟨#[]⟩ : ByteArray), y173⟩ : S34), (⟨0, 0, (⟨#[116, 101, 109, 112, 108, 97, 116, 101]⟩ : ByteArray), (⟨#[]⟩ : ByteArray), ([] : List (S39))⟩ : S34), (⟨1, 0, (⟨#[115, 99, 114, 105, 112, 116]⟩ : ByteArray), (⟨#[]⟩ : ByteArray), ([] : List (S39))⟩ : S34), (⟨2, 1, (⟨#[]⟩ : ByteArray), (⟨#[99]⟩ : ByteArray), ([] : List (S39))⟩ : S34), (⟨0, 0, (⟨#[115, 99, 114, 105, 112, 116]⟩ : ByteArray), (⟨#[]⟩ : ByteArray), ([] : List (S39))⟩ : S34)] : List (S34)) : List (S34))).bind fun y176 => ((run_Handler.f k 0 0 (⟨#[98]⟩ : ByteArray) (⟨#[]⟩ : ByteArray) (([(⟨(⟨#[111, 110, 99, 108, 105, 99, 107]⟩ : ByteArray), (⟨#[120]⟩ : ByteArray)⟩ : S39)] : List (S39))) (⟨#[99, 108, 105, 99, 107]⟩ : ByteArray)).bind fun bt182 => ((run_Handler.f k 0 0 (⟨#[98]⟩ : ByteArray) (⟨#[]⟩ : ByteArray) (([(⟨(⟨#[111, 110]⟩ : ByteArray), (⟨#[120]⟩ : ByteArray)⟩ : S39)] : List (S39))) (⟨#[]⟩ : ByteArray)).bind fun bt187 => ((run_Follow.f k 0 0 (⟨#[97]⟩ : ByteArray) (⟨#[]⟩ : ByteArray) (([(⟨(⟨#[104, 114, 101, 102]⟩ : ByteArray), (⟨#[106, 97, 118, 97, 115, 99, 114, 105, 112, 116, 58, 120]⟩ : ByteArray)⟩ : S39)] : List (S39)))).bind fun bt192 => ((run_Scripts.f k y176).bind fun t194 => ((boltingref19_Same.f k t194 (([(⟨0, 2, (⟨#[97]⟩ : ByteArray)⟩ : S30), (⟨2, 3, (⟨#[98]⟩ : ByteArray)⟩ : S30)] : List (S30)))).bind fun t200 => (if t200 = true then (if bt182.1.toList = ([120] : List UInt8) then (if bt182.2 = true then (if bt187.2 = true then (some false) else (if bt192.1.toList = ([120] : List UInt8) then (if bt192.2 = true then ((run_Nothing.f k y176).bind fun t201 => (if t201 = true then (some false) else ((run_Nothing.f k (([(⟨0, 0, (⟨#[98]⟩ : ByteArray), (⟨#[]⟩ : ByteArray), ([] : List (S39))⟩ : S34)] : List (S34)))).bind fun t205 => (some t205)))) else (some false)) else (some false))) else (some false)) else (some false)) else (some false)))))))) = some r := by first | (rw [hy173]; with_reducible exact H) | (have H2_ := (Option.bind_some _ _).symm.trans H; rw [hy173]; with_reducible exact H2_) | (have H2_ := (Option.bind_some _ _).symm.trans H; with_reducible exact H2_) | with_reducible exact H | (rw [hy173]; exact H) | exact H
  have Ny173 := Aside0.mk hy173
  clear hy173
  obtain ⟨y176, hy176⟩ : ∃ y_ : List (S34), y_ = (([(⟨0, 0, (⟨#[115, 99, 114, 105, 112, 116]⟩ : ByteArray), (⟨#[]⟩ : ByteArray), ([] : List (S39))⟩ : S34), (⟨1, 1, (⟨#[]⟩ : ByteArray), (⟨#[97]⟩ : ByteArray), ([] : List (S39))⟩ : S34), (⟨0, 0, (⟨#[115, 99, 114, 105, 112, 116]⟩ : ByteArray), (⟨#[]⟩ : ByteArray), y173⟩ : S34), (⟨0, 0, (⟨#[116, 101, 109, 112, 108, 97, 116, 101]⟩ : ByteArray), (⟨#[]⟩ : ByteArray), ([] : List (S39))⟩ : S34), (⟨1, 0, (⟨#[115, 99, 114, 105, 112, 116]⟩ : ByteArray), (⟨#[]⟩ : ByteArray), ([] : List (S39))⟩ : S34), (⟨2, 1, (⟨#[]⟩ : ByteArray), (⟨#[99]⟩ : ByteArray), ([] : List (S39))⟩ : S34), (⟨0, 0, (⟨#[115, 99, 114, 105, 112, 116]⟩ : ByteArray), (⟨#[]⟩ : ByteArray), ([] : List (S39))⟩ : S34)] : List (S34))) := ⟨_, rfl⟩
  replace H : ((run_Handler.f k 0 0 (⟨#[98]⟩ : ByteArray) (⟨#[]⟩ : ByteArray) (([(⟨(⟨#[111, 110, 99, 108, 105, 99, 107]⟩ : ByteArray), (⟨#[120]⟩ : ByteArray)⟩ : S39)] : List (S39))) (⟨#[99, 108, 105, 99, 107]⟩ : ByteArray)).bind fun bt182 => ((run_Handler.f k 0 0 (⟨#[98]⟩ : ByteArray) (⟨#[]⟩ : ByteArray) (([(⟨(⟨#[111, 110]⟩ : ByteArray), (⟨#[120]⟩ : ByteArray)⟩ : S39)] : List (S39))) (⟨#[]⟩ : ByteArray)).bind fun bt187 => ((run_Follow.f k 0 0 (⟨#[97]⟩ : ByteArray) (⟨#[]⟩ : ByteArray) (([(⟨(⟨#[104, 114, 101, 102]⟩ : ByteArray), (⟨#[106, 97, 118, 97, 115, 99, 114, 105, 112, 116, 58, 120]⟩ : ByteArray)⟩ : S39)] : List (S39)))).bind fun bt192 => ((run_Scripts.f k y176).bind fun t194 => ((boltingref19_Same.f k t194 (([(⟨0, 2, (⟨#[97]⟩ : ByteArray)⟩ : S30), (⟨2, 3, (⟨#[98]⟩ : ByteArray)⟩ : S30)] : List (S30)))).bind fun t200 => (if t200 = true then (if bt182.1.toList = ([120] : List UInt8) then (if bt182.2 = true then (if bt187.2 = true then (some false) else (if bt192.1.toList = ([120] : List UInt8) then (if bt192.2 = true then ((run_Nothing.f k y176).bind fun t201 => (if t201 = true then (some false) else ((run_Nothing.f k (([(⟨0, 0, (⟨#[98]⟩ : ByteArray), (⟨#[]⟩ : ByteArray), ([] : List (S39))⟩ : S34)] : List (S34)))).bind fun t205 => (some t205)))) else (some false)) else (some false))) else (some false)) else (some false)) else (some false))))))) = some r := by first | (rw [hy176]; with_reducible exact H) | (have H2_ := (Option.bind_some _ _).symm.trans H; rw [hy176]; with_reducible exact H2_) | (have H2_ := (Option.bind_some _ _).symm.trans H; with_reducible exact H2_) | with_reducible exact H | (rw [hy176]; exact H) | exact H
  have Ny176 := Aside0.mk hy176
  clear hy176
  obtain ⟨y179, hy179⟩ : ∃ y_ : List (S39), y_ = (([(⟨(⟨#[111, 110, 99, 108, 105, 99, 107]⟩ : ByteArray), (⟨#[120]⟩ : ByteArray)⟩ : S39)] : List (S39))) := ⟨_, rfl⟩
  replace H : ((run_Handler.f k 0 0 (⟨#[98]⟩ : ByteArray) (⟨#[]⟩ : ByteArray) y179 (⟨#[99, 108, 105, 99, 107]⟩ : ByteArray)).bind fun bt182 => ((run_Handler.f k 0 0 (⟨#[98]⟩ : ByteArray) (⟨#[]⟩ : ByteArray) (([(⟨(⟨#[111, 110]⟩ : ByteArray), (⟨#[120]⟩ : ByteArray)⟩ : S39)] : List (S39))) (⟨#[]⟩ : ByteArray)).bind fun bt187 => ((run_Follow.f k 0 0 (⟨#[97]⟩ : ByteArray) (⟨#[]⟩ : ByteArray) (([(⟨(⟨#[104, 114, 101, 102]⟩ : ByteArray), (⟨#[106, 97, 118, 97, 115, 99, 114, 105, 112, 116, 58, 120]⟩ : ByteArray)⟩ : S39)] : List (S39)))).bind fun bt192 => ((run_Scripts.f k y176).bind fun t194 => ((boltingref19_Same.f k t194 (([(⟨0, 2, (⟨#[97]⟩ : ByteArray)⟩ : S30), (⟨2, 3, (⟨#[98]⟩ : ByteArray)⟩ : S30)] : List (S30)))).bind fun t200 => (if t200 = true then (if bt182.1.toList = ([120] : List UInt8) then (if bt182.2 = true then (if bt187.2 = true then (some false) else (if bt192.1.toList = ([120] : List UInt8) then (if bt192.2 = true then ((run_Nothing.f k y176).bind fun t201 => (if t201 = true then (some false) else ((run_Nothing.f k (([(⟨0, 0, (⟨#[98]⟩ : ByteArray), (⟨#[]⟩ : ByteArray), ([] : List (S39))⟩ : S34)] : List (S34)))).bind fun t205 => (some t205)))) else (some false)) else (some false))) else (some false)) else (some false)) else (some false))))))) = some r := by first | (rw [hy179]; with_reducible exact H) | (have H2_ := (Option.bind_some _ _).symm.trans H; rw [hy179]; with_reducible exact H2_) | (have H2_ := (Option.bind_some _ _).symm.trans H; with_reducible exact H2_) | with_reducible exact H | (rw [hy179]; exact H) | exact H
  have Ny179 := Aside0.mk hy179
  clear hy179
  replace H := Option.bind_eq_some_iff.mp H
  obtain ⟨⟨t182, t183⟩, A10, H⟩ := H
  replace H : ((run_Handler.f k 0 0 (⟨#[98]⟩ : ByteArray) (⟨#[]⟩ : ByteArray) (([(⟨(⟨#[111, 110]⟩ : ByteArray), (⟨#[120]⟩ : ByteArray)⟩ : S39)] : List (S39))) (⟨#[]⟩ : ByteArray)).bind fun bt187 => ((run_Follow.f k 0 0 (⟨#[97]⟩ : ByteArray) (⟨#[]⟩ : ByteArray) (([(⟨(⟨#[104, 114, 101, 102]⟩ : ByteArray), (⟨#[106, 97, 118, 97, 115, 99, 114, 105, 112, 116, 58, 120]⟩ : ByteArray)⟩ : S39)] : List (S39)))).bind fun bt192 => ((run_Scripts.f k y176).bind fun t194 => ((boltingref19_Same.f k t194 (([(⟨0, 2, (⟨#[97]⟩ : ByteArray)⟩ : S30), (⟨2, 3, (⟨#[98]⟩ : ByteArray)⟩ : S30)] : List (S30)))).bind fun t200 => (if t200 = true then (if t182.toList = ([120] : List UInt8) then (if t183 = true then (if bt187.2 = true then (some false) else (if bt192.1.toList = ([120] : List UInt8) then (if bt192.2 = true then ((run_Nothing.f k y176).bind fun t201 => (if t201 = true then (some false) else ((run_Nothing.f k (([(⟨0, 0, (⟨#[98]⟩ : ByteArray), (⟨#[]⟩ : ByteArray), ([] : List (S39))⟩ : S34)] : List (S34)))).bind fun t205 => (some t205)))) else (some false)) else (some false))) else (some false)) else (some false)) else (some false)))))) = some r := H
  have A1 := Aside0.mk A10
  clear A10
  obtain ⟨y184, hy184⟩ : ∃ y_ : List (S39), y_ = (([(⟨(⟨#[111, 110]⟩ : ByteArray), (⟨#[120]⟩ : ByteArray)⟩ : S39)] : List (S39))) := ⟨_, rfl⟩
  replace H : ((run_Handler.f k 0 0 (⟨#[98]⟩ : ByteArray) (⟨#[]⟩ : ByteArray) y184 (⟨#[]⟩ : ByteArray)).bind fun bt187 => ((run_Follow.f k 0 0 (⟨#[97]⟩ : ByteArray) (⟨#[]⟩ : ByteArray) (([(⟨(⟨#[104, 114, 101, 102]⟩ : ByteArray), (⟨#[106, 97, 118, 97, 115, 99, 114, 105, 112, 116, 58, 120]⟩ : ByteArray)⟩ : S39)] : List (S39)))).bind fun bt192 => ((run_Scripts.f k y176).bind fun t194 => ((boltingref19_Same.f k t194 (([(⟨0, 2, (⟨#[97]⟩ : ByteArray)⟩ : S30), (⟨2, 3, (⟨#[98]⟩ : ByteArray)⟩ : S30)] : List (S30)))).bind fun t200 => (if t200 = true then (if t182.toList = ([120] : List UInt8) then (if t183 = true then (if bt187.2 = true then (some false) else (if bt192.1.toList = ([120] : List UInt8) then (if bt192.2 = true then ((run_Nothing.f k y176).bind fun t201 => (if t201 = true then (some false) else ((run_Nothing.f k (([(⟨0, 0, (⟨#[98]⟩ : ByteArray), (⟨#[]⟩ : ByteArray), ([] : List (S39))⟩ : S34)] : List (S34)))).bind fun t205 => (some t205)))) else (some false)) else (some false))) else (some false)) else (some false)) else (some false)))))) = some r := by first | (rw [hy184]; with_reducible exact H) | (have H2_ := (Option.bind_some _ _).symm.trans H; rw [hy184]; with_reducible exact H2_) | (have H2_ := (Option.bind_some _ _).symm.trans H; with_reducible exact H2_) | with_reducible exact H | (rw [hy184]; exact H) | exact H
  have Ny184 := Aside0.mk hy184
  clear hy184
  replace H := Option.bind_eq_some_iff.mp H
  obtain ⟨⟨t187, t188⟩, A20, H⟩ := H
  replace H : ((run_Follow.f k 0 0 (⟨#[97]⟩ : ByteArray) (⟨#[]⟩ : ByteArray) (([(⟨(⟨#[104, 114, 101, 102]⟩ : ByteArray), (⟨#[106, 97, 118, 97, 115, 99, 114, 105, 112, 116, 58, 120]⟩ : ByteArray)⟩ : S39)] : List (S39)))).bind fun bt192 => ((run_Scripts.f k y176).bind fun t194 => ((boltingref19_Same.f k t194 (([(⟨0, 2, (⟨#[97]⟩ : ByteArray)⟩ : S30), (⟨2, 3, (⟨#[98]⟩ : ByteArray)⟩ : S30)] : List (S30)))).bind fun t200 => (if t200 = true then (if t182.toList = ([120] : List UInt8) then (if t183 = true then (if t188 = true then (some false) else (if bt192.1.toList = ([120] : List UInt8) then (if bt192.2 = true then ((run_Nothing.f k y176).bind fun t201 => (if t201 = true then (some false) else ((run_Nothing.f k (([(⟨0, 0, (⟨#[98]⟩ : ByteArray), (⟨#[]⟩ : ByteArray), ([] : List (S39))⟩ : S34)] : List (S34)))).bind fun t205 => (some t205)))) else (some false)) else (some false))) else (some false)) else (some false)) else (some false))))) = some r := H
  have A2 := Aside0.mk A20
  clear A20
  obtain ⟨y189, hy189⟩ : ∃ y_ : List (S39), y_ = (([(⟨(⟨#[104, 114, 101, 102]⟩ : ByteArray), (⟨#[106, 97, 118, 97, 115, 99, 114, 105, 112, 116, 58, 120]⟩ : ByteArray)⟩ : S39)] : List (S39))) := ⟨_, rfl⟩
  replace H : ((run_Follow.f k 0 0 (⟨#[97]⟩ : ByteArray) (⟨#[]⟩ : ByteArray) y189).bind fun bt192 => ((run_Scripts.f k y176).bind fun t194 => ((boltingref19_Same.f k t194 (([(⟨0, 2, (⟨#[97]⟩ : ByteArray)⟩ : S30), (⟨2, 3, (⟨#[98]⟩ : ByteArray)⟩ : S30)] : List (S30)))).bind fun t200 => (if t200 = true then (if t182.toList = ([120] : List UInt8) then (if t183 = true then (if t188 = true then (some false) else (if bt192.1.toList = ([120] : List UInt8) then (if bt192.2 = true then ((run_Nothing.f k y176).bind fun t201 => (if t201 = true then (some false) else ((run_Nothing.f k (([(⟨0, 0, (⟨#[98]⟩ : ByteArray), (⟨#[]⟩ : ByteArray), ([] : List (S39))⟩ : S34)] : List (S34)))).bind fun t205 => (some t205)))) else (some false)) else (some false))) else (some false)) else (some false)) else (some false))))) = some r := by first | (rw [hy189]; with_reducible exact H) | (have H2_ := (Option.bind_some _ _).symm.trans H; rw [hy189]; with_reducible exact H2_) | (have H2_ := (Option.bind_some _ _).symm.trans H; with_reducible exact H2_) | with_reducible exact H | (rw [hy189]; exact H) | exact H
  have Ny189 := Aside0.mk hy189
  clear hy189
  replace H := Option.bind_eq_some_iff.mp H
  obtain ⟨⟨t192, t193⟩, A30, H⟩ := H
  replace H : ((run_Scripts.f k y176).bind fun t194 => ((boltingref19_Same.f k t194 (([(⟨0, 2, (⟨#[97]⟩ : ByteArray)⟩ : S30), (⟨2, 3, (⟨#[98]⟩ : ByteArray)⟩ : S30)] : List (S30)))).bind fun t200 => (if t200 = true then (if t182.toList = ([120] : List UInt8) then (if t183 = true then (if t188 = true then (some false) else (if t192.toList = ([120] : List UInt8) then (if t193 = true then ((run_Nothing.f k y176).bind fun t201 => (if t201 = true then (some false) else ((run_Nothing.f k (([(⟨0, 0, (⟨#[98]⟩ : ByteArray), (⟨#[]⟩ : ByteArray), ([] : List (S39))⟩ : S34)] : List (S34)))).bind fun t205 => (some t205)))) else (some false)) else (some false))) else (some false)) else (some false)) else (some false)))) = some r := H
  have A3 := Aside0.mk A30
  clear A30
  replace H := Option.bind_eq_some_iff.mp H
  obtain ⟨t194, A40, H⟩ := H
  replace H : ((boltingref19_Same.f k t194 (([(⟨0, 2, (⟨#[97]⟩ : ByteArray)⟩ : S30), (⟨2, 3, (⟨#[98]⟩ : ByteArray)⟩ : S30)] : List (S30)))).bind fun t200 => (if t200 = true then (if t182.toList = ([120] : List UInt8) then (if t183 = true then (if t188 = true then (some false) else (if t192.toList = ([120] : List UInt8) then (if t193 = true then ((run_Nothing.f k y176).bind fun t201 => (if t201 = true then (some false) else ((run_Nothing.f k (([(⟨0, 0, (⟨#[98]⟩ : ByteArray), (⟨#[]⟩ : ByteArray), ([] : List (S39))⟩ : S34)] : List (S34)))).bind fun t205 => (some t205)))) else (some false)) else (some false))) else (some false)) else (some false)) else (some false))) = some r := H
  have A4 := Aside0.mk A40
  clear A40
  obtain ⟨y197, hy197⟩ : ∃ y_ : List (S30), y_ = (([(⟨0, 2, (⟨#[97]⟩ : ByteArray)⟩ : S30), (⟨2, 3, (⟨#[98]⟩ : ByteArray)⟩ : S30)] : List (S30))) := ⟨_, rfl⟩
  replace H : ((boltingref19_Same.f k t194 y197).bind fun t200 => (if t200 = true then (if t182.toList = ([120] : List UInt8) then (if t183 = true then (if t188 = true then (some false) else (if t192.toList = ([120] : List UInt8) then (if t193 = true then ((run_Nothing.f k y176).bind fun t201 => (if t201 = true then (some false) else ((run_Nothing.f k (([(⟨0, 0, (⟨#[98]⟩ : ByteArray), (⟨#[]⟩ : ByteArray), ([] : List (S39))⟩ : S34)] : List (S34)))).bind fun t205 => (some t205)))) else (some false)) else (some false))) else (some false)) else (some false)) else (some false))) = some r := by first | (rw [hy197]; with_reducible exact H) | (have H2_ := (Option.bind_some _ _).symm.trans H; rw [hy197]; with_reducible exact H2_) | (have H2_ := (Option.bind_some _ _).symm.trans H; with_reducible exact H2_) | with_reducible exact H | (rw [hy197]; exact H) | exact H
  have Ny197 := Aside0.mk hy197
  clear hy197
  replace H := Option.bind_eq_some_iff.mp H
  obtain ⟨t200, A50, H⟩ := H
  replace H : (if t200 = true then (if t182.toList = ([120] : List UInt8) then (if t183 = true then (if t188 = true then (some false) else (if t192.toList = ([120] : List UInt8) then (if t193 = true then ((run_Nothing.f k y176).bind fun t201 => (if t201 = true then (some false) else ((run_Nothing.f k (([(⟨0, 0, (⟨#[98]⟩ : ByteArray), (⟨#[]⟩ : ByteArray), ([] : List (S39))⟩ : S34)] : List (S34)))).bind fun t205 => (some t205)))) else (some false)) else (some false))) else (some false)) else (some false)) else (some false)) = some r := H
  have A5 := Aside0.mk A50
  clear A50
  by_cases c6 : t200 = true
  · subst c6
    have H1 : (if t182.toList = ([120] : List UInt8) then (if t183 = true then (if t188 = true then (some false) else (if t192.toList = ([120] : List UInt8) then (if t193 = true then ((run_Nothing.f k y176).bind fun t201 => (if t201 = true then (some false) else ((run_Nothing.f k (([(⟨0, 0, (⟨#[98]⟩ : ByteArray), (⟨#[]⟩ : ByteArray), ([] : List (S39))⟩ : S34)] : List (S34)))).bind fun t205 => (some t205)))) else (some false)) else (some false))) else (some false)) else (some false)) = some r := by rw [if_pos rfl] at H; exact H
    clear H
    have H := H1
    clear H1
    by_cases c7 : t182.toList = ([120] : List UInt8)
    · rw [if_pos c7] at H
      have c7b0 : (t182.toList == ([120] : List UInt8)) = true := beq_iff_eq.mpr c7
      have c7b1 : (t182.toList != ([120] : List UInt8)) = false := bne_eq_false_iff_eq.mpr c7
      clear c7
      by_cases c8 : t183 = true
      · subst c8
        have H1 : (if t188 = true then (some false) else (if t192.toList = ([120] : List UInt8) then (if t193 = true then ((run_Nothing.f k y176).bind fun t201 => (if t201 = true then (some false) else ((run_Nothing.f k (([(⟨0, 0, (⟨#[98]⟩ : ByteArray), (⟨#[]⟩ : ByteArray), ([] : List (S39))⟩ : S34)] : List (S34)))).bind fun t205 => (some t205)))) else (some false)) else (some false))) = some r := by rw [if_pos rfl] at H; exact H
        clear H
        have H := H1
        clear H1
        by_cases c9 : t188 = true
        · subst c9
          have H1 : (some false) = some r := by rw [if_pos rfl] at H; exact H
          clear H
          have H := H1
          clear H1
          exact absurd (Option.some.inj H) (by rw [hT.out]; decide)
        · replace c9 := Bool.eq_false_iff.mpr c9
          subst c9
          have H1 : (if t192.toList = ([120] : List UInt8) then (if t193 = true then ((run_Nothing.f k y176).bind fun t201 => (if t201 = true then (some false) else ((run_Nothing.f k (([(⟨0, 0, (⟨#[98]⟩ : ByteArray), (⟨#[]⟩ : ByteArray), ([] : List (S39))⟩ : S34)] : List (S34)))).bind fun t205 => (some t205)))) else (some false)) else (some false)) = some r := by rw [if_neg (show ¬ (false = true) by decide)] at H; exact H
          clear H
          have H := H1
          clear H1
          by_cases c33 : t192.toList = ([120] : List UInt8)
          · rw [if_pos c33] at H
            have c33b0 : (t192.toList == ([120] : List UInt8)) = true := beq_iff_eq.mpr c33
            have c33b1 : (t192.toList != ([120] : List UInt8)) = false := bne_eq_false_iff_eq.mpr c33
            clear c33
            by_cases c34 : t193 = true
            · subst c34
              have H1 : ((run_Nothing.f k y176).bind fun t201 => (if t201 = true then (some false) else ((run_Nothing.f k (([(⟨0, 0, (⟨#[98]⟩ : ByteArray), (⟨#[]⟩ : ByteArray), ([] : List (S39))⟩ : S34)] : List (S34)))).bind fun t205 => (some t205)))) = some r := by rw [if_pos rfl] at H; exact H
              clear H
              have H := H1
              clear H1
              replace H := Option.bind_eq_some_iff.mp H
              obtain ⟨t201, A350, H⟩ := H
              replace H : (if t201 = true then (some false) else ((run_Nothing.f k (([(⟨0, 0, (⟨#[98]⟩ : ByteArray), (⟨#[]⟩ : ByteArray), ([] : List (S39))⟩ : S34)] : List (S34)))).bind fun t205 => (some t205))) = some r := H
              have A35 := Aside0.mk A350
              clear A350
              by_cases c36 : t201 = true
              · subst c36
                have H1 : (some false) = some r := by rw [if_pos rfl] at H; exact H
                clear H
                have H := H1
                clear H1
                exact absurd (Option.some.inj H) (by rw [hT.out]; decide)
              · replace c36 := Bool.eq_false_iff.mpr c36
                subst c36
                have H1 : ((run_Nothing.f k (([(⟨0, 0, (⟨#[98]⟩ : ByteArray), (⟨#[]⟩ : ByteArray), ([] : List (S39))⟩ : S34)] : List (S34)))).bind fun t205 => (some t205)) = some r := by rw [if_neg (show ¬ (false = true) by decide)] at H; exact H
                clear H
                have H := H1
                clear H1
                obtain ⟨y202, hy202⟩ : ∃ y_ : List (S34), y_ = (([(⟨0, 0, (⟨#[98]⟩ : ByteArray), (⟨#[]⟩ : ByteArray), ([] : List (S39))⟩ : S34)] : List (S34))) := ⟨_, rfl⟩
                replace H : ((run_Nothing.f k y202).bind fun t205 => (some t205)) = some r := by first | (rw [hy202]; with_reducible exact H) | (have H2_ := (Option.bind_some _ _).symm.trans H; rw [hy202]; with_reducible exact H2_) | (have H2_ := (Option.bind_some _ _).symm.trans H; with_reducible exact H2_) | with_reducible exact H | (rw [hy202]; exact H) | exact H
                have Ny202 := Aside0.mk hy202
                clear hy202
                replace H := Option.bind_eq_some_iff.mp H
                obtain ⟨t205, A610, H⟩ := H
                replace H : (some t205) = some r := H
                have A61 := Aside0.mk A610
                clear A610
                obtain rfl := Option.some.inj H
                go_enter Try.func9, Try.ntmps9
                go_wp2_with (first | ((with_reducible refine gate_dst (N := 11) rfl ?_); (try (refine gate_guard (by rfl) ?_; dsimp only)); refine Kd.R_lit k39 _ 39 ?hg (N := 11) ?hd (xs := ([(⟨(⟨#[115, 114, 99]⟩ : ByteArray), (⟨#[98]⟩ : ByteArray)⟩ : S39)] : List (S39))) (inner := [.string (⟨#[115, 114, 99]⟩ : ByteArray), .string (⟨#[98]⟩ : ByteArray)]) (ok := fun _ => True) (okp := fun _ => True) ?hr ?hp (fun _ hk => hk) trivial (Below.refl _ _) (Nat.le_refl _) (by simp) ?_; (case hd => rfl); (case hg => rfl); (case hr => first | (go_simp; done) | (go_simp; rfl)); (case hp => exact (Reps.c2 (show Kd.M k39 _ _ _ (⟨(⟨#[115, 114, 99]⟩ : ByteArray), (⟨#[98]⟩ : ByteArray)⟩ : S39) [.string (⟨#[115, 114, 99]⟩ : ByteArray), .string (⟨#[98]⟩ : ByteArray)] from (k39_mkM _ _ _ (⟨(⟨#[115, 114, 99]⟩ : ByteArray), (⟨#[98]⟩ : ByteArray)⟩ : S39) )) (Reps.none _ _))); intro v174 w62 ho63 hb hg_ hnew_; clear hg_ hnew_; (first | rw [← Ny173.out] at ho63 | (simp only [Int.reduceToNat] at ho63; rw [← Ny173.out] at ho63)); have n0_ := Aside0.mk (Kd.R_lower ho63 (below_size (by repeat (first | (with_reducible first | exact HB.out | apply below_alloc | apply pw_below_drewN | apply below_drew1) | exact HB.out)))); have n1_ := Aside0.mk (below_step (by repeat (first | (with_reducible first | exact HB.out | apply below_alloc | apply pw_below_drewN | apply below_drew1) | exact HB.out)) hb); clear HB; have HO175 := n0_; have HB := n1_; clear n0_ n1_; clear hb ho63; obtain ⟨Ao64, co64, eo64⟩ := Kd.R_slice HO175.out; subst eo64) | ((with_reducible refine gate_dst (N := 17) rfl ?_); (try (refine gate_guard (by rfl) ?_; dsimp only)); refine Kd.N_lit k34 _ 34 ?hg (N' := 17) ?hd (xs := ([(⟨0, 0, (⟨#[115, 99, 114, 105, 112, 116]⟩ : ByteArray), (⟨#[]⟩ : ByteArray), ([] : List (S39))⟩ : S34), (⟨1, 1, (⟨#[]⟩ : ByteArray), (⟨#[97]⟩ : ByteArray), ([] : List (S39))⟩ : S34), (⟨0, 0, (⟨#[115, 99, 114, 105, 112, 116]⟩ : ByteArray), (⟨#[]⟩ : ByteArray), y173⟩ : S34), (⟨0, 0, (⟨#[116, 101, 109, 112, 108, 97, 116, 101]⟩ : ByteArray), (⟨#[]⟩ : ByteArray), ([] : List (S39))⟩ : S34), (⟨1, 0, (⟨#[115, 99, 114, 105, 112, 116]⟩ : ByteArray), (⟨#[]⟩ : ByteArray), ([] : List (S39))⟩ : S34), (⟨2, 1, (⟨#[]⟩ : ByteArray), (⟨#[99]⟩ : ByteArray), ([] : List (S39))⟩ : S34), (⟨0, 0, (⟨#[115, 99, 114, 105, 112, 116]⟩ : ByteArray), (⟨#[]⟩ : ByteArray), ([] : List (S39))⟩ : S34)] : List (S34))) (inner := [.int .i64 0, .int .i64 0, .string (⟨#[115, 99, 114, 105, 112, 116]⟩ : ByteArray), .string (⟨#[]⟩ : ByteArray), .slice none 0 0, .int .i64 1, .int .i64 1, .string (⟨#[]⟩ : ByteArray), .string (⟨#[97]⟩ : ByteArray), .slice none 0 0, .int .i64 0, .int .i64 0, .string (⟨#[115, 99, 114, 105, 112, 116]⟩ : ByteArray), .string (⟨#[]⟩ : ByteArray), .slice Ao64 y173.length co64, .int .i64 0, .int .i64 0, .string (⟨#[116, 101, 109, 112, 108, 97, 116, 101]⟩ : ByteArray), .string (⟨#[]⟩ : ByteArray), .slice none 0 0, .int .i64 1, .int .i64 0, .string (⟨#[115, 99, 114, 105, 112, 116]⟩ : ByteArray), .string (⟨#[]⟩ : ByteArray), .slice none 0 0, .int .i64 2, .int .i64 1, .string (⟨#[]⟩ : ByteArray), .string (⟨#[99]⟩ : ByteArray), .slice none 0 0, .int .i64 0, .int .i64 0, .string (⟨#[115, 99, 114, 105, 112, 116]⟩ : ByteArray), .string (⟨#[]⟩ : ByteArray), .slice none 0 0]) (ok := (fun _ => True)) (okp := (fun _ => True)) ?hr ?hp (fun _ hk => hk) ((show ∀ k_, w62.heap.size ≤ k_ → (fun _ => True) k_ from fun k_ hk => trivial) _ (Nat.le_refl _)) (Below.refl _ _) (Nat.le_refl _) (by simp) ?_; (case hd => rfl); (case hg => rfl); (case hr => first | (go_simp; done) | (go_simp; rfl)); (case hp => exact (Reps.c5 (show Kd.FK k34 _ _ (⟨0, 0, (⟨#[115, 99, 114, 105, 112, 116]⟩ : ByteArray), (⟨#[]⟩ : ByteArray), ([] : List (S39))⟩ : S34) [.int .i64 0, .int .i64 0, .string (⟨#[115, 99, 114, 105, 112, 116]⟩ : ByteArray), .string (⟨#[]⟩ : ByteArray), .slice none 0 0] from (k34_mkF _ _ (⟨0, 0, (⟨#[115, 99, 114, 105, 112, 116]⟩ : ByteArray), (⟨#[]⟩ : ByteArray), ([] : List (S39))⟩ : S34) (Nat.le_refl _) (Kd.F_nil _ _ _))) (Reps.c5 (show Kd.FK k34 _ _ (⟨1, 1, (⟨#[]⟩ : ByteArray), (⟨#[97]⟩ : ByteArray), ([] : List (S39))⟩ : S34) [.int .i64 1, .int .i64 1, .string (⟨#[]⟩ : ByteArray), .string (⟨#[97]⟩ : ByteArray), .slice none 0 0] from (k34_mkF _ _ (⟨1, 1, (⟨#[]⟩ : ByteArray), (⟨#[97]⟩ : ByteArray), ([] : List (S39))⟩ : S34) (Nat.le_refl _) (Kd.F_nil _ _ _))) (Reps.c5 (show Kd.FK k34 _ _ (⟨0, 0, (⟨#[115, 99, 114, 105, 112, 116]⟩ : ByteArray), (⟨#[]⟩ : ByteArray), y173⟩ : S34) [.int .i64 0, .int .i64 0, .string (⟨#[115, 99, 114, 105, 112, 116]⟩ : ByteArray), .string (⟨#[]⟩ : ByteArray), .slice Ao64 y173.length co64] from (k34_mkF _ _ (⟨0, 0, (⟨#[115, 99, 114, 105, 112, 116]⟩ : ByteArray), (⟨#[]⟩ : ByteArray), y173⟩ : S34) (Kd.R_reads' (Kd.R_mono (ok' := (fun _ => True)) (HO175.out) (fun k_ hk => trivial))).2.1 (Kd.R_F (Kd.R_mono (ok' := (fun _ => True)) (HO175.out) (fun k_ hk => trivial))))) (Reps.c5 (show Kd.FK k34 _ _ (⟨0, 0, (⟨#[116, 101, 109, 112, 108, 97, 116, 101]⟩ : ByteArray), (⟨#[]⟩ : ByteArray), ([] : List (S39))⟩ : S34) [.int .i64 0, .int .i64 0, .string (⟨#[116, 101, 109, 112, 108, 97, 116, 101]⟩ : ByteArray), .string (⟨#[]⟩ : ByteArray), .slice none 0 0] from (k34_mkF _ _ (⟨0, 0, (⟨#[116, 101, 109, 112, 108, 97, 116, 101]⟩ : ByteArray), (⟨#[]⟩ : ByteArray), ([] : List (S39))⟩ : S34) (Nat.le_refl _) (Kd.F_nil _ _ _))) (Reps.c5 (show Kd.FK k34 _ _ (⟨1, 0, (⟨#[115, 99, 114, 105, 112, 116]⟩ : ByteArray), (⟨#[]⟩ : ByteArray), ([] : List (S39))⟩ : S34) [.int .i64 1, .int .i64 0, .string (⟨#[115, 99, 114, 105, 112, 116]⟩ : ByteArray), .string (⟨#[]⟩ : ByteArray), .slice none 0 0] from (k34_mkF _ _ (⟨1, 0, (⟨#[115, 99, 114, 105, 112, 116]⟩ : ByteArray), (⟨#[]⟩ : ByteArray), ([] : List (S39))⟩ : S34) (Nat.le_refl _) (Kd.F_nil _ _ _))) (Reps.c5 (show Kd.FK k34 _ _ (⟨2, 1, (⟨#[]⟩ : ByteArray), (⟨#[99]⟩ : ByteArray), ([] : List (S39))⟩ : S34) [.int .i64 2, .int .i64 1, .string (⟨#[]⟩ : ByteArray), .string (⟨#[99]⟩ : ByteArray), .slice none 0 0] from (k34_mkF _ _ (⟨2, 1, (⟨#[]⟩ : ByteArray), (⟨#[99]⟩ : ByteArray), ([] : List (S39))⟩ : S34) (Nat.le_refl _) (Kd.F_nil _ _ _))) (Reps.c5 (show Kd.FK k34 _ _ (⟨0, 0, (⟨#[115, 99, 114, 105, 112, 116]⟩ : ByteArray), (⟨#[]⟩ : ByteArray), ([] : List (S39))⟩ : S34) [.int .i64 0, .int .i64 0, .string (⟨#[115, 99, 114, 105, 112, 116]⟩ : ByteArray), .string (⟨#[]⟩ : ByteArray), .slice none 0 0] from (k34_mkF _ _ (⟨0, 0, (⟨#[115, 99, 114, 105, 112, 116]⟩ : ByteArray), (⟨#[]⟩ : ByteArray), ([] : List (S39))⟩ : S34) (Nat.le_refl _) (Kd.F_nil _ _ _))) (Reps.none _ _))))))))); intro v177 w65 ho66 hb hg_ hnew_; clear hg_ hnew_; (first | rw [← Ny176.out] at ho66 | (simp only [Int.reduceToNat] at ho66; rw [← Ny176.out] at ho66)); have n0_ := Aside0.mk (Kd.N_lower ho66 (below_size (by repeat (first | (with_reducible first | exact HB.out | apply below_alloc | apply pw_below_drewN | apply below_drew1) | exact HB.out)))); have n1_ := Aside0.mk (below_step (by repeat (first | (with_reducible first | exact HB.out | apply below_alloc | apply pw_below_drewN | apply below_drew1) | exact HB.out)) hb); clear HB; clear HO175; have HO178 := n0_; have HB := n1_; clear n0_ n1_; clear hb ho66) | ((with_reducible refine gate_dst (N := 20) rfl ?_); (try (refine gate_guard (by rfl) ?_; dsimp only)); refine Kd.R_lit k39 _ 39 ?hg (N := 20) ?hd (xs := ([(⟨(⟨#[111, 110, 99, 108, 105, 99, 107]⟩ : ByteArray), (⟨#[120]⟩ : ByteArray)⟩ : S39)] : List (S39))) (inner := [.string (⟨#[111, 110, 99, 108, 105, 99, 107]⟩ : ByteArray), .string (⟨#[120]⟩ : ByteArray)]) (ok := fun _ => True) (okp := fun _ => True) ?hr ?hp (fun _ hk => hk) trivial (Below.refl _ _) (Nat.le_refl _) (by simp) ?_; (case hd => rfl); (case hg => rfl); (case hr => first | (go_simp; done) | (go_simp; rfl)); (case hp => exact (Reps.c2 (show Kd.M k39 _ _ _ (⟨(⟨#[111, 110, 99, 108, 105, 99, 107]⟩ : ByteArray), (⟨#[120]⟩ : ByteArray)⟩ : S39) [.string (⟨#[111, 110, 99, 108, 105, 99, 107]⟩ : ByteArray), .string (⟨#[120]⟩ : ByteArray)] from (k39_mkM _ _ _ (⟨(⟨#[111, 110, 99, 108, 105, 99, 107]⟩ : ByteArray), (⟨#[120]⟩ : ByteArray)⟩ : S39) )) (Reps.none _ _))); intro v180 w67 ho68 hb hg_ hnew_; clear hg_ hnew_; (first | rw [← Ny179.out] at ho68 | (simp only [Int.reduceToNat] at ho68; rw [← Ny179.out] at ho68)); have n0_ := Aside0.mk (Kd.N_elder' (by (with_reducible repeat (first | apply Kd.N_alloc | apply Kd.N_drewN | apply Kd.N_drew)); exact HO178.out) (Kd.R_base ho68) hb); have n1_ := Aside0.mk (Kd.R_lower ho68 (below_size (by repeat (first | (with_reducible first | exact HB.out | apply below_alloc | apply pw_below_drewN | apply below_drew1) | exact HB.out)))); have n2_ := Aside0.mk (below_step (by repeat (first | (with_reducible first | exact HB.out | apply below_alloc | apply pw_below_drewN | apply below_drew1) | exact HB.out)) hb); clear HO178; clear HB; have HO178 := n0_; have HO181 := n1_; have HB := n2_; clear n0_ n1_ n2_; clear hb ho68; obtain ⟨Ao69, co69, eo69⟩ := Kd.R_slice HO181.out; subst eo69) | ((with_reducible refine gate_callee (f := 19) rfl ?_); refine goesL_ (some 22) rfl rfl Try.func19 (by kernel_rfl) rfl #[.agg #[.int .i64 0, .int .i64 0, .string (⟨#[98]⟩ : ByteArray), .string (⟨#[]⟩ : ByteArray), .slice Ao69 y179.length co69], .string (⟨#[99, 108, 105, 99, 107]⟩ : ByteArray)] rfl (by (try simp only [List.map_toArray, List.map_cons, List.map_nil]); first | done | rfl | (simp only [List.length_drop, List.length_take]; rfl)) ?_; (with_reducible refine (run_Handler.calls k 0 0 (⟨#[98]⟩ : ByteArray) (⟨#[]⟩ : ByteArray) _ _ y179 (⟨#[99, 108, 105, 99, 107]⟩ : ByteArray) t182 true _ ?side1 ?side2 A1.out).mono ?_); (case side1 => repeat (first | exact (Kd.R_reads' HO181.out).2.2 | (with_reducible refine Kd.C_alloc ?_ _) | (with_reducible refine Kd.C_drewN ?_ _) | (with_reducible refine Kd.C_drew ?_))); (case side2 => exact (Kd.R_reads' HO181.out).2.1); rintro e w70 ⟨rfl, hb⟩; refine ⟨_, rfl, ?_⟩; have n0_ := Aside0.mk (Kd.N_below (by (with_reducible repeat (first | apply Kd.N_alloc | apply Kd.N_drewN | apply Kd.N_drew)); exact HO178.out) hb); have n1_ := Aside0.mk (Kd.R_below (by (with_reducible repeat (first | apply Kd.R_alloc | apply Kd.R_drewN | apply Kd.R_drew)); exact HO181.out) hb); have n2_ := Aside0.mk (below_step (by repeat (first | (with_reducible first | exact HB.out | apply below_alloc | apply pw_below_drewN | apply below_drew1) | exact HB.out)) hb); clear HO178; clear HO181; clear HB; have HO178 := n0_; have HO181 := n1_; have HB := n2_; clear n0_ n1_ n2_; (try clear hb); (try clear hb2); (try clear hk); (try clear hi)) | ((with_reducible refine gate_dst (N := 27) rfl ?_); (try (refine gate_guard (by rfl) ?_; dsimp only)); refine Kd.R_lit k39 _ 39 ?hg (N := 27) ?hd (xs := ([(⟨(⟨#[111, 110]⟩ : ByteArray), (⟨#[120]⟩ : ByteArray)⟩ : S39)] : List (S39))) (inner := [.string (⟨#[111, 110]⟩ : ByteArray), .string (⟨#[120]⟩ : ByteArray)]) (ok := fun _ => True) (okp := fun _ => True) ?hr ?hp (fun _ hk => hk) trivial (Below.refl _ _) (Nat.le_refl _) (by simp) ?_; (case hd => rfl); (case hg => rfl); (case hr => first | (go_simp; done) | (go_simp; rfl)); (case hp => exact (Reps.c2 (show Kd.M k39 _ _ _ (⟨(⟨#[111, 110]⟩ : ByteArray), (⟨#[120]⟩ : ByteArray)⟩ : S39) [.string (⟨#[111, 110]⟩ : ByteArray), .string (⟨#[120]⟩ : ByteArray)] from (k39_mkM _ _ _ (⟨(⟨#[111, 110]⟩ : ByteArray), (⟨#[120]⟩ : ByteArray)⟩ : S39) )) (Reps.none _ _))); intro v185 w71 ho72 hb hg_ hnew_; clear hg_ hnew_; (first | rw [← Ny184.out] at ho72 | (simp only [Int.reduceToNat] at ho72; rw [← Ny184.out] at ho72)); have n0_ := Aside0.mk (Kd.N_elder' (by (with_reducible repeat (first | apply Kd.N_alloc | apply Kd.N_drewN | apply Kd.N_drew)); exact HO178.out) (Kd.R_base ho72) hb); have n1_ := Aside0.mk (Kd.R_elder' (by (with_reducible repeat (first | apply Kd.R_alloc | apply Kd.R_drewN | apply Kd.R_drew)); exact HO181.out) (Kd.R_base ho72) hb); have n2_ := Aside0.mk (Kd.R_lower (Kd.R_new' ho72 (Kd.R_lt (by (with_reducible repeat (first | apply Kd.R_alloc | apply Kd.R_drewN | apply Kd.R_drew)); exact HO181.out))) (below_size (by repeat (first | (with_reducible first | exact HB.out | apply below_alloc | apply pw_below_drewN | apply below_drew1) | exact HB.out)))); have n3_ := Aside0.mk (below_step (by repeat (first | (with_reducible first | exact HB.out | apply below_alloc | apply pw_below_drewN | apply below_drew1) | exact HB.out)) hb); clear HO178; clear HO181; clear HB; have HO178 := n0_; have HO181 := n1_; have HO186 := n2_; have HB := n3_; clear n0_ n1_ n2_ n3_; clear hb ho72; obtain ⟨Ao73, co73, eo73⟩ := Kd.R_slice HO186.out; subst eo73) | ((with_reducible refine gate_callee (f := 19) rfl ?_); refine goesL_ (some 29) rfl rfl Try.func19 (by kernel_rfl) rfl #[.agg #[.int .i64 0, .int .i64 0, .string (⟨#[98]⟩ : ByteArray), .string (⟨#[]⟩ : ByteArray), .slice Ao73 y184.length co73], .string (⟨#[]⟩ : ByteArray)] rfl (by (try simp only [List.map_toArray, List.map_cons, List.map_nil]); first | done | rfl | (simp only [List.length_drop, List.length_take]; rfl)) ?_; (with_reducible refine (run_Handler.calls k 0 0 (⟨#[98]⟩ : ByteArray) (⟨#[]⟩ : ByteArray) _ _ y184 (⟨#[]⟩ : ByteArray) t187 false _ ?side1 ?side2 A2.out).mono ?_); (case side1 => repeat (first | exact (Kd.R_reads' HO186.out).2.2 | (with_reducible refine Kd.C_alloc ?_ _) | (with_reducible refine Kd.C_drewN ?_ _) | (with_reducible refine Kd.C_drew ?_))); (case side2 => exact (Kd.R_reads' HO186.out).2.1); rintro e w74 ⟨rfl, hb⟩; refine ⟨_, rfl, ?_⟩; have n0_ := Aside0.mk (Kd.N_below (by (with_reducible repeat (first | apply Kd.N_alloc | apply Kd.N_drewN | apply Kd.N_drew)); exact HO178.out) hb); have n1_ := Aside0.mk (Kd.R_below (by (with_reducible repeat (first | apply Kd.R_alloc | apply Kd.R_drewN | apply Kd.R_drew)); exact HO181.out) hb); have n2_ := Aside0.mk (Kd.R_below (by (with_reducible repeat (first | apply Kd.R_alloc | apply Kd.R_drewN | apply Kd.R_drew)); exact HO186.out) hb); have n3_ := Aside0.mk (below_step (by repeat (first | (with_reducible first | exact HB.out | apply below_alloc | apply pw_below_drewN | apply below_drew1) | exact HB.out)) hb); clear HO178; clear HO181; clear HO186; clear HB; have HO178 := n0_; have HO181 := n1_; have HO186 := n2_; have HB := n3_; clear n0_ n1_ n2_ n3_; (try clear hb); (try clear hb2); (try clear hk); (try clear hi)) | ((with_reducible refine gate_dst (N := 34) rfl ?_); (try (refine gate_guard (by rfl) ?_; dsimp only)); refine Kd.R_lit k39 _ 39 ?hg (N := 34) ?hd (xs := ([(⟨(⟨#[104, 114, 101, 102]⟩ : ByteArray), (⟨#[106, 97, 118, 97, 115, 99, 114, 105, 112, 116, 58, 120]⟩ : ByteArray)⟩ : S39)] : List (S39))) (inner := [.string (⟨#[104, 114, 101, 102]⟩ : ByteArray), .string (⟨#[106, 97, 118, 97, 115, 99, 114, 105, 112, 116, 58, 120]⟩ : ByteArray)]) (ok := fun _ => True) (okp := fun _ => True) ?hr ?hp (fun _ hk => hk) trivial (Below.refl _ _) (Nat.le_refl _) (by simp) ?_; (case hd => rfl); (case hg => rfl); (case hr => first | (go_simp; done) | (go_simp; rfl)); (case hp => exact (Reps.c2 (show Kd.M k39 _ _ _ (⟨(⟨#[104, 114, 101, 102]⟩ : ByteArray), (⟨#[106, 97, 118, 97, 115, 99, 114, 105, 112, 116, 58, 120]⟩ : ByteArray)⟩ : S39) [.string (⟨#[104, 114, 101, 102]⟩ : ByteArray), .string (⟨#[106, 97, 118, 97, 115, 99, 114, 105, 112, 116, 58, 120]⟩ : ByteArray)] from (k39_mkM _ _ _ (⟨(⟨#[104, 114, 101, 102]⟩ : ByteArray), (⟨#[106, 97, 118, 97, 115, 99, 114, 105, 112, 116, 58, 120]⟩ : ByteArray)⟩ : S39) )) (Reps.none _ _))); intro v190 w75 ho76 hb hg_ hnew_; clear hg_ hnew_; (first | rw [← Ny189.out] at ho76 | (simp only [Int.reduceToNat] at ho76; rw [← Ny189.out] at ho76)); have n0_ := Aside0.mk (Kd.N_elder' (by (with_reducible repeat (first | apply Kd.N_alloc | apply Kd.N_drewN | apply Kd.N_drew)); exact HO178.out) (Kd.R_base ho76) hb); have n1_ := Aside0.mk (Kd.R_elder' (by (with_reducible repeat (first | apply Kd.R_alloc | apply Kd.R_drewN | apply Kd.R_drew)); exact HO181.out) (Kd.R_base ho76) hb); have n2_ := Aside0.mk (Kd.R_elder' (by (with_reducible repeat (first | apply Kd.R_alloc | apply Kd.R_drewN | apply Kd.R_drew)); exact HO186.out) (Kd.R_base ho76) hb); have n3_ := Aside0.mk (Kd.R_lower (Kd.R_new' (Kd.R_new' ho76 (Kd.R_lt (by (with_reducible repeat (first | apply Kd.R_alloc | apply Kd.R_drewN | apply Kd.R_drew)); exact HO181.out))) (Kd.R_lt (by (with_reducible repeat (first | apply Kd.R_alloc | apply Kd.R_drewN | apply Kd.R_drew)); exact HO186.out))) (below_size (by repeat (first | (with_reducible first | exact HB.out | apply below_alloc | apply pw_below_drewN | apply below_drew1) | exact HB.out)))); have n4_ := Aside0.mk (below_step (by repeat (first | (with_reducible first | exact HB.out | apply below_alloc | apply pw_below_drewN | apply below_drew1) | exact HB.out)) hb); clear HO178; clear HO181; clear HO186; clear HB; have HO178 := n0_; have HO181 := n1_; have HO186 := n2_; have HO191 := n3_; have HB := n4_; clear n0_ n1_ n2_ n3_ n4_; clear hb ho76; obtain ⟨Ao77, co77, eo77⟩ := Kd.R_slice HO191.out; subst eo77) | ((with_reducible refine gate_callee (f := 17) rfl ?_); refine goesL_ (some 36) rfl rfl Try.func17 (by kernel_rfl) rfl #[.agg #[.int .i64 0, .int .i64 0, .string (⟨#[97]⟩ : ByteArray), .string (⟨#[]⟩ : ByteArray), .slice Ao77 y189.length co77]] rfl (by (try simp only [List.map_toArray, List.map_cons, List.map_nil]); first | done | rfl | (simp only [List.length_drop, List.length_take]; rfl)) ?_; (with_reducible refine (run_Follow.calls k 0 0 (⟨#[97]⟩ : ByteArray) (⟨#[]⟩ : ByteArray) _ _ y189 t192 true _ ?side1 ?side2 A3.out).mono ?_); (case side1 => repeat (first | exact (Kd.R_reads' HO191.out).2.2 | (with_reducible refine Kd.C_alloc ?_ _) | (with_reducible refine Kd.C_drewN ?_ _) | (with_reducible refine Kd.C_drew ?_))); (case side2 => exact (Kd.R_reads' HO191.out).2.1); rintro e w78 ⟨rfl, hb⟩; refine ⟨_, rfl, ?_⟩; have n0_ := Aside0.mk (Kd.N_below (by (with_reducible repeat (first | apply Kd.N_alloc | apply Kd.N_drewN | apply Kd.N_drew)); exact HO178.out) hb); have n1_ := Aside0.mk (Kd.R_below (by (with_reducible repeat (first | apply Kd.R_alloc | apply Kd.R_drewN | apply Kd.R_drew)); exact HO181.out) hb); have n2_ := Aside0.mk (Kd.R_below (by (with_reducible repeat (first | apply Kd.R_alloc | apply Kd.R_drewN | apply Kd.R_drew)); exact HO186.out) hb); have n3_ := Aside0.mk (Kd.R_below (by (with_reducible repeat (first | apply Kd.R_alloc | apply Kd.R_drewN | apply Kd.R_drew)); exact HO191.out) hb); have n4_ := Aside0.mk (below_step (by repeat (first | (with_reducible first | exact HB.out | apply below_alloc | apply pw_below_drewN | apply below_drew1) | exact HB.out)) hb); clear HO178; clear HO181; clear HO186; clear HO191; clear HB; have HO178 := n0_; have HO181 := n1_; have HO186 := n2_; have HO191 := n3_; have HB := n4_; clear n0_ n1_ n2_ n3_ n4_; (try clear hb); (try clear hb2); (try clear hk); (try clear hi); obtain ⟨Ao79, co79, eo79⟩ := Kd.N_slice HO178.out; subst eo79) | ((with_reducible refine gate_callee (f := 10) rfl ?_); refine goesL_ (some 40) rfl rfl Try.func10 (by kernel_rfl) rfl #[.slice Ao79 y176.length co79] rfl (by (try simp only [List.map_toArray, List.map_cons, List.map_nil]); first | done | rfl | (simp only [List.length_drop, List.length_take]; rfl)) ?_; (with_reducible refine (run_Scripts.calls k _ _ y176 t194 _ ?side1 ?side2 A4.out).mono ?_); (case side1 => repeat (first | exact (Kd.N_reads' HO178.out).2.2 | (with_reducible refine Kd.C_alloc ?_ _) | (with_reducible refine Kd.C_drewN ?_ _) | (with_reducible refine Kd.C_drew ?_))); (case side2 => exact (Kd.N_reads' HO178.out).2.1); rintro e w80 ⟨v195, rfl, ho0, hb⟩; refine ⟨_, rfl, ?_⟩; have n0_ := Aside0.mk (Kd.N_elder' (by (with_reducible repeat (first | apply Kd.N_alloc | apply Kd.N_drewN | apply Kd.N_drew)); exact HO178.out) (Kd.R_base ho0) hb); have n1_ := Aside0.mk (Kd.R_below (by (with_reducible repeat (first | apply Kd.R_alloc | apply Kd.R_drewN | apply Kd.R_drew)); exact HO181.out) hb); have n2_ := Aside0.mk (Kd.R_below (by (with_reducible repeat (first | apply Kd.R_alloc | apply Kd.R_drewN | apply Kd.R_drew)); exact HO186.out) hb); have n3_ := Aside0.mk (Kd.R_below (by (with_reducible repeat (first | apply Kd.R_alloc | apply Kd.R_drewN | apply Kd.R_drew)); exact HO191.out) hb); have n4_ := Aside0.mk (Kd.R_lower ho0 (below_size (by repeat (first | (with_reducible first | exact HB.out | apply below_alloc | apply pw_below_drewN | apply below_drew1) | exact HB.out)))); have n5_ := Aside0.mk (below_step (by repeat (first | (with_reducible first | exact HB.out | apply below_alloc | apply pw_below_drewN | apply below_drew1) | exact HB.out)) hb); clear HO178; clear HO181; clear HO186; clear HO191; clear HB; have HO178 := n0_; have HO181 := n1_; have HO186 := n2_; have HO191 := n3_; have HO196 := n4_; have HB := n5_; clear n0_ n1_ n2_ n3_ n4_ n5_; (try clear hb); (try clear hb2); (try clear hk); (try clear hi); (try clear ho0)) | ((with_reducible refine gate_dst (N := 43) rfl ?_); (try (refine gate_guard (by rfl) ?_; dsimp only)); refine Kd.R_lit k30 _ 30 ?hg (N := 43) ?hd (xs := ([(⟨0, 2, (⟨#[97]⟩ : ByteArray)⟩ : S30), (⟨2, 3, (⟨#[98]⟩ : ByteArray)⟩ : S30)] : List (S30))) (inner := [.int .i64 0, .int .i64 2, .string (⟨#[97]⟩ : ByteArray), .int .i64 2, .int .i64 3, .string (⟨#[98]⟩ : ByteArray)]) (ok := fun _ => True) (okp := fun _ => True) ?hr ?hp (fun _ hk => hk) trivial (Below.refl _ _) (Nat.le_refl _) (by simp) ?_; (case hd => rfl); (case hg => rfl); (case hr => first | (go_simp; done) | (go_simp; rfl)); (case hp => exact (Reps.c3 (show Kd.M k30 _ _ _ (⟨0, 2, (⟨#[97]⟩ : ByteArray)⟩ : S30) [.int .i64 0, .int .i64 2, .string (⟨#[97]⟩ : ByteArray)] from (k30_mkM _ _ _ (⟨0, 2, (⟨#[97]⟩ : ByteArray)⟩ : S30) )) (Reps.c3 (show Kd.M k30 _ _ _ (⟨2, 3, (⟨#[98]⟩ : ByteArray)⟩ : S30) [.int .i64 2, .int .i64 3, .string (⟨#[98]⟩ : ByteArray)] from (k30_mkM _ _ _ (⟨2, 3, (⟨#[98]⟩ : ByteArray)⟩ : S30) )) (Reps.none _ _)))); intro v198 w81 ho82 hb hg_ hnew_; clear hg_ hnew_; (first | rw [← Ny197.out] at ho82 | (simp only [Int.reduceToNat] at ho82; rw [← Ny197.out] at ho82)); have n0_ := Aside0.mk (Kd.N_elder' (by (with_reducible repeat (first | apply Kd.N_alloc | apply Kd.N_drewN | apply Kd.N_drew)); exact HO178.out) (Kd.R_base ho82) hb); have n1_ := Aside0.mk (Kd.R_below (by (with_reducible repeat (first | apply Kd.R_alloc | apply Kd.R_drewN | apply Kd.R_drew)); exact HO181.out) hb); have n2_ := Aside0.mk (Kd.R_below (by (with_reducible repeat (first | apply Kd.R_alloc | apply Kd.R_drewN | apply Kd.R_drew)); exact HO186.out) hb); have n3_ := Aside0.mk (Kd.R_below (by (with_reducible repeat (first | apply Kd.R_alloc | apply Kd.R_drewN | apply Kd.R_drew)); exact HO191.out) hb); have n4_ := Aside0.mk (Kd.R_elder' (by (with_reducible repeat (first | apply Kd.R_alloc | apply Kd.R_drewN | apply Kd.R_drew)); exact HO196.out) (Kd.R_base ho82) hb); have n5_ := Aside0.mk (Kd.R_lower (Kd.R_new' ho82 (Kd.R_lt (by (with_reducible repeat (first | apply Kd.R_alloc | apply Kd.R_drewN | apply Kd.R_drew)); exact HO196.out))) (below_size (by repeat (first | (with_reducible first | exact HB.out | apply below_alloc | apply pw_below_drewN | apply below_drew1) | exact HB.out)))); have n6_ := Aside0.mk (below_step (by repeat (first | (with_reducible first | exact HB.out | apply below_alloc | apply pw_below_drewN | apply below_drew1) | exact HB.out)) hb); clear HO178; clear HO181; clear HO186; clear HO191; clear HO196; clear HB; have HO178 := n0_; have HO181 := n1_; have HO186 := n2_; have HO191 := n3_; have HO196 := n4_; have HO199 := n5_; have HB := n6_; clear n0_ n1_ n2_ n3_ n4_ n5_ n6_; clear hb ho82; obtain ⟨Ao83, co83, eo83⟩ := Kd.R_slice HO196.out; subst eo83; obtain ⟨Ao84, co84, eo84⟩ := Kd.R_slice HO199.out; subst eo84) | ((with_reducible refine gate_callee (f := 11) rfl ?_); refine goesL_ (some 44) rfl rfl Try.func11 (by kernel_rfl) rfl #[.slice Ao83 t194.length co83, .slice Ao84 y197.length co84] rfl (by (try simp only [List.map_toArray, List.map_cons, List.map_nil]); first | done | rfl | (simp only [List.length_drop, List.length_take]; rfl)) ?_; (with_reducible refine (boltingref19_Same.calls k _ _ t194 _ _ y197 true _ ?side1 ?side2 ?side3 ?side4 A5.out).mono ?_); (case side1 => repeat (first | exact (Kd.R_reads' HO196.out).2.2 | (with_reducible refine Kd.C_alloc ?_ _) | (with_reducible refine Kd.C_drewN ?_ _) | (with_reducible refine Kd.C_drew ?_))); (case side2 => exact (Kd.R_reads' HO196.out).2.1); (case side3 => repeat (first | exact (Kd.R_reads' HO199.out).2.2 | (with_reducible refine Kd.C_alloc ?_ _) | (with_reducible refine Kd.C_drewN ?_ _) | (with_reducible refine Kd.C_drew ?_))); (case side4 => exact (Kd.R_reads' HO199.out).2.1); rintro e w' ⟨rfl, ⟨nd, rfl⟩⟩; refine ⟨_, rfl, ?_⟩) | (go_at_call 13; (with_reducible refine (run_Nothing.calls k _ _ y176 false _ ?side1 ?side2 A35.out).mono ?_); (case side1 => repeat (first | exact (Kd.N_reads' HO178.out).2.2 | (with_reducible refine Kd.C_alloc ?_ _) | (with_reducible refine Kd.C_drewN ?_ _) | (with_reducible refine Kd.C_drew ?_))); (case side2 => exact (Kd.N_reads' HO178.out).2.1); rintro e w85 ⟨rfl, hb⟩; have n0_ := Aside0.mk (Kd.N_below (by (with_reducible repeat (first | apply Kd.N_alloc | apply Kd.N_drewN | apply Kd.N_drew)); exact HO178.out) hb); have n1_ := Aside0.mk (Kd.R_below (by (with_reducible repeat (first | apply Kd.R_alloc | apply Kd.R_drewN | apply Kd.R_drew)); exact HO181.out) hb); have n2_ := Aside0.mk (Kd.R_below (by (with_reducible repeat (first | apply Kd.R_alloc | apply Kd.R_drewN | apply Kd.R_drew)); exact HO186.out) hb); have n3_ := Aside0.mk (Kd.R_below (by (with_reducible repeat (first | apply Kd.R_alloc | apply Kd.R_drewN | apply Kd.R_drew)); exact HO191.out) hb); have n4_ := Aside0.mk (Kd.R_below (by (with_reducible repeat (first | apply Kd.R_alloc | apply Kd.R_drewN | apply Kd.R_drew)); exact HO196.out) hb); have n5_ := Aside0.mk (Kd.R_below (by (with_reducible repeat (first | apply Kd.R_alloc | apply Kd.R_drewN | apply Kd.R_drew)); exact HO199.out) hb); have n6_ := Aside0.mk (below_step (by repeat (first | (with_reducible first | exact HB.out | apply below_alloc | apply pw_below_drewN | apply below_drew1) | exact HB.out)) hb); clear HO178; clear HO181; clear HO186; clear HO191; clear HO196; clear HO199; clear HB; have HO178 := n0_; have HO181 := n1_; have HO186 := n2_; have HO191 := n3_; have HO196 := n4_; have HO199 := n5_; have HB := n6_; clear n0_ n1_ n2_ n3_ n4_ n5_ n6_; (try clear hb); (try clear hb2); (try clear hk); (try clear hi)) | ((with_reducible refine gate_dst (N := 70) rfl ?_); (try (refine gate_guard (by rfl) ?_; dsimp only)); refine Kd.N_lit k34 _ 34 ?hg (N' := 70) ?hd (xs := ([(⟨0, 0, (⟨#[98]⟩ : ByteArray), (⟨#[]⟩ : ByteArray), ([] : List (S39))⟩ : S34)] : List (S34))) (inner := [.int .i64 0, .int .i64 0, .string (⟨#[98]⟩ : ByteArray), .string (⟨#[]⟩ : ByteArray), .slice none 0 0]) (ok := (fun k_ => some k_ ≠ (.slice Ao79 y176.length co79 : Value).ownBlock ∧ some k_ ≠ (.slice Ao69 y179.length co69 : Value).ownBlock ∧ some k_ ≠ (.slice Ao73 y184.length co73 : Value).ownBlock ∧ some k_ ≠ (.slice Ao77 y189.length co77 : Value).ownBlock ∧ some k_ ≠ (.slice Ao83 t194.length co83 : Value).ownBlock ∧ some k_ ≠ (.slice Ao84 y197.length co84 : Value).ownBlock)) (okp := (fun k_ => some k_ ≠ (.slice Ao79 y176.length co79 : Value).ownBlock ∧ some k_ ≠ (.slice Ao69 y179.length co69 : Value).ownBlock ∧ some k_ ≠ (.slice Ao73 y184.length co73 : Value).ownBlock ∧ some k_ ≠ (.slice Ao77 y189.length co77 : Value).ownBlock ∧ some k_ ≠ (.slice Ao83 t194.length co83 : Value).ownBlock ∧ some k_ ≠ (.slice Ao84 y197.length co84 : Value).ownBlock)) ?hr ?hp (fun _ hk => hk) ((show ∀ k_, w85.heap.size ≤ k_ → (fun k_ => some k_ ≠ (.slice Ao79 y176.length co79 : Value).ownBlock ∧ some k_ ≠ (.slice Ao69 y179.length co69 : Value).ownBlock ∧ some k_ ≠ (.slice Ao73 y184.length co73 : Value).ownBlock ∧ some k_ ≠ (.slice Ao77 y189.length co77 : Value).ownBlock ∧ some k_ ≠ (.slice Ao83 t194.length co83 : Value).ownBlock ∧ some k_ ≠ (.slice Ao84 y197.length co84 : Value).ownBlock) k_ from fun k_ hk => ⟨Kd.fresh' (Kd.N_lt (by (with_reducible repeat (first | apply Kd.N_alloc | apply Kd.N_drewN | apply Kd.N_drew)); exact HO178.out)) k_ hk, Kd.fresh' (Kd.R_lt (by (with_reducible repeat (first | apply Kd.R_alloc | apply Kd.R_drewN | apply Kd.R_drew)); exact HO181.out)) k_ hk, Kd.fresh' (Kd.R_lt (by (with_reducible repeat (first | apply Kd.R_alloc | apply Kd.R_drewN | apply Kd.R_drew)); exact HO186.out)) k_ hk, Kd.fresh' (Kd.R_lt (by (with_reducible repeat (first | apply Kd.R_alloc | apply Kd.R_drewN | apply Kd.R_drew)); exact HO191.out)) k_ hk, Kd.fresh' (Kd.R_lt (by (with_reducible repeat (first | apply Kd.R_alloc | apply Kd.R_drewN | apply Kd.R_drew)); exact HO196.out)) k_ hk, Kd.fresh' (Kd.R_lt (by (with_reducible repeat (first | apply Kd.R_alloc | apply Kd.R_drewN | apply Kd.R_drew)); exact HO199.out)) k_ hk⟩) _ (Nat.le_refl _)) (Below.refl _ _) (Nat.le_refl _) (by simp) ?_; (case hd => rfl); (case hg => rfl); (case hr => first | (go_simp; done) | (go_simp; rfl)); (case hp => exact (Reps.c5 (show Kd.FK k34 _ _ (⟨0, 0, (⟨#[98]⟩ : ByteArray), (⟨#[]⟩ : ByteArray), ([] : List (S39))⟩ : S34) [.int .i64 0, .int .i64 0, .string (⟨#[98]⟩ : ByteArray), .string (⟨#[]⟩ : ByteArray), .slice none 0 0] from (k34_mkF _ _ (⟨0, 0, (⟨#[98]⟩ : ByteArray), (⟨#[]⟩ : ByteArray), ([] : List (S39))⟩ : S34) (Nat.le_refl _) (Kd.F_nil _ _ _))) (Reps.none _ _))); intro v203 w86 ho87 hb hg_ hnew_; clear hg_ hnew_; (first | rw [← Ny202.out] at ho87 | (simp only [Int.reduceToNat] at ho87; rw [← Ny202.out] at ho87)); have n0_ := Aside0.mk (Kd.N_elder' (by (with_reducible repeat (first | apply Kd.N_alloc | apply Kd.N_drewN | apply Kd.N_drew)); exact HO178.out) (Kd.N_base ho87) hb); have n1_ := Aside0.mk (Kd.R_below (by (with_reducible repeat (first | apply Kd.R_alloc | apply Kd.R_drewN | apply Kd.R_drew)); exact HO181.out) hb); have n2_ := Aside0.mk (Kd.R_below (by (with_reducible repeat (first | apply Kd.R_alloc | apply Kd.R_drewN | apply Kd.R_drew)); exact HO186.out) hb); have n3_ := Aside0.mk (Kd.R_below (by (with_reducible repeat (first | apply Kd.R_alloc | apply Kd.R_drewN | apply Kd.R_drew)); exact HO191.out) hb); have n4_ := Aside0.mk (Kd.R_below (by (with_reducible repeat (first | apply Kd.R_alloc | apply Kd.R_drewN | apply Kd.R_drew)); exact HO196.out) hb); have n5_ := Aside0.mk (Kd.R_below (by (with_reducible repeat (first | apply Kd.R_alloc | apply Kd.R_drewN | apply Kd.R_drew)); exact HO199.out) hb); have n6_ := Aside0.mk (Kd.N_lower ho87 (below_size (by repeat (first | (with_reducible first | exact HB.out | apply below_alloc | apply pw_below_drewN | apply below_drew1) | exact HB.out)))); have n7_ := Aside0.mk (below_step (by repeat (first | (with_reducible first | exact HB.out | apply below_alloc | apply pw_below_drewN | apply below_drew1) | exact HB.out)) hb); clear HO178; clear HO181; clear HO186; clear HO191; clear HO196; clear HO199; clear HB; have HO178 := n0_; have HO181 := n1_; have HO186 := n2_; have HO191 := n3_; have HO196 := n4_; have HO199 := n5_; have HO204 := n6_; have HB := n7_; clear n0_ n1_ n2_ n3_ n4_ n5_ n6_ n7_; clear hb ho87; obtain ⟨Ao88, co88, eo88⟩ := Kd.N_slice HO204.out; subst eo88) | (go_at_call 13; (with_reducible refine (run_Nothing.calls k _ _ y202 t205 _ ?side1 ?side2 A61.out).mono ?_); (case side1 => repeat (first | exact (Kd.N_reads' HO204.out).2.2 | (with_reducible refine Kd.C_alloc ?_ _) | (with_reducible refine Kd.C_drewN ?_ _) | (with_reducible refine Kd.C_drew ?_))); (case side2 => exact (Kd.N_reads' HO204.out).2.1); rintro e w89 ⟨rfl, hb⟩; have n0_ := Aside0.mk (Kd.N_below (by (with_reducible repeat (first | apply Kd.N_alloc | apply Kd.N_drewN | apply Kd.N_drew)); exact HO178.out) hb); have n1_ := Aside0.mk (Kd.R_below (by (with_reducible repeat (first | apply Kd.R_alloc | apply Kd.R_drewN | apply Kd.R_drew)); exact HO181.out) hb); have n2_ := Aside0.mk (Kd.R_below (by (with_reducible repeat (first | apply Kd.R_alloc | apply Kd.R_drewN | apply Kd.R_drew)); exact HO186.out) hb); have n3_ := Aside0.mk (Kd.R_below (by (with_reducible repeat (first | apply Kd.R_alloc | apply Kd.R_drewN | apply Kd.R_drew)); exact HO191.out) hb); have n4_ := Aside0.mk (Kd.R_below (by (with_reducible repeat (first | apply Kd.R_alloc | apply Kd.R_drewN | apply Kd.R_drew)); exact HO196.out) hb); have n5_ := Aside0.mk (Kd.R_below (by (with_reducible repeat (first | apply Kd.R_alloc | apply Kd.R_drewN | apply Kd.R_drew)); exact HO199.out) hb); have n6_ := Aside0.mk (Kd.N_below (by (with_reducible repeat (first | apply Kd.N_alloc | apply Kd.N_drewN | apply Kd.N_drew)); exact HO204.out) hb); have n7_ := Aside0.mk (below_step (by repeat (first | (with_reducible first | exact HB.out | apply below_alloc | apply pw_below_drewN | apply below_drew1) | exact HB.out)) hb); clear HO178; clear HO181; clear HO186; clear HO191; clear HO196; clear HO199; clear HO204; clear HB; have HO178 := n0_; have HO181 := n1_; have HO186 := n2_; have HO191 := n3_; have HO196 := n4_; have HO199 := n5_; have HO204 := n6_; have HB := n7_; clear n0_ n1_ n2_ n3_ n4_ n5_ n6_ n7_; (try clear hb); (try clear hb2); (try clear hk); (try clear hi)))
                go_ret
                exact ⟨by first | rfl | (simp [errW_none, errW_some] <;> rfl) | (simp [*, errW_none, errW_some] <;> rfl), by repeat (first | (with_reducible first | exact HB.out | apply below_alloc | apply pw_below_drewN | apply below_drew1) | exact HB.out)⟩
            · replace c34 := Bool.eq_false_iff.mpr c34
              subst c34
              have H1 : (some false) = some r := by rw [if_neg (show ¬ (false = true) by decide)] at H; exact H
              clear H
              have H := H1
              clear H1
              exact absurd (Option.some.inj H) (by rw [hT.out]; decide)
          · rw [if_neg c33] at H
            have c33b0 : (t192.toList == ([120] : List UInt8)) = false := beq_eq_false_iff_ne.mpr c33
            have c33b1 : (t192.toList != ([120] : List UInt8)) = true := bne_iff_ne.mpr c33
            exact absurd (Option.some.inj H) (by rw [hT.out]; decide)
      · replace c8 := Bool.eq_false_iff.mpr c8
        subst c8
        have H1 : (some false) = some r := by rw [if_neg (show ¬ (false = true) by decide)] at H; exact H
        clear H
        have H := H1
        clear H1
        exact absurd (Option.some.inj H) (by rw [hT.out]; decide)
    · rw [if_neg c7] at H
      have c7b0 : (t182.toList == ([120] : List UInt8)) = false := beq_eq_false_iff_ne.mpr c7
      have c7b1 : (t182.toList != ([120] : List UInt8)) = true := bne_iff_ne.mpr c7
      exact absurd (Option.some.inj H) (by rw [hT.out]; decide)
  · replace c6 := Bool.eq_false_iff.mpr c6
    subst c6
    have H1 : (some false) = some r := by rw [if_neg (show ¬ (false = true) by decide)] at H; exact H
    clear H
    have H := H1
    clear H1
    exact absurd (Option.some.inj H) (by rw [hT.out]; decide)
set_option maxRecDepth 100000 in
theorem boltinglaw19_fixed.yes (k : Nat) (r : Bool) (h : boltinglaw19_fixed.f k = some r) : r = true := by
  have up : ∀ (m n : Nat), m ≤ n → ∀ x, boltinglaw19_fixed.f m = some x → boltinglaw19_fixed.f n = some x := fun m n hmn => by
    induction hmn with
    | refl => intro x hx; exact hx
    | step _ ih => intro x hx; exact boltinglaw19_fixed.mono _ _ (ih x hx)
  have h1 := up k (k + 40) (by omega) r h
  have h2 := up 40 (k + 40) (by omega) true (by decide +kernel)
  exact Option.some.inj (h1.symm.trans h2)
theorem boltinglaw19_fixed.calls (k : Nat)  (r : Bool) (w : World) (h : boltinglaw19_fixed.f k  = some r) :
    Calls Try.prog 9 #[] w fun e w' => e = .returned (.bool r) ∧ Below w.heap.size w w' := by
  exact boltinglaw19_fixed.calls_true k r w h (Aside0.mk (boltinglaw19_fixed.yes k r h))

end Go.Proofs.Ytakhldahohooiaa.Pr
namespace Go.Proofs.Ytakhldahohooiaa.Pr
open Go.RowKit Go.Proofs.YtakhldahohooiaaW.PrintWords Go.Proofs.YtakhldahohooiaaW.PrintLast Go.Proofs.YtakhldahohooiaaW.PrintMore
attribute [local go_sem] max2_int min2_int max_two min_two max_three min_three max_four min_four   -- for this text's walks alone
set_option linter.unusedVariables false
set_option linter.unusedSimpArgs false

/-! ### boltingref04_Parent: function 39 -/
mutual
def boltingref04_Parent.l0 : Nat → List (S34) → Int → Int → Int → Option (Int)
  | 0, _, _, _, _ => none
  | k + 1, x0, x1, x5, x6 => if x6 < x1 then (boltingref04_Parent.j1 k x0 x1 x5 x6 (decide (x1 < (x0.length : Int)))) else (boltingref04_Parent.j1 k x0 x1 x5 x6 false)
def boltingref04_Parent.j1 : Nat → List (S34) → Int → Int → Int → Bool → Option (Int)
  | 0, _, _, _, _, _ => none
  | k + 1, x0, x1, x5, x6, x15 => if x15 = true then (if 0 ≤ x6 then (if x6 < (x0.length : Int) then (if 0 ≤ x1 then (if x1 < (x0.length : Int) then (if ((rd_T34 x0 x6).f0) = (wrap64 (((rd_T34 x0 x1).f0) - 1)) then (boltingref04_Parent.l0 k x0 x1 x6 (wrap64 (x6 + 1))) else (boltingref04_Parent.l0 k x0 x1 x5 (wrap64 (x6 + 1)))) else (none)) else (none)) else (none)) else (none)) else (some x5)
end
def boltingref04_Parent.f (k : Nat) (l0 : List (S34)) (a1 : Int) : Option (Int) := boltingref04_Parent.l0 k l0 a1 (-1) 0
set_option maxHeartbeats 8000000 in
set_option maxRecDepth 100000 in
theorem boltingref04_Parent.calls (k : Nat) (A0 : Option Addr) (c0 : Nat) (l0 : List (S34)) (a1 : Int) (r : Int) (w : World) (hr0 : Kd.C k34 w A0 l0.length l0) (hc0 : l0.length ≤ c0) (h : boltingref04_Parent.f k l0 a1 = some r) :
    Calls Try.prog 39 #[.slice A0 l0.length c0, .int .i64 a1] w fun e w' => e = .returned (.int .i64 r) ∧ Drawn0 w w' := by
  have HR0 := Aside0.mk hr0
  have HC0 := Aside0.mk hc0
  clear hr0 hc0
  have H : (boltingref04_Parent.l0 k l0 a1 (-1) 0) = some r := h
  clear h
  have H' := Aside0.mk H
  clear H
  go_enter Try.func39, Try.ntmps39
  go_wp2
  repeat (go_quiet (fail); try go_wp2)
  go_loopg [5, 6] k (fun kq v5 v6 w' => ∃ (x5_1 : Int) (x6_1 : Int), v5 = .int .i64 x5_1 ∧ v6 = .int .i64 x6_1 ∧ Aside0 (boltingref04_Parent.l0 kq l0 a1 x5_1 x6_1 = some r) ∧ Aside0 (kq ≤ k) ∧ Drawn0 w w')
  case atStart => exact ⟨((-1)), (0), (by first | rfl | (simp; done) | (simp [*]; done)), (by first | rfl | (simp; done) | (simp [*]; done)), H', ⟨Nat.le_refl _⟩, by repeat (first | exact Drawn0.refl _ | apply Drawn0.step)⟩
  case round =>
    clear H'
    try clear p2
    obtain ⟨x5_1, x6_1, rfl, rfl, HA, HK1, ⟨m1, rfl⟩⟩ := hrel
    cases gk with
    | zero => exact absurd HA.out (by simp [boltingref04_Parent.l0])
    | succ k1 =>
      have H := HA.out
      clear HA
      simp only [boltingref04_Parent.l0] at H
      have HC3 := Aside0.mk H
      clear H
      go_upto_region 3 with (fail)
      repeat (go_quiet (fail); go_upto_region 3 with (fail))
      go_cut [15] (fun v15 wc => ∃ (kq : Nat) (x15_2 : Bool), v15 = .bool x15_2 ∧ Aside0 (boltingref04_Parent.j1 kq l0 a1 x5_1 x6_1 x15_2 = some r) ∧ Aside0 (kq ≤ k1) ∧ Drawn0 w wc)
      case first =>
        have H := HC3.out
        clear HC3
        by_cases c4 : x6_1 < a1
        · rw [if_pos c4] at H
          have c4b0 : decide (x6_1 < a1) = true := decide_eq_true c4
          clear c4
          (first | rw [c4b0] | (simp only [i64_w, i32_w]; rw [c4b0]) | skip)
          have H' := Aside0.mk H
          clear H
          go_wp2
          repeat (go_quiet (fail); try go_wp2)
          go_meet
          case rel => exact ⟨_, (decide (a1 < (l0.length : Int))), (by first | rfl | (simp; done) | (simp [*]; done)), H', ⟨by have := HK1.out; first | omega | exact Nat.le_refl _⟩, by repeat (first | exact Drawn0.refl _ | apply Drawn0.step)⟩
        · rw [if_neg c4] at H
          have c4b0 : decide (x6_1 < a1) = false := decide_eq_false c4
          clear c4
          (first | rw [c4b0] | (simp only [i64_w, i32_w]; rw [c4b0]) | skip)
          have H' := Aside0.mk H
          clear H
          go_wp2
          repeat (go_quiet (fail); try go_wp2)
          go_meet
          case rel => exact ⟨_, (false), (by first | rfl | (simp; done) | (simp [*]; done)), H', ⟨by have := HK1.out; first | omega | exact Nat.le_refl _⟩, by repeat (first | exact Drawn0.refl _ | apply Drawn0.step)⟩
      case rest =>
        clear HC3
        try clear p2
        try clear c3
        try clear c4
        try clear c4b0
        try clear p2
        obtain ⟨kq, x15_2, rfl, HA, HJ2, ⟨mc2, rfl⟩⟩ := hcut
        cases kq with
        | zero => exact absurd HA.out (by simp [boltingref04_Parent.j1])
        | succ kj2 =>
          have H := HA.out
          clear HA
          simp only [boltingref04_Parent.j1] at H
          by_cases c5 : x15_2 = true
          · subst c5
            have H1 : (if 0 ≤ x6_1 then (if x6_1 < (l0.length : Int) then (if 0 ≤ a1 then (if a1 < (l0.length : Int) then (if ((rd_T34 l0 x6_1).f0) = (wrap64 (((rd_T34 l0 a1).f0) - 1)) then (boltingref04_Parent.l0 kj2 l0 a1 x6_1 (wrap64 (x6_1 + 1))) else (boltingref04_Parent.l0 kj2 l0 a1 x5_1 (wrap64 (x6_1 + 1)))) else (none)) else (none)) else (none)) else (none)) = some r := by rw [if_pos rfl] at H; exact H
            clear H
            have H := H1
            clear H1
            by_cases c6 : 0 ≤ x6_1
            · rw [if_pos c6] at H
              have c6b0 : decide (0 ≤ x6_1) = true := decide_eq_true c6
              clear c6
              by_cases c7 : x6_1 < (l0.length : Int)
              · rw [if_pos c7] at H
                have c7b0 : decide (x6_1 < (l0.length : Int)) = true := decide_eq_true c7
                clear c7
                by_cases c8 : 0 ≤ a1
                · rw [if_pos c8] at H
                  have c8b0 : decide (0 ≤ a1) = true := decide_eq_true c8
                  clear c8
                  by_cases c9 : a1 < (l0.length : Int)
                  · rw [if_pos c9] at H
                    have c9b0 : decide (a1 < (l0.length : Int)) = true := decide_eq_true c9
                    clear c9
                    by_cases c10 : ((rd_T34 l0 x6_1).f0) = (wrap64 (((rd_T34 l0 a1).f0) - 1))
                    · rw [if_pos c10] at H
                      have c10b0 : (((rd_T34 l0 x6_1).f0) == (wrap64 (((rd_T34 l0 a1).f0) - 1))) = true := beq_iff_eq.mpr c10
                      have c10b1 : (((rd_T34 l0 x6_1).f0) != (wrap64 (((rd_T34 l0 a1).f0) - 1))) = false := bne_eq_false_iff_eq.mpr c10
                      clear c10
                      have H' := Aside0.mk H
                      clear H
                      have p206 : 0 ≤ (x6_1 : Int) := of_decide_eq_true (by first | (with_reducible assumption) | assumption)
                      have q206 : x6_1 < (l0.length : Int) := of_decide_eq_true (by first | (with_reducible assumption) | assumption)
                      obtain ⟨ad206, A206_4, c206_4, e206, hx206_0, hx206_1, hx206_2, hx206_3, hx206_4, hl206_4, hi206_4⟩ := at_T34 HR0.out x6_1 p206 q206
                      cases e206
                      have HR206_4 := Aside0.mk hi206_4
                      have HC206_4 := Aside0.mk hl206_4
                      clear hi206_4 hl206_4
                      replace p206 := eq_true p206
                      replace q206 := eq_true q206
                      have p207 : 0 ≤ (a1 : Int) := of_decide_eq_true (by first | (with_reducible assumption) | assumption)
                      have q207 : a1 < (l0.length : Int) := of_decide_eq_true (by first | (with_reducible assumption) | assumption)
                      obtain ⟨ad207, A207_4, c207_4, e207, hx207_0, hx207_1, hx207_2, hx207_3, hx207_4, hl207_4, hi207_4⟩ := at_T34 HR0.out a1 p207 q207
                      obtain rfl : ad206 = ad207 := (by injection e207)
                      have HR207_4 := Aside0.mk hi207_4
                      have HC207_4 := Aside0.mk hl207_4
                      clear hi207_4 hl207_4
                      replace p207 := eq_true p207
                      replace q207 := eq_true q207
                      go_wp2
                      repeat (go_quiet (fail); try go_wp2)
                      go_roundg kj2
                      case measure => have := HK1.out; have := HJ2.out; omega
                      case rel => exact ⟨(x6_1), (wrap64 (x6_1 + 1)), (by first | rfl | (simp; done) | (simp [*]; done)), (by first | rfl | (simp; done) | (simp [*]; done)), H', ⟨by have := HK1.out; have := HJ2.out; omega⟩, by repeat (first | exact Drawn0.refl _ | apply Drawn0.step)⟩
                    · rw [if_neg c10] at H
                      have c10b0 : (((rd_T34 l0 x6_1).f0) == (wrap64 (((rd_T34 l0 a1).f0) - 1))) = false := beq_eq_false_iff_ne.mpr c10
                      have c10b1 : (((rd_T34 l0 x6_1).f0) != (wrap64 (((rd_T34 l0 a1).f0) - 1))) = true := bne_iff_ne.mpr c10
                      have H' := Aside0.mk H
                      clear H
                      have p206 : 0 ≤ (x6_1 : Int) := of_decide_eq_true (by first | (with_reducible assumption) | assumption)
                      have q206 : x6_1 < (l0.length : Int) := of_decide_eq_true (by first | (with_reducible assumption) | assumption)
                      obtain ⟨ad206, A206_4, c206_4, e206, hx206_0, hx206_1, hx206_2, hx206_3, hx206_4, hl206_4, hi206_4⟩ := at_T34 HR0.out x6_1 p206 q206
                      cases e206
                      have HR206_4 := Aside0.mk hi206_4
                      have HC206_4 := Aside0.mk hl206_4
                      clear hi206_4 hl206_4
                      replace p206 := eq_true p206
                      replace q206 := eq_true q206
                      have p207 : 0 ≤ (a1 : Int) := of_decide_eq_true (by first | (with_reducible assumption) | assumption)
                      have q207 : a1 < (l0.length : Int) := of_decide_eq_true (by first | (with_reducible assumption) | assumption)
                      obtain ⟨ad207, A207_4, c207_4, e207, hx207_0, hx207_1, hx207_2, hx207_3, hx207_4, hl207_4, hi207_4⟩ := at_T34 HR0.out a1 p207 q207
                      obtain rfl : ad206 = ad207 := (by injection e207)
                      have HR207_4 := Aside0.mk hi207_4
                      have HC207_4 := Aside0.mk hl207_4
                      clear hi207_4 hl207_4
                      replace p207 := eq_true p207
                      replace q207 := eq_true q207
                      go_wp2
                      repeat (go_quiet (fail); try go_wp2)
                      go_roundg kj2
                      case measure => have := HK1.out; have := HJ2.out; omega
                      case rel => exact ⟨(x5_1), (wrap64 (x6_1 + 1)), (by first | rfl | (simp; done) | (simp [*]; done)), (by first | rfl | (simp; done) | (simp [*]; done)), H', ⟨by have := HK1.out; have := HJ2.out; omega⟩, by repeat (first | exact Drawn0.refl _ | apply Drawn0.step)⟩
                  · rw [if_neg c9] at H
                    exact absurd H (by simp)
                · rw [if_neg c8] at H
                  exact absurd H (by simp)
              · rw [if_neg c7] at H
                exact absurd H (by simp)
            · rw [if_neg c6] at H
              exact absurd H (by simp)
          · replace c5 := Bool.eq_false_iff.mpr c5
            subst c5
            have H1 : (some x5_1) = some r := by rw [if_neg (show ¬ (false = true) by decide)] at H; exact H
            clear H
            have H := H1
            clear H1
            obtain rfl := Option.some.inj H
            go_wp2
            repeat (go_quiet (fail); try go_wp2)
            go_ret
            exact ⟨by first | rfl | (simp; done) | (simp [*]; done) | (simp; generalize ByteArray.toList _ = l_; cases l_ <;> rfl), by repeat (first | exact Drawn0.refl _ | apply Drawn0.step)⟩

/-! ### boltingref19_inert: function 25 -/
def boltingref19_inert.l0 : Nat → List (S34) → Int → Option (Bool)
  | 0, _, _ => none
  | k + 1, x0, x1 => if x1 ≥ 0 then (if 0 ≤ x1 then (if x1 < (x0.length : Int) then (if ((rd_T34 x0 x1).f1) = 0 then (if ((rd_T34 x0 x1).f2).toList = ([116, 101, 109, 112, 108, 97, 116, 101] : List UInt8) then (some true) else ((boltingref04_Parent.f k x0 x1).bind fun t210 => (boltingref19_inert.l0 k x0 t210))) else ((boltingref04_Parent.f k x0 x1).bind fun t211 => (boltingref19_inert.l0 k x0 t211))) else (none)) else (none)) else (some false)
def boltingref19_inert.f (k : Nat) (l0 : List (S34)) (a1 : Int) : Option (Bool) := boltingref19_inert.l0 k l0 a1
set_option maxHeartbeats 8000000 in
set_option maxRecDepth 100000 in
theorem boltingref19_inert.calls (k : Nat) (A0 : Option Addr) (c0 : Nat) (l0 : List (S34)) (a1 : Int) (r : Bool) (w : World) (hr0 : Kd.C k34 w A0 l0.length l0) (hc0 : l0.length ≤ c0) (h : boltingref19_inert.f k l0 a1 = some r) :
    Calls Try.prog 25 #[.slice A0 l0.length c0, .int .i64 a1] w fun e w' => e = .returned (.bool r) ∧ Drawn0 w w' := by
  have HR0 := Aside0.mk hr0
  have HC0 := Aside0.mk hc0
  clear hr0 hc0
  have H : (boltingref19_inert.l0 k l0 a1) = some r := h
  clear h
  have H' := Aside0.mk H
  clear H
  go_enter Try.func25, Try.ntmps25
  go_wp2
  go_loopg [1] k (fun kq v1 w' => ∃ (x1_1 : Int), v1 = .int .i64 x1_1 ∧ Aside0 (boltingref19_inert.l0 kq l0 x1_1 = some r) ∧ Aside0 (kq ≤ k) ∧ Drawn0 w w')
  case atStart => exact ⟨(a1), (by first | rfl | (simp; done) | (simp [*]; done)), H', ⟨Nat.le_refl _⟩, by repeat (first | exact Drawn0.refl _ | apply Drawn0.step)⟩
  case round =>
    clear H'
    try clear c2
    try clear p2
    obtain ⟨x1_1, rfl, HA, HK1, ⟨m1, rfl⟩⟩ := hrel
    cases gk with
    | zero => exact absurd HA.out (by simp [boltingref19_inert.l0])
    | succ k1 =>
      have H := HA.out
      clear HA
      simp only [boltingref19_inert.l0] at H
      by_cases c3 : x1_1 ≥ 0
      · rw [if_pos c3] at H
        have c3b0 : decide (0 ≤ x1_1) = true := decide_eq_true c3
        clear c3
        by_cases c4 : 0 ≤ x1_1
        · rw [if_pos c4] at H
          have c4b0 : decide (0 ≤ x1_1) = true := decide_eq_true c4
          clear c4
          by_cases c5 : x1_1 < (l0.length : Int)
          · rw [if_pos c5] at H
            have c5b0 : decide (x1_1 < (l0.length : Int)) = true := decide_eq_true c5
            clear c5
            by_cases c6 : ((rd_T34 l0 x1_1).f1) = 0
            · rw [if_pos c6] at H
              have c6b0 : (((rd_T34 l0 x1_1).f1) == 0) = true := beq_iff_eq.mpr c6
              have c6b1 : (((rd_T34 l0 x1_1).f1) != 0) = false := bne_eq_false_iff_eq.mpr c6
              clear c6
              by_cases c7 : ((rd_T34 l0 x1_1).f2).toList = ([116, 101, 109, 112, 108, 97, 116, 101] : List UInt8)
              · rw [if_pos c7] at H
                have c7b0 : (((rd_T34 l0 x1_1).f2).toList == ([116, 101, 109, 112, 108, 97, 116, 101] : List UInt8)) = true := beq_iff_eq.mpr c7
                have c7b1 : (((rd_T34 l0 x1_1).f2).toList != ([116, 101, 109, 112, 108, 97, 116, 101] : List UInt8)) = false := bne_eq_false_iff_eq.mpr c7
                clear c7
                obtain rfl := Option.some.inj H
                have p208 : 0 ≤ (x1_1 : Int) := of_decide_eq_true (by first | (with_reducible assumption) | assumption)
                have q208 : x1_1 < (l0.length : Int) := of_decide_eq_true (by first | (with_reducible assumption) | assumption)
                obtain ⟨ad208, A208_4, c208_4, e208, hx208_0, hx208_1, hx208_2, hx208_3, hx208_4, hl208_4, hi208_4⟩ := at_T34 HR0.out x1_1 p208 q208
                cases e208
                have HR208_4 := Aside0.mk hi208_4
                have HC208_4 := Aside0.mk hl208_4
                clear hi208_4 hl208_4
                replace p208 := eq_true p208
                replace q208 := eq_true q208
                have p209 : 0 ≤ (x1_1 : Int) := of_decide_eq_true (by first | (with_reducible assumption) | assumption)
                have q209 : x1_1 < (l0.length : Int) := of_decide_eq_true (by first | (with_reducible assumption) | assumption)
                obtain ⟨ad209, A209_4, c209_4, e209, hx209_0, hx209_1, hx209_2, hx209_3, hx209_4, hl209_4, hi209_4⟩ := at_T34 HR0.out x1_1 p209 q209
                obtain rfl : ad208 = ad209 := (by injection e209)
                have HR209_4 := Aside0.mk hi209_4
                have HC209_4 := Aside0.mk hl209_4
                clear hi209_4 hl209_4
                replace p209 := eq_true p209
                replace q209 := eq_true q209
                have ea_ := Option.some.inj (hx208_4.symm.trans hx209_4)
                injection ea_ with ea_ en_ ec_
                subst ea_
                subst ec_
                clear en_
                go_wp2
                go_ret
                exact ⟨by first | rfl | (simp; done) | (simp [*]; done) | (simp; generalize ByteArray.toList _ = l_; cases l_ <;> rfl), by repeat (first | exact Drawn0.refl _ | apply Drawn0.step)⟩
              · rw [if_neg c7] at H
                have c7b0 : (((rd_T34 l0 x1_1).f2).toList == ([116, 101, 109, 112, 108, 97, 116, 101] : List UInt8)) = false := beq_eq_false_iff_ne.mpr c7
                have c7b1 : (((rd_T34 l0 x1_1).f2).toList != ([116, 101, 109, 112, 108, 97, 116, 101] : List UInt8)) = true := bne_iff_ne.mpr c7
                replace H := Option.bind_eq_some_iff.mp H
                obtain ⟨t210, A80, H⟩ := H
                replace H : (boltingref19_inert.l0 k1 l0 t210) = some r := H
                have A8 := Aside0.mk A80
                clear A80
                have H' := Aside0.mk H
                clear H
                have p208 : 0 ≤ (x1_1 : Int) := of_decide_eq_true (by first | (with_reducible assumption) | assumption)
                have q208 : x1_1 < (l0.length : Int) := of_decide_eq_true (by first | (with_reducible assumption) | assumption)
                obtain ⟨ad208, A208_4, c208_4, e208, hx208_0, hx208_1, hx208_2, hx208_3, hx208_4, hl208_4, hi208_4⟩ := at_T34 HR0.out x1_1 p208 q208
                cases e208
                have HR208_4 := Aside0.mk hi208_4
                have HC208_4 := Aside0.mk hl208_4
                clear hi208_4 hl208_4
                replace p208 := eq_true p208
                replace q208 := eq_true q208
                have p209 : 0 ≤ (x1_1 : Int) := of_decide_eq_true (by first | (with_reducible assumption) | assumption)
                have q209 : x1_1 < (l0.length : Int) := of_decide_eq_true (by first | (with_reducible assumption) | assumption)
                obtain ⟨ad209, A209_4, c209_4, e209, hx209_0, hx209_1, hx209_2, hx209_3, hx209_4, hl209_4, hi209_4⟩ := at_T34 HR0.out x1_1 p209 q209
                obtain rfl : ad208 = ad209 := (by injection e209)
                have HR209_4 := Aside0.mk hi209_4
                have HC209_4 := Aside0.mk hl209_4
                clear hi209_4 hl209_4
                replace p209 := eq_true p209
                replace q209 := eq_true q209
                have ea_ := Option.some.inj (hx208_4.symm.trans hx209_4)
                injection ea_ with ea_ en_ ec_
                subst ea_
                subst ec_
                clear en_
                go_wp2_with (first | ((with_reducible refine gate_callee (f := 39) rfl ?_); refine goesL_ (some 23) rfl rfl Try.func39 (by kernel_rfl) rfl #[.slice (some ad208) l0.length c0, .int .i64 x1_1] rfl (by (try simp only [List.map_toArray, List.map_cons, List.map_nil]); first | done | rfl | (simp only [List.length_drop, List.length_take]; rfl)) ?_; (with_reducible refine (boltingref04_Parent.calls k1 _ _ l0 x1_1 t210 _ ?side1 ?side2 A8.out).mono ?_); (case side1 => repeat (first | exact HR0.out | (with_reducible refine Kd.C_alloc ?_ _) | (with_reducible refine Kd.C_drewN ?_ _) | (with_reducible refine Kd.C_drew ?_))); (case side2 => exact HC0.out); rintro e w' ⟨rfl, ⟨nd, rfl⟩⟩; refine ⟨_, rfl, ?_⟩))
                go_roundg k1
                case measure => have := HK1.out; omega
                case rel => exact ⟨(t210), (by first | rfl | (simp; done) | (simp [*]; done)), H', ⟨by have := HK1.out; omega⟩, by repeat (first | exact Drawn0.refl _ | apply Drawn0.step)⟩
            · rw [if_neg c6] at H
              have c6b0 : (((rd_T34 l0 x1_1).f1) == 0) = false := beq_eq_false_iff_ne.mpr c6
              have c6b1 : (((rd_T34 l0 x1_1).f1) != 0) = true := bne_iff_ne.mpr c6
              replace H := Option.bind_eq_some_iff.mp H
              obtain ⟨t211, A90, H⟩ := H
              replace H : (boltingref19_inert.l0 k1 l0 t211) = some r := H
              have A9 := Aside0.mk A90
              clear A90
              have H' := Aside0.mk H
              clear H
              have p208 : 0 ≤ (x1_1 : Int) := of_decide_eq_true (by first | (with_reducible assumption) | assumption)
              have q208 : x1_1 < (l0.length : Int) := of_decide_eq_true (by first | (with_reducible assumption) | assumption)
              obtain ⟨ad208, A208_4, c208_4, e208, hx208_0, hx208_1, hx208_2, hx208_3, hx208_4, hl208_4, hi208_4⟩ := at_T34 HR0.out x1_1 p208 q208
              cases e208
              have HR208_4 := Aside0.mk hi208_4
              have HC208_4 := Aside0.mk hl208_4
              clear hi208_4 hl208_4
              replace p208 := eq_true p208
              replace q208 := eq_true q208
              go_wp2_with (first | ((with_reducible refine gate_callee (f := 39) rfl ?_); refine goesL_ (some 23) rfl rfl Try.func39 (by kernel_rfl) rfl #[.slice (some ad208) l0.length c0, .int .i64 x1_1] rfl (by (try simp only [List.map_toArray, List.map_cons, List.map_nil]); first | done | rfl | (simp only [List.length_drop, List.length_take]; rfl)) ?_; (with_reducible refine (boltingref04_Parent.calls k1 _ _ l0 x1_1 t211 _ ?side1 ?side2 A9.out).mono ?_); (case side1 => repeat (first | exact HR0.out | (with_reducible refine Kd.C_alloc ?_ _) | (with_reducible refine Kd.C_drewN ?_ _) | (with_reducible refine Kd.C_drew ?_))); (case side2 => exact HC0.out); rintro e w' ⟨rfl, ⟨nd, rfl⟩⟩; refine ⟨_, rfl, ?_⟩))
              go_roundg k1
              case measure => have := HK1.out; omega
              case rel => exact ⟨(t211), (by first | rfl | (simp; done) | (simp [*]; done)), H', ⟨by have := HK1.out; omega⟩, by repeat (first | exact Drawn0.refl _ | apply Drawn0.step)⟩
          · rw [if_neg c5] at H
            exact absurd H (by simp)
        · rw [if_neg c4] at H
          exact absurd H (by simp)
      · rw [if_neg c3] at H
        have c3b0 : decide (0 ≤ x1_1) = false := decide_eq_false c3
        clear c3
        obtain rfl := Option.some.inj H
        go_wp2
        go_ret
        exact ⟨by first | rfl | (simp; done) | (simp [*]; done) | (simp; generalize ByteArray.toList _ = l_; cases l_ <;> rfl), by repeat (first | exact Drawn0.refl _ | apply Drawn0.step)⟩

/-! ### boltingref19_Value: function 26 -/
mutual
def boltingref19_Value.l0 : Nat → ByteArray → Int → Int → Int → ByteArray → ByteArray → List (S39) → Option (ByteArray × Bool)
  | 0, _, _, _, _, _, _, _ => none
  | k + 1, x1, x6, x213000, x213001, x213002, x213003, x213004 => if x6 < (x213004.length : Int) then (boltingref19_Value.j1 k x1 x6 (x213001 == 0) x213000 x213001 x213002 x213003 x213004) else (boltingref19_Value.j1 k x1 x6 false x213000 x213001 x213002 x213003 x213004)
def boltingref19_Value.j1 : Nat → ByteArray → Int → Bool → Int → Int → ByteArray → ByteArray → List (S39) → Option (ByteArray × Bool)
  | 0, _, _, _, _, _, _, _, _ => none
  | k + 1, x1, x6, x16, x213000, x213001, x213002, x213003, x213004 => if x16 = true then (if 0 ≤ x6 then (if x6 < (x213004.length : Int) then (if ((rd_T39 x213004 x6).f0).toList = x1.toList then (some ((rd_T39 x213004 x6).f1, true)) else (boltingref19_Value.l0 k x1 (wrap64 (x6 + 1)) x213000 x213001 x213002 x213003 x213004)) else (none)) else (none)) else (some ((⟨#[]⟩ : ByteArray), false))
end
def boltingref19_Value.f (k : Nat) (a0_0 : Int) (a0_1 : Int) (a0_2 : ByteArray) (a0_3 : ByteArray) (l0_4 : List (S39)) (a1 : ByteArray) : Option (ByteArray × Bool) := boltingref19_Value.l0 k a1 0 a0_0 a0_1 a0_2 a0_3 l0_4
set_option maxHeartbeats 8000000 in
set_option maxRecDepth 100000 in
theorem boltingref19_Value.calls (k : Nat) (a0_0 : Int) (a0_1 : Int) (a0_2 : ByteArray) (a0_3 : ByteArray) (A0_4 : Option Addr) (c0_4 : Nat) (l0_4 : List (S39)) (a1 : ByteArray) (r1 : ByteArray) (r2 : Bool) (w : World) (hr0_4 : Kd.C k39 w A0_4 l0_4.length l0_4) (hc0_4 : l0_4.length ≤ c0_4) (h : boltingref19_Value.f k a0_0 a0_1 a0_2 a0_3 l0_4 a1 = some (r1, r2)) :
    Calls Try.prog 26 #[.agg #[.int .i64 a0_0, .int .i64 a0_1, .string a0_2, .string a0_3, .slice A0_4 l0_4.length c0_4], .string a1] w fun e w' => e = .returned (.tuple #[.string r1, .bool r2]) ∧ Below w.heap.size w w' := by
  have hu34 := Try.underlying34
  have HR0_4 := Aside0.mk hr0_4
  have HC0_4 := Aside0.mk hc0_4
  clear hr0_4 hc0_4
  have HB := Aside0.mk (Below.refl w.heap.size w)
  have H : (boltingref19_Value.l0 k a1 0 a0_0 a0_1 a0_2 a0_3 l0_4) = some (r1, r2) := h
  clear h
  have H' := Aside0.mk H
  clear H
  go_enter Try.func26, Try.ntmps26
  go_wp2_with (first | ((with_reducible refine gate_dst (N := 2) rfl ?_); refine box_event ?hg (N := 2) ?hd (cs := #[.int .i64 a0_0, .int .i64 a0_1, .string a0_2, .string a0_3, .slice A0_4 l0_4.length c0_4]) (t := 34) ?hr ?_; (case hd => rfl); (case hg => rfl); (case hr => first | (go_simp; done) | (go_simp; rfl)); intro gb212 hg w3 hbox hb; have n0_ := Aside0.mk (below_step (by repeat (first | (with_reducible first | exact HB.out | apply below_alloc | apply pw_below_drewN | apply below_drew1) | exact HB.out)) hb); have n1_ := Aside0.mk (hbox); have n2_ := Aside0.mk ((by rw [hg]; exact (below_size (by repeat (first | (with_reducible first | exact HB.out | apply below_alloc | apply pw_below_drewN | apply below_drew1) | exact HB.out))) : w.heap.size ≤ gb212)); have n3_ := Aside0.mk ((by rw [hg]; exact (below_size (by repeat (first | (with_reducible first | exact HB.out | apply below_alloc | apply pw_below_drewN | apply below_drew1) | exact HB.out))) : w.heap.size ≤ gb212)); clear HB; have HB := n0_; have BK212 := n1_; have GW212 := n2_; have GE212 := n3_; clear n0_ n1_ n2_ n3_; clear hb hbox hg))
  go_loopg [6] k (fun kq v6 w' => ∃ (x6_1 : Int), v6 = .int .i64 x6_1 ∧ Aside0 (boltingref19_Value.l0 kq a1 x6_1 a0_0 a0_1 a0_2 a0_3 l0_4 = some (r1, r2)) ∧ Aside0 (kq ≤ k) ∧ Aside0 (w'.heap[gb212]? = some (.cells #[.int .i64 a0_0, .int .i64 a0_1, .string a0_2, .string a0_3, (.slice A0_4 l0_4.length c0_4)] 34 (0, 0))) ∧ Aside0 (Below w.heap.size w w'))
  case atStart => exact ⟨(0), (by first | rfl | (simp; done) | (simp [*]; done)), H', ⟨Nat.le_refl _⟩, ⟨by (with_reducible repeat (first | refine blk_drewN ?_ _ | refine blk_drew ?_ | refine blk_alloc ?_ _)); exact BK212.out⟩, ⟨by repeat (first | (with_reducible first | exact HB.out | apply below_alloc | apply pw_below_drewN | apply below_drew1 | refine below_set ?_ GE212.out) | exact HB.out)⟩⟩
  case round =>
    clear H'
    try clear c2
    try clear p2
    obtain ⟨x6_1, rfl, HA, HK1, BK212, HB⟩ := hrel
    cases gk with
    | zero => exact absurd HA.out (by simp [boltingref19_Value.l0])
    | succ k1 =>
      have H := HA.out
      clear HA
      simp only [boltingref19_Value.l0] at H
      have HC4 := Aside0.mk H
      clear H
      go_upto_region 2 with (fail)
      go_cut [16] (fun v16 wc => ∃ (kq : Nat) (x16_3 : Bool), v16 = .bool x16_3 ∧ Aside0 (boltingref19_Value.j1 kq a1 x6_1 x16_3 a0_0 a0_1 a0_2 a0_3 l0_4 = some (r1, r2)) ∧ Aside0 (kq ≤ k1) ∧ Aside0 (wc.heap[gb212]? = some (.cells #[.int .i64 a0_0, .int .i64 a0_1, .string a0_2, .string a0_3, (.slice A0_4 l0_4.length c0_4)] 34 (0, 0))) ∧ Aside0 (Below w.heap.size w wc))
      case first =>
        have H := HC4.out
        clear HC4
        by_cases c5 : x6_1 < (l0_4.length : Int)
        · rw [if_pos c5] at H
          have c5b0 : decide (x6_1 < (l0_4.length : Int)) = true := decide_eq_true c5
          clear c5
          (first | rw [c5b0] | (simp only [i64_w, i32_w]; rw [c5b0]) | skip)
          have H' := Aside0.mk H
          clear H
          have hcz6_0 : wr.cell? ⟨gb212, 0, none⟩ = some (.int .i64 a0_0) := (blk_cell BK212.out 0).trans rfl
          have hcz6_1 : wr.cell? ⟨gb212, 1, none⟩ = some (.int .i64 a0_1) := (blk_cell BK212.out 1).trans rfl
          have hcz6_2 : wr.cell? ⟨gb212, 2, none⟩ = some (.string a0_2) := (blk_cell BK212.out 2).trans rfl
          have hcz6_3 : wr.cell? ⟨gb212, 3, none⟩ = some (.string a0_3) := (blk_cell BK212.out 3).trans rfl
          have hcz6_4 : wr.cell? ⟨gb212, 4, none⟩ = some (.slice A0_4 l0_4.length c0_4) := (blk_cell BK212.out 4).trans rfl
          have hfz6_0 := blk_frozen BK212.out 0
          have hfz6_1 := blk_frozen BK212.out 1
          have hfz6_2 := blk_frozen BK212.out 2
          have hfz6_3 := blk_frozen BK212.out 3
          have hfz6_4 := blk_frozen BK212.out 4
          go_wp2
          go_meet
          case rel => exact ⟨_, ((a0_1 == 0)), (by first | rfl | (simp; done) | (simp [*]; done)), H', ⟨by have := HK1.out; first | omega | exact Nat.le_refl _⟩, ⟨by (with_reducible repeat (first | refine blk_drewN ?_ _ | refine blk_drew ?_ | refine blk_alloc ?_ _)); exact BK212.out⟩, ⟨by repeat (first | (with_reducible first | exact HB.out | apply below_alloc | apply pw_below_drewN | apply below_drew1 | refine below_set ?_ GE212.out) | exact HB.out)⟩⟩
        · rw [if_neg c5] at H
          have c5b0 : decide (x6_1 < (l0_4.length : Int)) = false := decide_eq_false c5
          clear c5
          (first | rw [c5b0] | (simp only [i64_w, i32_w]; rw [c5b0]) | skip)
          have H' := Aside0.mk H
          clear H
          have hcz7_0 : wr.cell? ⟨gb212, 0, none⟩ = some (.int .i64 a0_0) := (blk_cell BK212.out 0).trans rfl
          have hcz7_1 : wr.cell? ⟨gb212, 1, none⟩ = some (.int .i64 a0_1) := (blk_cell BK212.out 1).trans rfl
          have hcz7_2 : wr.cell? ⟨gb212, 2, none⟩ = some (.string a0_2) := (blk_cell BK212.out 2).trans rfl
          have hcz7_3 : wr.cell? ⟨gb212, 3, none⟩ = some (.string a0_3) := (blk_cell BK212.out 3).trans rfl
          have hcz7_4 : wr.cell? ⟨gb212, 4, none⟩ = some (.slice A0_4 l0_4.length c0_4) := (blk_cell BK212.out 4).trans rfl
          have hfz7_0 := blk_frozen BK212.out 0
          have hfz7_1 := blk_frozen BK212.out 1
          have hfz7_2 := blk_frozen BK212.out 2
          have hfz7_3 := blk_frozen BK212.out 3
          have hfz7_4 := blk_frozen BK212.out 4
          go_wp2
          go_meet
          case rel => exact ⟨_, (false), (by first | rfl | (simp; done) | (simp [*]; done)), H', ⟨by have := HK1.out; first | omega | exact Nat.le_refl _⟩, ⟨by (with_reducible repeat (first | refine blk_drewN ?_ _ | refine blk_drew ?_ | refine blk_alloc ?_ _)); exact BK212.out⟩, ⟨by repeat (first | (with_reducible first | exact HB.out | apply below_alloc | apply pw_below_drewN | apply below_drew1 | refine below_set ?_ GE212.out) | exact HB.out)⟩⟩
      case rest =>
        clear HC4
        try clear c2
        try clear p2
        try clear c5
        try clear c5b0
        try clear hcz6_0
        try clear hcz6_1
        try clear hcz6_2
        try clear hcz6_3
        try clear hcz6_4
        try clear hcz7_0
        try clear hcz7_1
        try clear hcz7_2
        try clear hcz7_3
        try clear hcz7_4
        try clear hfz6_0
        try clear hfz6_1
        try clear hfz6_2
        try clear hfz6_3
        try clear hfz6_4
        try clear hfz7_0
        try clear hfz7_1
        try clear hfz7_2
        try clear hfz7_3
        try clear hfz7_4
        try clear p2
        obtain ⟨kq, x16_3, rfl, HA, HJ3, BK212, HB⟩ := hcut
        cases kq with
        | zero => exact absurd HA.out (by simp [boltingref19_Value.j1])
        | succ kj3 =>
          have H := HA.out
          clear HA
          simp only [boltingref19_Value.j1] at H
          by_cases c8 : x16_3 = true
          · subst c8
            have H1 : (if 0 ≤ x6_1 then (if x6_1 < (l0_4.length : Int) then (if ((rd_T39 l0_4 x6_1).f0).toList = a1.toList then (some ((rd_T39 l0_4 x6_1).f1, true)) else (boltingref19_Value.l0 kj3 a1 (wrap64 (x6_1 + 1)) a0_0 a0_1 a0_2 a0_3 l0_4)) else (none)) else (none)) = some (r1, r2) := by rw [if_pos rfl] at H; exact H
            clear H
            have H := H1
            clear H1
            by_cases c9 : 0 ≤ x6_1
            · rw [if_pos c9] at H
              have c9b0 : decide (0 ≤ x6_1) = true := decide_eq_true c9
              clear c9
              by_cases c10 : x6_1 < (l0_4.length : Int)
              · rw [if_pos c10] at H
                have c10b0 : decide (x6_1 < (l0_4.length : Int)) = true := decide_eq_true c10
                clear c10
                by_cases c11 : ((rd_T39 l0_4 x6_1).f0).toList = a1.toList
                · rw [if_pos c11] at H
                  have c11b0 : (((rd_T39 l0_4 x6_1).f0).toList == a1.toList) = true := beq_iff_eq.mpr c11
                  have c11b1 : (((rd_T39 l0_4 x6_1).f0).toList != a1.toList) = false := bne_eq_false_iff_eq.mpr c11
                  clear c11
                  simp only [Option.some.injEq, Prod.mk.injEq] at H
                  obtain ⟨rfl, rfl⟩ := H
                  have hcz12_0 : wc.cell? ⟨gb212, 0, none⟩ = some (.int .i64 a0_0) := (blk_cell BK212.out 0).trans rfl
                  have hcz12_1 : wc.cell? ⟨gb212, 1, none⟩ = some (.int .i64 a0_1) := (blk_cell BK212.out 1).trans rfl
                  have hcz12_2 : wc.cell? ⟨gb212, 2, none⟩ = some (.string a0_2) := (blk_cell BK212.out 2).trans rfl
                  have hcz12_3 : wc.cell? ⟨gb212, 3, none⟩ = some (.string a0_3) := (blk_cell BK212.out 3).trans rfl
                  have hcz12_4 : wc.cell? ⟨gb212, 4, none⟩ = some (.slice A0_4 l0_4.length c0_4) := (blk_cell BK212.out 4).trans rfl
                  have hfz12_0 := blk_frozen BK212.out 0
                  have hfz12_1 := blk_frozen BK212.out 1
                  have hfz12_2 := blk_frozen BK212.out 2
                  have hfz12_3 := blk_frozen BK212.out 3
                  have hfz12_4 := blk_frozen BK212.out 4
                  have p213 : 0 ≤ (x6_1 : Int) := of_decide_eq_true (by first | (with_reducible assumption) | assumption)
                  have q213 : x6_1 < (l0_4.length : Int) := of_decide_eq_true (by first | (with_reducible assumption) | assumption)
                  obtain ⟨ad213, e213, hx213_0, hx213_1⟩ := at_T39 HR0_4.out x6_1 p213 q213
                  cases e213
                  replace hx213_0 := (HB.out.cell (World.block_lt_of_cell? w _ hx213_0)).trans hx213_0
                  replace hx213_1 := (HB.out.cell (World.block_lt_of_cell? w _ hx213_1)).trans hx213_1
                  replace p213 := eq_true p213
                  replace q213 := eq_true q213
                  have p214 : 0 ≤ (x6_1 : Int) := of_decide_eq_true (by first | (with_reducible assumption) | assumption)
                  have q214 : x6_1 < (l0_4.length : Int) := of_decide_eq_true (by first | (with_reducible assumption) | assumption)
                  obtain ⟨ad214, e214, hx214_0, hx214_1⟩ := at_T39 HR0_4.out x6_1 p214 q214
                  obtain rfl : ad213 = ad214 := (by injection e214)
                  replace hx214_0 := (HB.out.cell (World.block_lt_of_cell? w _ hx214_0)).trans hx214_0
                  replace hx214_1 := (HB.out.cell (World.block_lt_of_cell? w _ hx214_1)).trans hx214_1
                  replace p214 := eq_true p214
                  replace q214 := eq_true q214
                  go_wp2
                  go_ret2
                  exact ⟨by first | rfl | (simp [errW_none, errW_some] <;> rfl) | (simp [*, errW_none, errW_some] <;> rfl), by repeat (first | (with_reducible first | exact HB.out | apply below_alloc | apply pw_below_drewN | apply below_drew1 | refine below_set ?_ GE212.out) | exact HB.out)⟩
                · rw [if_neg c11] at H
                  have c11b0 : (((rd_T39 l0_4 x6_1).f0).toList == a1.toList) = false := beq_eq_false_iff_ne.mpr c11
                  have c11b1 : (((rd_T39 l0_4 x6_1).f0).toList != a1.toList) = true := bne_iff_ne.mpr c11
                  have H' := Aside0.mk H
                  clear H
                  have hcz13_0 : wc.cell? ⟨gb212, 0, none⟩ = some (.int .i64 a0_0) := (blk_cell BK212.out 0).trans rfl
                  have hcz13_1 : wc.cell? ⟨gb212, 1, none⟩ = some (.int .i64 a0_1) := (blk_cell BK212.out 1).trans rfl
                  have hcz13_2 : wc.cell? ⟨gb212, 2, none⟩ = some (.string a0_2) := (blk_cell BK212.out 2).trans rfl
                  have hcz13_3 : wc.cell? ⟨gb212, 3, none⟩ = some (.string a0_3) := (blk_cell BK212.out 3).trans rfl
                  have hcz13_4 : wc.cell? ⟨gb212, 4, none⟩ = some (.slice A0_4 l0_4.length c0_4) := (blk_cell BK212.out 4).trans rfl
                  have hfz13_0 := blk_frozen BK212.out 0
                  have hfz13_1 := blk_frozen BK212.out 1
                  have hfz13_2 := blk_frozen BK212.out 2
                  have hfz13_3 := blk_frozen BK212.out 3
                  have hfz13_4 := blk_frozen BK212.out 4
                  have p213 : 0 ≤ (x6_1 : Int) := of_decide_eq_true (by first | (with_reducible assumption) | assumption)
                  have q213 : x6_1 < (l0_4.length : Int) := of_decide_eq_true (by first | (with_reducible assumption) | assumption)
                  obtain ⟨ad213, e213, hx213_0, hx213_1⟩ := at_T39 HR0_4.out x6_1 p213 q213
                  cases e213
                  replace hx213_0 := (HB.out.cell (World.block_lt_of_cell? w _ hx213_0)).trans hx213_0
                  replace hx213_1 := (HB.out.cell (World.block_lt_of_cell? w _ hx213_1)).trans hx213_1
                  replace p213 := eq_true p213
                  replace q213 := eq_true q213
                  go_wp2
                  go_roundg kj3
                  case measure => have := HK1.out; have := HJ3.out; omega
                  case rel => exact ⟨(wrap64 (x6_1 + 1)), (by first | rfl | (simp; done) | (simp [*]; done)), H', ⟨by have := HK1.out; have := HJ3.out; omega⟩, ⟨by (with_reducible repeat (first | refine blk_drewN ?_ _ | refine blk_drew ?_ | refine blk_alloc ?_ _)); exact BK212.out⟩, ⟨by repeat (first | (with_reducible first | exact HB.out | apply below_alloc | apply pw_below_drewN | apply below_drew1 | refine below_set ?_ GE212.out) | exact HB.out)⟩⟩
              · rw [if_neg c10] at H
                exact absurd H (by simp)
            · rw [if_neg c9] at H
              exact absurd H (by simp)
          · replace c8 := Bool.eq_false_iff.mpr c8
            subst c8
            have H1 : (some ((⟨#[]⟩ : ByteArray), false)) = some (r1, r2) := by rw [if_neg (show ¬ (false = true) by decide)] at H; exact H
            clear H
            have H := H1
            clear H1
            simp only [Option.some.injEq, Prod.mk.injEq] at H
            obtain ⟨rfl, rfl⟩ := H
            go_wp2
            go_ret2
            exact ⟨by first | rfl | (simp [errW_none, errW_some] <;> rfl) | (simp [*, errW_none, errW_some] <;> rfl), by repeat (first | (with_reducible first | exact HB.out | apply below_alloc | apply pw_below_drewN | apply below_drew1 | refine below_set ?_ GE212.out) | exact HB.out)⟩

end Go.Proofs.Ytakhldahohooiaa.Pr
namespace Go.Proofs.Ytakhldahohooiaa.Pr
open Go.RowKit Go.Proofs.YtakhldahohooiaaW.PrintWords Go.Proofs.YtakhldahohooiaaW.PrintLast Go.Proofs.YtakhldahohooiaaW.PrintMore
attribute [local go_sem] max2_int min2_int max_two min_two max_three min_three max_four min_four   -- for this text's walks alone
set_option linter.unusedVariables false
set_option linter.unusedSimpArgs false

/-! ### boltingref04_End: function 40 -/
mutual
def boltingref04_End.j0 : Nat → List (S34) → Int → Bool → Option (Int)
  | 0, _, _, _ => none
  | k + 1, x0, x1, x13 => if x13 = true then (some 0) else (boltingref04_End.l0 k x0 x1 (wrap64 (x1 + 1)))
def boltingref04_End.l0 : Nat → List (S34) → Int → Int → Option (Int)
  | 0, _, _, _ => none
  | k + 1, x0, x1, x5 => if x5 < (x0.length : Int) then (if 0 ≤ x5 then (if 0 ≤ x1 then (if x1 < (x0.length : Int) then (if ((rd_T34 x0 x5).f0) ≤ ((rd_T34 x0 x1).f0) then (some x5) else (boltingref04_End.l0 k x0 x1 (wrap64 (x5 + 1)))) else (none)) else (none)) else (none)) else (some (x0.length : Int))
end
def boltingref04_End.f (k : Nat) (l0 : List (S34)) (a1 : Int) : Option (Int) := if a1 < 0 then (boltingref04_End.j0 k l0 a1 true) else (boltingref04_End.j0 k l0 a1 (decide (a1 ≥ (l0.length : Int))))
set_option maxHeartbeats 8000000 in
set_option maxRecDepth 100000 in
theorem boltingref04_End.calls (k : Nat) (A0 : Option Addr) (c0 : Nat) (l0 : List (S34)) (a1 : Int) (r : Int) (w : World) (hr0 : Kd.C k34 w A0 l0.length l0) (hc0 : l0.length ≤ c0) (h : boltingref04_End.f k l0 a1 = some r) :
    Calls Try.prog 40 #[.slice A0 l0.length c0, .int .i64 a1] w fun e w' => e = .returned (.int .i64 r) ∧ Drawn0 w w' := by
  have HR0 := Aside0.mk hr0
  have HC0 := Aside0.mk hc0
  clear hr0 hc0
  have H : (if a1 < 0 then (boltingref04_End.j0 k l0 a1 true) else (boltingref04_End.j0 k l0 a1 (decide (a1 ≥ (l0.length : Int))))) = some r := h
  clear h
  have HC3 := Aside0.mk H
  clear H
  go_enter Try.func40, Try.ntmps40
  go_upto_region 1 with (fail)
  repeat (go_quiet (fail); go_upto_region 1 with (fail))
  go_cut [13] (fun v13 wc => ∃ (kq : Nat) (x13_2 : Bool), v13 = .bool x13_2 ∧ Aside0 (boltingref04_End.j0 kq l0 a1 x13_2 = some r) ∧ Aside0 (kq ≤ k) ∧ Drawn0 w wc)
  case first =>
    have H := HC3.out
    clear HC3
    by_cases c4 : a1 < 0
    · rw [if_pos c4] at H
      have c4b0 : decide (a1 < 0) = true := decide_eq_true c4
      clear c4
      (first | rw [c4b0] | (simp only [i64_w, i32_w]; rw [c4b0]) | skip)
      have H' := Aside0.mk H
      clear H
      go_wp2
      repeat (go_quiet (fail); try go_wp2)
      go_meet
      case rel => exact ⟨_, (true), (by first | rfl | (simp; done) | (simp [*]; done)), H', ⟨by first | omega | exact Nat.le_refl _⟩, by repeat (first | exact Drawn0.refl _ | apply Drawn0.step)⟩
    · rw [if_neg c4] at H
      have c4b0 : decide (a1 < 0) = false := decide_eq_false c4
      clear c4
      (first | rw [c4b0] | (simp only [i64_w, i32_w]; rw [c4b0]) | skip)
      have H' := Aside0.mk H
      clear H
      go_wp2
      repeat (go_quiet (fail); try go_wp2)
      go_meet
      case rel => exact ⟨_, (decide (a1 ≥ (l0.length : Int))), (by first | rfl | (simp; done) | (simp [*]; done)), H', ⟨by first | omega | exact Nat.le_refl _⟩, by repeat (first | exact Drawn0.refl _ | apply Drawn0.step)⟩
  case rest =>
    clear HC3
    try clear p2
    try clear c4
    try clear c4b0
    obtain ⟨kq, x13_2, rfl, HA, HJ2, ⟨mc2, rfl⟩⟩ := hcut
    cases kq with
    | zero => exact absurd HA.out (by simp [boltingref04_End.j0])
    | succ kj2 =>
      have H := HA.out
      clear HA
      simp only [boltingref04_End.j0] at H
      by_cases c5 : x13_2 = true
      · subst c5
        have H1 : (some 0) = some r := by rw [if_pos rfl] at H; exact H
        clear H
        have H := H1
        clear H1
        obtain rfl := Option.some.inj H
        go_wp2
        repeat (go_quiet (fail); try go_wp2)
        go_ret
        exact ⟨by first | rfl | (simp; done) | (simp [*]; done) | (simp; generalize ByteArray.toList _ = l_; cases l_ <;> rfl), by repeat (first | exact Drawn0.refl _ | apply Drawn0.step)⟩
      · replace c5 := Bool.eq_false_iff.mpr c5
        subst c5
        have H1 : (boltingref04_End.l0 kj2 l0 a1 (wrap64 (a1 + 1))) = some r := by rw [if_neg (show ¬ (false = true) by decide)] at H; exact H
        clear H
        have H := H1
        clear H1
        have H' := Aside0.mk H
        clear H
        go_wp2
        repeat (go_quiet (fail); try go_wp2)
        go_loopg [5] kj2 (fun kq v5 w' => ∃ (x5_2 : Int), v5 = .int .i64 x5_2 ∧ Aside0 (boltingref04_End.l0 kq l0 a1 x5_2 = some r) ∧ Aside0 (kq ≤ kj2) ∧ Drawn0 w w')
        case atStart => exact ⟨(wrap64 (a1 + 1)), (by first | rfl | (simp; done) | (simp [*]; done)), H', ⟨Nat.le_refl _⟩, by repeat (first | exact Drawn0.refl _ | apply Drawn0.step)⟩
        case round =>
          clear H'
          try clear c2
          try clear p2
          try clear c4
          try clear c4b0
          try clear c5
          try clear p2
          obtain ⟨x5_2, rfl, HA, HK2, ⟨m2, rfl⟩⟩ := hrel
          cases gk with
          | zero => exact absurd HA.out (by simp [boltingref04_End.l0])
          | succ k2 =>
            have H := HA.out
            clear HA
            simp only [boltingref04_End.l0] at H
            by_cases c6 : x5_2 < (l0.length : Int)
            · rw [if_pos c6] at H
              have c6b0 : decide (x5_2 < (l0.length : Int)) = true := decide_eq_true c6
              clear c6
              by_cases c7 : 0 ≤ x5_2
              · rw [if_pos c7] at H
                have c7b0 : decide (0 ≤ x5_2) = true := decide_eq_true c7
                clear c7
                by_cases c8 : 0 ≤ a1
                · rw [if_pos c8] at H
                  have c8b0 : decide (0 ≤ a1) = true := decide_eq_true c8
                  clear c8
                  by_cases c9 : a1 < (l0.length : Int)
                  · rw [if_pos c9] at H
                    have c9b0 : decide (a1 < (l0.length : Int)) = true := decide_eq_true c9
                    clear c9
                    by_cases c10 : ((rd_T34 l0 x5_2).f0) ≤ ((rd_T34 l0 a1).f0)
                    · rw [if_pos c10] at H
                      have c10b0 : decide (((rd_T34 l0 x5_2).f0) ≤ ((rd_T34 l0 a1).f0)) = true := decide_eq_true c10
                      clear c10
                      obtain rfl := Option.some.inj H
                      have p215 : 0 ≤ (x5_2 : Int) := of_decide_eq_true (by first | (with_reducible assumption) | assumption)
                      have q215 : x5_2 < (l0.length : Int) := of_decide_eq_true (by first | (with_reducible assumption) | assumption)
                      obtain ⟨ad215, A215_4, c215_4, e215, hx215_0, hx215_1, hx215_2, hx215_3, hx215_4, hl215_4, hi215_4⟩ := at_T34 HR0.out x5_2 p215 q215
                      cases e215
                      have HR215_4 := Aside0.mk hi215_4
                      have HC215_4 := Aside0.mk hl215_4
                      clear hi215_4 hl215_4
                      replace p215 := eq_true p215
                      replace q215 := eq_true q215
                      have p216 : 0 ≤ (a1 : Int) := of_decide_eq_true (by first | (with_reducible assumption) | assumption)
                      have q216 : a1 < (l0.length : Int) := of_decide_eq_true (by first | (with_reducible assumption) | assumption)
                      obtain ⟨ad216, A216_4, c216_4, e216, hx216_0, hx216_1, hx216_2, hx216_3, hx216_4, hl216_4, hi216_4⟩ := at_T34 HR0.out a1 p216 q216
                      obtain rfl : ad215 = ad216 := (by injection e216)
                      have HR216_4 := Aside0.mk hi216_4
                      have HC216_4 := Aside0.mk hl216_4
                      clear hi216_4 hl216_4
                      replace p216 := eq_true p216
                      replace q216 := eq_true q216
                      go_wp2
                      repeat (go_quiet (fail); try go_wp2)
                      go_ret
                      exact ⟨by first | rfl | (simp; done) | (simp [*]; done) | (simp; generalize ByteArray.toList _ = l_; cases l_ <;> rfl), by repeat (first | exact Drawn0.refl _ | apply Drawn0.step)⟩
                    · rw [if_neg c10] at H
                      have c10b0 : decide (((rd_T34 l0 x5_2).f0) ≤ ((rd_T34 l0 a1).f0)) = false := decide_eq_false c10
                      clear c10
                      have H' := Aside0.mk H
                      clear H
                      have p215 : 0 ≤ (x5_2 : Int) := of_decide_eq_true (by first | (with_reducible assumption) | assumption)
                      have q215 : x5_2 < (l0.length : Int) := of_decide_eq_true (by first | (with_reducible assumption) | assumption)
                      obtain ⟨ad215, A215_4, c215_4, e215, hx215_0, hx215_1, hx215_2, hx215_3, hx215_4, hl215_4, hi215_4⟩ := at_T34 HR0.out x5_2 p215 q215
                      cases e215
                      have HR215_4 := Aside0.mk hi215_4
                      have HC215_4 := Aside0.mk hl215_4
                      clear hi215_4 hl215_4
                      replace p215 := eq_true p215
                      replace q215 := eq_true q215
                      have p216 : 0 ≤ (a1 : Int) := of_decide_eq_true (by first | (with_reducible assumption) | assumption)
                      have q216 : a1 < (l0.length : Int) := of_decide_eq_true (by first | (with_reducible assumption) | assumption)
                      obtain ⟨ad216, A216_4, c216_4, e216, hx216_0, hx216_1, hx216_2, hx216_3, hx216_4, hl216_4, hi216_4⟩ := at_T34 HR0.out a1 p216 q216
                      obtain rfl : ad215 = ad216 := (by injection e216)
                      have HR216_4 := Aside0.mk hi216_4
                      have HC216_4 := Aside0.mk hl216_4
                      clear hi216_4 hl216_4
                      replace p216 := eq_true p216
                      replace q216 := eq_true q216
                      go_wp2
                      repeat (go_quiet (fail); try go_wp2)
                      go_roundg k2
                      case measure => have := HJ2.out; have := HK2.out; omega
                      case rel => exact ⟨(wrap64 (x5_2 + 1)), (by first | rfl | (simp; done) | (simp [*]; done)), H', ⟨by have := HJ2.out; have := HK2.out; omega⟩, by repeat (first | exact Drawn0.refl _ | apply Drawn0.step)⟩
                  · rw [if_neg c9] at H
                    exact absurd H (by simp)
                · rw [if_neg c8] at H
                  exact absurd H (by simp)
              · rw [if_neg c7] at H
                exact absurd H (by simp)
            · rw [if_neg c6] at H
              have c6b0 : decide (x5_2 < (l0.length : Int)) = false := decide_eq_false c6
              clear c6
              obtain rfl := Option.some.inj H
              go_wp2
              repeat (go_quiet (fail); try go_wp2)
              go_ret
              exact ⟨by first | rfl | (simp; done) | (simp [*]; done) | (simp; generalize ByteArray.toList _ = l_; cases l_ <;> rfl), by repeat (first | exact Drawn0.refl _ | apply Drawn0.step)⟩

/-! ### boltingref04_Text: function 27 -/
mutual
def boltingref04_Text.j0 : Nat → List (S34) → Int → ByteArray → Int → Int → Option (ByteArray)
  | 0, _, _, _, _, _ => none
  | k + 1, x0, x1, x5, x6, x7 => boltingref04_Text.l0 k x0 x1 x5 x7 x6
def boltingref04_Text.l0 : Nat → List (S34) → Int → ByteArray → Int → Int → Option (ByteArray)
  | 0, _, _, _, _, _ => none
  | k + 1, x0, x1, x5, x7, x8 => if x8 < x7 then (boltingref04_Text.j2 k x0 x1 x5 x7 x8 (decide (x1 ≥ (-1)))) else (boltingref04_Text.j2 k x0 x1 x5 x7 x8 false)
def boltingref04_Text.j2 : Nat → List (S34) → Int → ByteArray → Int → Int → Bool → Option (ByteArray)
  | 0, _, _, _, _, _, _ => none
  | k + 1, x0, x1, x5, x7, x8, x27 => if x27 = true then (if 0 ≤ x8 then (if x8 < (x0.length : Int) then (if ((rd_T34 x0 x8).f1) = 1 then (if x5.size + ((rd_T34 x0 x8).f3).size ≤ 9223372036854775807 then (boltingref04_Text.l0 k x0 x1 (x5 ++ ((rd_T34 x0 x8).f3)) x7 (wrap64 (x8 + 1))) else (none)) else (boltingref04_Text.l0 k x0 x1 x5 x7 (wrap64 (x8 + 1)))) else (none)) else (none)) else (some x5)
end
def boltingref04_Text.f (k : Nat) (l0 : List (S34)) (a1 : Int) : Option (ByteArray) := if a1 ≥ 0 then ((boltingref04_End.f k l0 a1).bind fun t217 => (boltingref04_Text.j0 k l0 a1 (⟨#[]⟩ : ByteArray) (mn a1 (l0.length : Int)) t217)) else (boltingref04_Text.j0 k l0 a1 (⟨#[]⟩ : ByteArray) 0 (l0.length : Int))
set_option maxHeartbeats 8000000 in
set_option maxRecDepth 100000 in
theorem boltingref04_Text.calls (k : Nat) (A0 : Option Addr) (c0 : Nat) (l0 : List (S34)) (a1 : Int) (r : ByteArray) (w : World) (hr0 : Kd.C k34 w A0 l0.length l0) (hc0 : l0.length ≤ c0) (h : boltingref04_Text.f k l0 a1 = some r) :
    Calls Try.prog 27 #[.slice A0 l0.length c0, .int .i64 a1] w fun e w' => e = .returned (.string r) ∧ Below w.heap.size w w' := by
  have HR0 := Aside0.mk hr0
  have HC0 := Aside0.mk hc0
  clear hr0 hc0
  have HB := Aside0.mk (Below.refl w.heap.size w)
  have H : (if a1 ≥ 0 then ((boltingref04_End.f k l0 a1).bind fun t217 => (boltingref04_Text.j0 k l0 a1 (⟨#[]⟩ : ByteArray) (mn a1 (l0.length : Int)) t217)) else (boltingref04_Text.j0 k l0 a1 (⟨#[]⟩ : ByteArray) 0 (l0.length : Int))) = some r := h
  clear h
  have HC3 := Aside0.mk H
  clear H
  go_enter Try.func27, Try.ntmps27
  go_upto_if 12 with (fail)
  go_cut [6, 7] (fun v6 v7 wc => ∃ (kq : Nat) (x6_2 : Int) (x7_2 : Int), v6 = .int .i64 x6_2 ∧ v7 = .int .i64 x7_2 ∧ Aside0 (boltingref04_Text.j0 kq l0 a1 (⟨#[]⟩ : ByteArray) x6_2 x7_2 = some r) ∧ Aside0 (kq ≤ k) ∧ Aside0 (Below w.heap.size w wc))
  case first =>
    have H := HC3.out
    clear HC3
    by_cases c4 : a1 ≥ 0
    · rw [if_pos c4] at H
      have c4b0 : decide (0 ≤ a1) = true := decide_eq_true c4
      clear c4
      (first | rw [c4b0] | (simp only [i64_w, i32_w]; rw [c4b0]) | skip)
      obtain ⟨ji5, hji5⟩ : ∃ j_ : Int, (mn a1 (l0.length : Int)) = j_ := ⟨_, rfl⟩
      replace H : ((boltingref04_End.f k l0 a1).bind fun t217 => (boltingref04_Text.j0 k l0 a1 (⟨#[]⟩ : ByteArray) ji5 t217)) = some r := by first | (rw [hji5] at H; exact H) | (simp only [hji5] at H ⊢; exact H)
      have hji5_ : (if (l0.length : Int) < a1 then (l0.length : Int) else a1) = ji5 := hji5
      replace H := Option.bind_eq_some_iff.mp H
      obtain ⟨t217, A60, H⟩ := H
      replace H : (boltingref04_Text.j0 k l0 a1 (⟨#[]⟩ : ByteArray) ji5 t217) = some r := H
      have A6 := Aside0.mk A60
      clear A60
      have H' := Aside0.mk H
      clear H
      go_wp2_with (first | ((with_reducible refine gate_callee (f := 40) rfl ?_); refine goesL_ (some 19) rfl rfl Try.func40 (by kernel_rfl) rfl #[.slice A0 l0.length c0, .int .i64 a1] rfl (by (try simp only [List.map_toArray, List.map_cons, List.map_nil]); first | done | rfl | (simp only [List.length_drop, List.length_take]; rfl)) ?_; (with_reducible refine (boltingref04_End.calls k _ _ l0 a1 t217 _ ?side1 ?side2 A6.out).mono ?_); (case side1 => repeat (first | exact (Kd.C_below HR0.out HB.out) | (with_reducible refine Kd.C_alloc ?_ _) | (with_reducible refine Kd.C_drewN ?_ _) | (with_reducible refine Kd.C_drew ?_))); (case side2 => exact HC0.out); rintro e w' ⟨rfl, ⟨nd, rfl⟩⟩; refine ⟨_, rfl, ?_⟩))
      go_meet
      case rel => exact ⟨_, (ji5), (t217), (by first | rfl | (simp; done) | (simp only [← hji5] <;> (first | rfl | simp)) | (simp [*]; done)), (by first | rfl | (simp; done) | (simp [*]; done)), H', ⟨by first | omega | exact Nat.le_refl _⟩, ⟨by repeat (first | (with_reducible first | exact HB.out | apply below_alloc | apply pw_below_drewN | apply below_drew1) | exact HB.out)⟩⟩
    · rw [if_neg c4] at H
      have c4b0 : decide (0 ≤ a1) = false := decide_eq_false c4
      clear c4
      (first | rw [c4b0] | (simp only [i64_w, i32_w]; rw [c4b0]) | skip)
      have H' := Aside0.mk H
      clear H
      go_wp2
      go_meet
      case rel => exact ⟨_, (0), ((l0.length : Int)), (by first | rfl | (simp; done) | (simp [*]; done)), (by first | rfl | (simp; done) | (simp [*]; done)), H', ⟨by first | omega | exact Nat.le_refl _⟩, ⟨by repeat (first | (with_reducible first | exact HB.out | apply below_alloc | apply pw_below_drewN | apply below_drew1) | exact HB.out)⟩⟩
  case rest =>
    clear HC3
    try clear c2
    try clear p2
    try clear c4
    try clear c4b0
    obtain ⟨kq, x6_2, x7_2, rfl, rfl, HA, HJ2, HB⟩ := hcut
    cases kq with
    | zero => exact absurd HA.out (by simp [boltingref04_Text.j0])
    | succ kj2 =>
      have H := HA.out
      clear HA
      simp only [boltingref04_Text.j0] at H
      have H' := Aside0.mk H
      clear H
      go_wp2
      go_loopg [5, 8] kj2 (fun kq v5 v8 w' => ∃ (x5_2 : ByteArray) (x8_2 : Int), v5 = .string x5_2 ∧ v8 = .int .i64 x8_2 ∧ Aside0 (boltingref04_Text.l0 kq l0 a1 x5_2 x7_2 x8_2 = some r) ∧ Aside0 (kq ≤ kj2) ∧ Aside0 (Below w.heap.size w w'))
      case atStart => exact ⟨((⟨#[]⟩ : ByteArray)), (x6_2), (by first | rfl | (simp; done) | (simp [*]; done)), (by first | rfl | (simp; done) | (simp [*]; done)), H', ⟨Nat.le_refl _⟩, ⟨by repeat (first | (with_reducible first | exact HB.out | apply below_alloc | apply pw_below_drewN | apply below_drew1) | exact HB.out)⟩⟩
      case round =>
        clear H'
        try clear c2
        try clear p2
        try clear c4
        try clear c4b0
        try clear p2
        obtain ⟨x5_2, x8_2, rfl, rfl, HA, HK2, HB⟩ := hrel
        cases gk with
        | zero => exact absurd HA.out (by simp [boltingref04_Text.l0])
        | succ k2 =>
          have H := HA.out
          clear HA
          simp only [boltingref04_Text.l0] at H
          have HC7 := Aside0.mk H
          clear H
          go_upto_region 6 with (fail)
          go_cut [27] (fun v27 wc => ∃ (kq : Nat) (x27_6 : Bool), v27 = .bool x27_6 ∧ Aside0 (boltingref04_Text.j2 kq l0 a1 x5_2 x7_2 x8_2 x27_6 = some r) ∧ Aside0 (kq ≤ k2) ∧ Aside0 (Below w.heap.size w wc))
          case first =>
            have H := HC7.out
            clear HC7
            by_cases c8 : x8_2 < x7_2
            · rw [if_pos c8] at H
              have c8b0 : decide (x8_2 < x7_2) = true := decide_eq_true c8
              clear c8
              (first | rw [c8b0] | (simp only [i64_w, i32_w]; rw [c8b0]) | skip)
              have H' := Aside0.mk H
              clear H
              go_wp2
              go_meet
              case rel => exact ⟨_, (decide (a1 ≥ (-1))), (by first | rfl | (simp; done) | (simp [*]; done)), H', ⟨by have := HJ2.out; have := HK2.out; first | omega | exact Nat.le_refl _⟩, ⟨by repeat (first | (with_reducible first | exact HB.out | apply below_alloc | apply pw_below_drewN | apply below_drew1) | exact HB.out)⟩⟩
            · rw [if_neg c8] at H
              have c8b0 : decide (x8_2 < x7_2) = false := decide_eq_false c8
              clear c8
              (first | rw [c8b0] | (simp only [i64_w, i32_w]; rw [c8b0]) | skip)
              have H' := Aside0.mk H
              clear H
              go_wp2
              go_meet
              case rel => exact ⟨_, (false), (by first | rfl | (simp; done) | (simp [*]; done)), H', ⟨by have := HJ2.out; have := HK2.out; first | omega | exact Nat.le_refl _⟩, ⟨by repeat (first | (with_reducible first | exact HB.out | apply below_alloc | apply pw_below_drewN | apply below_drew1) | exact HB.out)⟩⟩
          case rest =>
            clear HC7
            try clear c2
            try clear p2
            try clear c4
            try clear c4b0
            try clear c8
            try clear c8b0
            try clear p2
            obtain ⟨kq, x27_6, rfl, HA, HJ6, HB⟩ := hcut
            cases kq with
            | zero => exact absurd HA.out (by simp [boltingref04_Text.j2])
            | succ kj6 =>
              have H := HA.out
              clear HA
              simp only [boltingref04_Text.j2] at H
              by_cases c9 : x27_6 = true
              · subst c9
                have H1 : (if 0 ≤ x8_2 then (if x8_2 < (l0.length : Int) then (if ((rd_T34 l0 x8_2).f1) = 1 then (if x5_2.size + ((rd_T34 l0 x8_2).f3).size ≤ 9223372036854775807 then (boltingref04_Text.l0 kj6 l0 a1 (x5_2 ++ ((rd_T34 l0 x8_2).f3)) x7_2 (wrap64 (x8_2 + 1))) else (none)) else (boltingref04_Text.l0 kj6 l0 a1 x5_2 x7_2 (wrap64 (x8_2 + 1)))) else (none)) else (none)) = some r := by rw [if_pos rfl] at H; exact H
                clear H
                have H := H1
                clear H1
                by_cases c10 : 0 ≤ x8_2
                · rw [if_pos c10] at H
                  have c10b0 : decide (0 ≤ x8_2) = true := decide_eq_true c10
                  clear c10
                  by_cases c11 : x8_2 < (l0.length : Int)
                  · rw [if_pos c11] at H
                    have c11b0 : decide (x8_2 < (l0.length : Int)) = true := decide_eq_true c11
                    clear c11
                    by_cases c12 : ((rd_T34 l0 x8_2).f1) = 1
                    · rw [if_pos c12] at H
                      have c12b0 : (((rd_T34 l0 x8_2).f1) == 1) = true := beq_iff_eq.mpr c12
                      have c12b1 : (((rd_T34 l0 x8_2).f1) != 1) = false := bne_eq_false_iff_eq.mpr c12
                      clear c12
                      by_cases c13 : x5_2.size + ((rd_T34 l0 x8_2).f3).size ≤ 9223372036854775807
                      · rw [if_pos c13] at H
                        have c13b0 := eq_true c13
                        have c13b1 : decide (x5_2.size + ((rd_T34 l0 x8_2).f3).size ≤ 9223372036854775807) = true := decide_eq_true c13
                        try have c13b2 : (9223372036854775807 < x5_2.size + ((rd_T34 l0 x8_2).f3).size) = False := eq_false (Nat.not_lt.2 c13)
                        have H' := Aside0.mk H
                        clear H
                        have p218 : 0 ≤ (x8_2 : Int) := of_decide_eq_true (by first | (with_reducible assumption) | assumption)
                        have q218 : x8_2 < (l0.length : Int) := of_decide_eq_true (by first | (with_reducible assumption) | assumption)
                        obtain ⟨ad218, A218_4, c218_4, e218, hx218_0, hx218_1, hx218_2, hx218_3, hx218_4, hl218_4, hi218_4⟩ := at_T34 HR0.out x8_2 p218 q218
                        cases e218
                        replace hx218_0 := (HB.out.cell (World.block_lt_of_cell? w _ hx218_0)).trans hx218_0
                        replace hx218_1 := (HB.out.cell (World.block_lt_of_cell? w _ hx218_1)).trans hx218_1
                        replace hx218_2 := (HB.out.cell (World.block_lt_of_cell? w _ hx218_2)).trans hx218_2
                        replace hx218_3 := (HB.out.cell (World.block_lt_of_cell? w _ hx218_3)).trans hx218_3
                        replace hx218_4 := (HB.out.cell (World.block_lt_of_cell? w _ hx218_4)).trans hx218_4
                        have HR218_4 := Aside0.mk hi218_4
                        have HC218_4 := Aside0.mk hl218_4
                        clear hi218_4 hl218_4
                        replace p218 := eq_true p218
                        replace q218 := eq_true q218
                        have p219 : 0 ≤ (x8_2 : Int) := of_decide_eq_true (by first | (with_reducible assumption) | assumption)
                        have q219 : x8_2 < (l0.length : Int) := of_decide_eq_true (by first | (with_reducible assumption) | assumption)
                        obtain ⟨ad219, A219_4, c219_4, e219, hx219_0, hx219_1, hx219_2, hx219_3, hx219_4, hl219_4, hi219_4⟩ := at_T34 HR0.out x8_2 p219 q219
                        obtain rfl : ad218 = ad219 := (by injection e219)
                        replace hx219_0 := (HB.out.cell (World.block_lt_of_cell? w _ hx219_0)).trans hx219_0
                        replace hx219_1 := (HB.out.cell (World.block_lt_of_cell? w _ hx219_1)).trans hx219_1
                        replace hx219_2 := (HB.out.cell (World.block_lt_of_cell? w _ hx219_2)).trans hx219_2
                        replace hx219_3 := (HB.out.cell (World.block_lt_of_cell? w _ hx219_3)).trans hx219_3
                        replace hx219_4 := (HB.out.cell (World.block_lt_of_cell? w _ hx219_4)).trans hx219_4
                        have HR219_4 := Aside0.mk hi219_4
                        have HC219_4 := Aside0.mk hl219_4
                        clear hi219_4 hl219_4
                        replace p219 := eq_true p219
                        replace q219 := eq_true q219
                        have ea_ := Option.some.inj (hx218_4.symm.trans hx219_4)
                        injection ea_ with ea_ en_ ec_
                        subst ea_
                        subst ec_
                        clear en_
                        go_wp2
                        go_roundg kj6
                        case measure => have := HJ2.out; have := HK2.out; have := HJ6.out; omega
                        case rel => exact ⟨(x5_2 ++ ((rd_T34 l0 x8_2).f3)), (wrap64 (x8_2 + 1)), (by first | rfl | (simp; done) | (simp [*]; done)), (by first | rfl | (simp; done) | (simp [*]; done)), H', ⟨by have := HJ2.out; have := HK2.out; have := HJ6.out; omega⟩, ⟨by repeat (first | (with_reducible first | exact HB.out | apply below_alloc | apply pw_below_drewN | apply below_drew1) | exact HB.out)⟩⟩
                      · rw [if_neg c13] at H
                        exact absurd H (by simp)
                    · rw [if_neg c12] at H
                      have c12b0 : (((rd_T34 l0 x8_2).f1) == 1) = false := beq_eq_false_iff_ne.mpr c12
                      have c12b1 : (((rd_T34 l0 x8_2).f1) != 1) = true := bne_iff_ne.mpr c12
                      have H' := Aside0.mk H
                      clear H
                      have p218 : 0 ≤ (x8_2 : Int) := of_decide_eq_true (by first | (with_reducible assumption) | assumption)
                      have q218 : x8_2 < (l0.length : Int) := of_decide_eq_true (by first | (with_reducible assumption) | assumption)
                      obtain ⟨ad218, A218_4, c218_4, e218, hx218_0, hx218_1, hx218_2, hx218_3, hx218_4, hl218_4, hi218_4⟩ := at_T34 HR0.out x8_2 p218 q218
                      cases e218
                      replace hx218_0 := (HB.out.cell (World.block_lt_of_cell? w _ hx218_0)).trans hx218_0
                      replace hx218_1 := (HB.out.cell (World.block_lt_of_cell? w _ hx218_1)).trans hx218_1
                      replace hx218_2 := (HB.out.cell (World.block_lt_of_cell? w _ hx218_2)).trans hx218_2
                      replace hx218_3 := (HB.out.cell (World.block_lt_of_cell? w _ hx218_3)).trans hx218_3
                      replace hx218_4 := (HB.out.cell (World.block_lt_of_cell? w _ hx218_4)).trans hx218_4
                      have HR218_4 := Aside0.mk hi218_4
                      have HC218_4 := Aside0.mk hl218_4
                      clear hi218_4 hl218_4
                      replace p218 := eq_true p218
                      replace q218 := eq_true q218
                      go_wp2
                      go_roundg kj6
                      case measure => have := HJ2.out; have := HK2.out; have := HJ6.out; omega
                      case rel => exact ⟨(x5_2), (wrap64 (x8_2 + 1)), (by first | rfl | (simp; done) | (simp [*]; done)), (by first | rfl | (simp; done) | (simp [*]; done)), H', ⟨by have := HJ2.out; have := HK2.out; have := HJ6.out; omega⟩, ⟨by repeat (first | (with_reducible first | exact HB.out | apply below_alloc | apply pw_below_drewN | apply below_drew1) | exact HB.out)⟩⟩
                  · rw [if_neg c11] at H
                    exact absurd H (by simp)
                · rw [if_neg c10] at H
                  exact absurd H (by simp)
              · replace c9 := Bool.eq_false_iff.mpr c9
                subst c9
                have H1 : (some x5_2) = some r := by rw [if_neg (show ¬ (false = true) by decide)] at H; exact H
                clear H
                have H := H1
                clear H1
                obtain rfl := Option.some.inj H
                go_wp2
                go_ret
                exact ⟨by first | rfl | (simp [errW_none, errW_some] <;> rfl) | (simp [*, errW_none, errW_some] <;> rfl), by repeat (first | (with_reducible first | exact HB.out | apply below_alloc | apply pw_below_drewN | apply below_drew1) | exact HB.out)⟩

end Go.Proofs.Ytakhldahohooiaa.Pr
namespace Go.Proofs.Ytakhldahohooiaa.Pr
open Go.RowKit Go.Proofs.YtakhldahohooiaaW.PrintWords Go.Proofs.YtakhldahohooiaaW.PrintLast Go.Proofs.YtakhldahohooiaaW.PrintMore
attribute [local go_sem] max2_int min2_int max_two min_two max_three min_three max_four min_four   -- for this text's walks alone
set_option linter.unusedVariables false
set_option linter.unusedSimpArgs false

/-! ### boltingref19_Scripts: function 12 -/
mutual
def boltingref19_Scripts.l0 : Nat → List (S34) → List (S30) → Int → Option ((List (S30)))
  | 0, _, _, _ => none
  | k + 1, x0, x3, x4 => if x4 < (x0.length : Int) then (if 0 ≤ x4 then (if ((rd_T34 x0 x4).f1) = 0 then (if ((rd_T34 x0 x4).f2).toList = ([115, 99, 114, 105, 112, 116] : List UInt8) then ((boltingref19_inert.f k x0 x4).bind fun t225 => (boltingref19_Scripts.j1 k x0 x3 x4 t225)) else (boltingref19_Scripts.j1 k x0 x3 x4 true)) else (boltingref19_Scripts.j1 k x0 x3 x4 true)) else (none)) else (some x3)
def boltingref19_Scripts.j1 : Nat → List (S34) → List (S30) → Int → Bool → Option ((List (S30)))
  | 0, _, _, _, _ => none
  | k + 1, x0, x3, x4, x33 => if x33 = true then (boltingref19_Scripts.l0 k x0 x3 (wrap64 (x4 + 1))) else (if 0 ≤ x4 then (if x4 < (x0.length : Int) then ((boltingref19_Value.f k ((rd_T34 x0 x4).f0) ((rd_T34 x0 x4).f1) ((rd_T34 x0 x4).f2) ((rd_T34 x0 x4).f3) ((rd_T34 x0 x4).f4) (⟨#[115, 114, 99]⟩ : ByteArray)).bind fun bt227 => ((boltingref04_Text.f k x0 x4).bind fun t229 => (if bt227.2 = true then (if x3.length < 4398046511104 then (boltingref19_Scripts.l0 k x0 (x3 ++ [(⟨x4, 3, bt227.1⟩ : S30)]) (wrap64 (x4 + 1))) else (none)) else (if t229.toList = ([] : List UInt8) then (boltingref19_Scripts.l0 k x0 x3 (wrap64 (x4 + 1))) else (if x3.length < 4398046511104 then (boltingref19_Scripts.l0 k x0 (x3 ++ [(⟨x4, 2, t229⟩ : S30)]) (wrap64 (x4 + 1))) else (none)))))) else (none)) else (none))
end
def boltingref19_Scripts.f (k : Nat) (l0 : List (S34)) : Option ((List (S30))) := boltingref19_Scripts.l0 k l0 (([] : List (S30))) 0
set_option maxHeartbeats 8000000 in
set_option maxRecDepth 100000 in
theorem boltingref19_Scripts.calls (k : Nat) (A0 : Option Addr) (c0 : Nat) (l0 : List (S34)) (r : List (S30)) (w : World) (hr0 : Kd.C k34 w A0 l0.length l0) (hc0 : l0.length ≤ c0) (h : boltingref19_Scripts.f k l0 = some r) :
    Calls Try.prog 12 #[.slice A0 l0.length c0] w fun e w' => ∃ v0_ : Value, e = .returned (v0_) ∧ Kd.R k30 30 w' w.heap.size (fun _ => True) v0_ r ∧ Below w.heap.size w w' := by
  have hu34 := Try.underlying34
  have hu30 := Try.underlying30
  have HR0 := Aside0.mk hr0
  have HC0 := Aside0.mk hc0
  clear hr0 hc0
  have HB := Aside0.mk (Below.refl w.heap.size w)
  have H : (boltingref19_Scripts.l0 k l0 (([] : List (S30))) 0) = some r := h
  clear h
  obtain ⟨y220, hy220⟩ : ∃ y_ : List (S30), y_ = (([] : List (S30))) := ⟨_, rfl⟩
  replace H : (boltingref19_Scripts.l0 k l0 y220 0) = some r := by first | (rw [hy220]; with_reducible exact H) | (have H2_ := (Option.bind_some _ _).symm.trans H; rw [hy220]; with_reducible exact H2_) | (have H2_ := (Option.bind_some _ _).symm.trans H; with_reducible exact H2_) | with_reducible exact H | (rw [hy220]; exact H) | exact H
  have Ny220 := Aside0.mk hy220
  clear hy220
  have H' := Aside0.mk H
  clear H
  go_enter Try.func12, Try.ntmps12
  go_wp2_with (first | ((with_reducible refine gate_dst (N := 8) rfl ?_); refine Kd.R_lit k30 _ 30 ?hg (N := 8) ?hd (xs := ([] : List (S30))) (inner := []) (ok := fun _ => True) (okp := fun _ => True) ?hr ?hp (fun _ hk => hk) trivial (Below.refl _ _) (Nat.le_refl _) (by simp) ?_; (case hd => rfl); (case hg => rfl); (case hr => first | (go_simp; done) | (go_simp; rfl)); (case hp => exact (Reps.none _ _)); intro v221 w2 ho3 hb hg_ hnew_; clear hg_ hnew_; (first | rw [← Ny220.out] at ho3 | (simp only [Int.reduceToNat] at ho3; rw [← Ny220.out] at ho3)); have n0_ := Aside0.mk (Kd.R_lower ho3 (below_size (by repeat (first | (with_reducible first | exact HB.out | apply below_alloc | apply pw_below_drewN | apply below_drew1) | exact HB.out)))); have n1_ := Aside0.mk (below_step (by repeat (first | (with_reducible first | exact HB.out | apply below_alloc | apply pw_below_drewN | apply below_drew1) | exact HB.out)) hb); clear HB; have HO222 := n0_; have HB := n1_; clear n0_ n1_; clear hb ho3))
  go_loopg [3, 4] k (fun kq v3 v4 w' => ∃ (x3_1 : List (S30)) (x4_1 : Int), v4 = .int .i64 x4_1 ∧ Aside0 (boltingref19_Scripts.l0 kq l0 x3_1 x4_1 = some r) ∧ Aside0 (kq ≤ k) ∧ Aside0 (Kd.R k30 30 w' w.heap.size (fun _ => True) v3 x3_1) ∧ Aside0 (Below w.heap.size w w'))
  case atStart => exact ⟨(y220), (0), (by first | rfl | (simp; done) | (simp [*]; done)), H', ⟨Nat.le_refl _⟩, ⟨by (with_reducible repeat (first | apply Kd.R_alloc | apply Kd.R_drewN | apply Kd.R_drew)); exact HO222.out⟩, ⟨by repeat (first | (with_reducible first | exact HB.out | apply below_alloc | apply pw_below_drewN | apply below_drew1) | exact HB.out)⟩⟩
  case round =>
    clear H'
    try clear c1
    try clear p2
    obtain ⟨x3_1, x4_1, rfl, HA, HK1, HO_3, HB⟩ := hrel
    cases gk with
    | zero => exact absurd HA.out (by simp [boltingref19_Scripts.l0])
    | succ k1 =>
      have H := HA.out
      clear HA
      simp only [boltingref19_Scripts.l0] at H
      by_cases c4 : x4_1 < (l0.length : Int)
      · rw [if_pos c4] at H
        have c4b0 : decide (x4_1 < (l0.length : Int)) = true := decide_eq_true c4
        clear c4
        have HC5 := Aside0.mk H
        clear H
        go_upto_region 5 with (fail)
        go_cut [33] (fun v33 wc => ∃ (kq : Nat) (x33_4 : Bool), v33 = .bool x33_4 ∧ Aside0 (boltingref19_Scripts.j1 kq l0 x3_1 x4_1 x33_4 = some r) ∧ Aside0 (kq ≤ k1) ∧ Aside0 (Kd.R k30 30 wc w.heap.size (fun _ => True) u3 x3_1) ∧ Aside0 (Below w.heap.size w wc))
        case first =>
          have H := HC5.out
          clear HC5
          by_cases c6 : 0 ≤ x4_1
          · rw [if_pos c6] at H
            have c6b0 : decide (0 ≤ x4_1) = true := decide_eq_true c6
            clear c6
            (first | rw [c6b0] | (simp only [i64_w, i32_w]; rw [c6b0]) | skip)
            by_cases c7 : ((rd_T34 l0 x4_1).f1) = 0
            · rw [if_pos c7] at H
              have c7b0 : (((rd_T34 l0 x4_1).f1) == 0) = true := beq_iff_eq.mpr c7
              have c7b1 : (((rd_T34 l0 x4_1).f1) != 0) = false := bne_eq_false_iff_eq.mpr c7
              clear c7
              by_cases c8 : ((rd_T34 l0 x4_1).f2).toList = ([115, 99, 114, 105, 112, 116] : List UInt8)
              · rw [if_pos c8] at H
                have c8b0 : (((rd_T34 l0 x4_1).f2).toList == ([115, 99, 114, 105, 112, 116] : List UInt8)) = true := beq_iff_eq.mpr c8
                have c8b1 : (((rd_T34 l0 x4_1).f2).toList != ([115, 99, 114, 105, 112, 116] : List UInt8)) = false := bne_eq_false_iff_eq.mpr c8
                clear c8
                replace H := Option.bind_eq_some_iff.mp H
                obtain ⟨t225, A90, H⟩ := H
                replace H : (boltingref19_Scripts.j1 k1 l0 x3_1 x4_1 t225) = some r := H
                have A9 := Aside0.mk A90
                clear A90
                have H' := Aside0.mk H
                clear H
                have p223 : 0 ≤ (x4_1 : Int) := of_decide_eq_true (by first | (with_reducible assumption) | assumption)
                have q223 : x4_1 < (l0.length : Int) := of_decide_eq_true (by first | (with_reducible assumption) | assumption)
                obtain ⟨ad223, A223_4, c223_4, e223, hx223_0, hx223_1, hx223_2, hx223_3, hx223_4, hl223_4, hi223_4⟩ := at_T34 HR0.out x4_1 p223 q223
                cases e223
                replace hx223_0 := (HB.out.cell (World.block_lt_of_cell? w _ hx223_0)).trans hx223_0
                replace hx223_1 := (HB.out.cell (World.block_lt_of_cell? w _ hx223_1)).trans hx223_1
                replace hx223_2 := (HB.out.cell (World.block_lt_of_cell? w _ hx223_2)).trans hx223_2
                replace hx223_3 := (HB.out.cell (World.block_lt_of_cell? w _ hx223_3)).trans hx223_3
                replace hx223_4 := (HB.out.cell (World.block_lt_of_cell? w _ hx223_4)).trans hx223_4
                have HR223_4 := Aside0.mk hi223_4
                have HC223_4 := Aside0.mk hl223_4
                clear hi223_4 hl223_4
                replace p223 := eq_true p223
                replace q223 := eq_true q223
                have p224 : 0 ≤ (x4_1 : Int) := of_decide_eq_true (by first | (with_reducible assumption) | assumption)
                have q224 : x4_1 < (l0.length : Int) := of_decide_eq_true (by first | (with_reducible assumption) | assumption)
                obtain ⟨ad224, A224_4, c224_4, e224, hx224_0, hx224_1, hx224_2, hx224_3, hx224_4, hl224_4, hi224_4⟩ := at_T34 HR0.out x4_1 p224 q224
                obtain rfl : ad223 = ad224 := (by injection e224)
                replace hx224_0 := (HB.out.cell (World.block_lt_of_cell? w _ hx224_0)).trans hx224_0
                replace hx224_1 := (HB.out.cell (World.block_lt_of_cell? w _ hx224_1)).trans hx224_1
                replace hx224_2 := (HB.out.cell (World.block_lt_of_cell? w _ hx224_2)).trans hx224_2
                replace hx224_3 := (HB.out.cell (World.block_lt_of_cell? w _ hx224_3)).trans hx224_3
                replace hx224_4 := (HB.out.cell (World.block_lt_of_cell? w _ hx224_4)).trans hx224_4
                have HR224_4 := Aside0.mk hi224_4
                have HC224_4 := Aside0.mk hl224_4
                clear hi224_4 hl224_4
                replace p224 := eq_true p224
                replace q224 := eq_true q224
                have ea_ := Option.some.inj (hx223_4.symm.trans hx224_4)
                injection ea_ with ea_ en_ ec_
                subst ea_
                subst ec_
                clear en_
                go_wp2_with (first | (go_at_call 25; (with_reducible refine (boltingref19_inert.calls k1 _ _ l0 x4_1 t225 _ ?side1 ?side2 A9.out).mono ?_); (case side1 => repeat (first | exact (Kd.C_below HR0.out HB.out) | (with_reducible refine Kd.C_alloc ?_ _) | (with_reducible refine Kd.C_drewN ?_ _) | (with_reducible refine Kd.C_drew ?_))); (case side2 => exact HC0.out); rintro e w' ⟨rfl, ⟨nd, rfl⟩⟩))
                go_meet
                case rel => exact ⟨_, (t225), (by first | rfl | (simp; done) | (simp [*]; done)), H', ⟨by have := HK1.out; first | omega | exact Nat.le_refl _⟩, ⟨by (with_reducible repeat (first | apply Kd.R_alloc | apply Kd.R_drewN | apply Kd.R_drew)); exact HO_3.out⟩, ⟨by repeat (first | (with_reducible first | exact HB.out | apply below_alloc | apply pw_below_drewN | apply below_drew1) | exact HB.out)⟩⟩
              · rw [if_neg c8] at H
                have c8b0 : (((rd_T34 l0 x4_1).f2).toList == ([115, 99, 114, 105, 112, 116] : List UInt8)) = false := beq_eq_false_iff_ne.mpr c8
                have c8b1 : (((rd_T34 l0 x4_1).f2).toList != ([115, 99, 114, 105, 112, 116] : List UInt8)) = true := bne_iff_ne.mpr c8
                have H' := Aside0.mk H
                clear H
                have p223 : 0 ≤ (x4_1 : Int) := of_decide_eq_true (by first | (with_reducible assumption) | assumption)
                have q223 : x4_1 < (l0.length : Int) := of_decide_eq_true (by first | (with_reducible assumption) | assumption)
                obtain ⟨ad223, A223_4, c223_4, e223, hx223_0, hx223_1, hx223_2, hx223_3, hx223_4, hl223_4, hi223_4⟩ := at_T34 HR0.out x4_1 p223 q223
                cases e223
                replace hx223_0 := (HB.out.cell (World.block_lt_of_cell? w _ hx223_0)).trans hx223_0
                replace hx223_1 := (HB.out.cell (World.block_lt_of_cell? w _ hx223_1)).trans hx223_1
                replace hx223_2 := (HB.out.cell (World.block_lt_of_cell? w _ hx223_2)).trans hx223_2
                replace hx223_3 := (HB.out.cell (World.block_lt_of_cell? w _ hx223_3)).trans hx223_3
                replace hx223_4 := (HB.out.cell (World.block_lt_of_cell? w _ hx223_4)).trans hx223_4
                have HR223_4 := Aside0.mk hi223_4
                have HC223_4 := Aside0.mk hl223_4
                clear hi223_4 hl223_4
                replace p223 := eq_true p223
                replace q223 := eq_true q223
                have p224 : 0 ≤ (x4_1 : Int) := of_decide_eq_true (by first | (with_reducible assumption) | assumption)
                have q224 : x4_1 < (l0.length : Int) := of_decide_eq_true (by first | (with_reducible assumption) | assumption)
                obtain ⟨ad224, A224_4, c224_4, e224, hx224_0, hx224_1, hx224_2, hx224_3, hx224_4, hl224_4, hi224_4⟩ := at_T34 HR0.out x4_1 p224 q224
                obtain rfl : ad223 = ad224 := (by injection e224)
                replace hx224_0 := (HB.out.cell (World.block_lt_of_cell? w _ hx224_0)).trans hx224_0
                replace hx224_1 := (HB.out.cell (World.block_lt_of_cell? w _ hx224_1)).trans hx224_1
                replace hx224_2 := (HB.out.cell (World.block_lt_of_cell? w _ hx224_2)).trans hx224_2
                replace hx224_3 := (HB.out.cell (World.block_lt_of_cell? w _ hx224_3)).trans hx224_3
                replace hx224_4 := (HB.out.cell (World.block_lt_of_cell? w _ hx224_4)).trans hx224_4
                have HR224_4 := Aside0.mk hi224_4
                have HC224_4 := Aside0.mk hl224_4
                clear hi224_4 hl224_4
                replace p224 := eq_true p224
                replace q224 := eq_true q224
                have ea_ := Option.some.inj (hx223_4.symm.trans hx224_4)
                injection ea_ with ea_ en_ ec_
                subst ea_
                subst ec_
                clear en_
                go_wp2
                go_meet
                case rel => exact ⟨_, (true), (by first | rfl | (simp; done) | (simp [*]; done)), H', ⟨by have := HK1.out; first | omega | exact Nat.le_refl _⟩, ⟨by (with_reducible repeat (first | apply Kd.R_alloc | apply Kd.R_drewN | apply Kd.R_drew)); exact HO_3.out⟩, ⟨by repeat (first | (with_reducible first | exact HB.out | apply below_alloc | apply pw_below_drewN | apply below_drew1) | exact HB.out)⟩⟩
            · rw [if_neg c7] at H
              have c7b0 : (((rd_T34 l0 x4_1).f1) == 0) = false := beq_eq_false_iff_ne.mpr c7
              have c7b1 : (((rd_T34 l0 x4_1).f1) != 0) = true := bne_iff_ne.mpr c7
              have H' := Aside0.mk H
              clear H
              have p223 : 0 ≤ (x4_1 : Int) := of_decide_eq_true (by first | (with_reducible assumption) | assumption)
              have q223 : x4_1 < (l0.length : Int) := of_decide_eq_true (by first | (with_reducible assumption) | assumption)
              obtain ⟨ad223, A223_4, c223_4, e223, hx223_0, hx223_1, hx223_2, hx223_3, hx223_4, hl223_4, hi223_4⟩ := at_T34 HR0.out x4_1 p223 q223
              cases e223
              replace hx223_0 := (HB.out.cell (World.block_lt_of_cell? w _ hx223_0)).trans hx223_0
              replace hx223_1 := (HB.out.cell (World.block_lt_of_cell? w _ hx223_1)).trans hx223_1
              replace hx223_2 := (HB.out.cell (World.block_lt_of_cell? w _ hx223_2)).trans hx223_2
              replace hx223_3 := (HB.out.cell (World.block_lt_of_cell? w _ hx223_3)).trans hx223_3
              replace hx223_4 := (HB.out.cell (World.block_lt_of_cell? w _ hx223_4)).trans hx223_4
              have HR223_4 := Aside0.mk hi223_4
              have HC223_4 := Aside0.mk hl223_4
              clear hi223_4 hl223_4
              replace p223 := eq_true p223
              replace q223 := eq_true q223
              go_wp2
              go_meet
              case rel => exact ⟨_, (true), (by first | rfl | (simp; done) | (simp [*]; done)), H', ⟨by have := HK1.out; first | omega | exact Nat.le_refl _⟩, ⟨by (with_reducible repeat (first | apply Kd.R_alloc | apply Kd.R_drewN | apply Kd.R_drew)); exact HO_3.out⟩, ⟨by repeat (first | (with_reducible first | exact HB.out | apply below_alloc | apply pw_below_drewN | apply below_drew1) | exact HB.out)⟩⟩
          · rw [if_neg c6] at H
            exact absurd H (by simp)
        case rest =>
          clear HC5
          try clear c1
          try clear c2
          try clear p2
          try clear q2
          try clear hx2
          try clear c4
          try clear c4b0
          try clear c6
          try clear c6b0
          try clear c7
          try clear c7b0
          try clear c7b1
          try clear c8
          try clear c8b0
          try clear c8b1
          try clear hx223_0
          try clear hx223_1
          try clear hx223_2
          try clear hx223_3
          try clear hx223_4
          try clear hx224_0
          try clear hx224_1
          try clear hx224_2
          try clear hx224_3
          try clear hx224_4
          try clear p2
          try clear p223
          try clear p224
          try clear q223
          try clear q224
          obtain ⟨kq, x33_4, rfl, HA, HJ4, HO_3, HB⟩ := hcut
          cases kq with
          | zero => exact absurd HA.out (by simp [boltingref19_Scripts.j1])
          | succ kj4 =>
            have H := HA.out
            clear HA
            simp only [boltingref19_Scripts.j1] at H
            by_cases c10 : x33_4 = true
            · subst c10
              have H1 : (boltingref19_Scripts.l0 kj4 l0 x3_1 (wrap64 (x4_1 + 1))) = some r := by rw [if_pos rfl] at H; exact H
              clear H
              have H := H1
              clear H1
              have H' := Aside0.mk H
              clear H
              go_wp2
              go_roundg kj4
              case measure => have := HK1.out; have := HJ4.out; omega
              case rel => exact ⟨(x3_1), (wrap64 (x4_1 + 1)), (by first | rfl | (simp; done) | (simp [*]; done)), H', ⟨by have := HK1.out; have := HJ4.out; omega⟩, ⟨by (with_reducible repeat (first | apply Kd.R_alloc | apply Kd.R_drewN | apply Kd.R_drew)); exact HO_3.out⟩, ⟨by repeat (first | (with_reducible first | exact HB.out | apply below_alloc | apply pw_below_drewN | apply below_drew1) | exact HB.out)⟩⟩
            · replace c10 := Bool.eq_false_iff.mpr c10
              subst c10
              have H1 : (if 0 ≤ x4_1 then (if x4_1 < (l0.length : Int) then ((boltingref19_Value.f kj4 ((rd_T34 l0 x4_1).f0) ((rd_T34 l0 x4_1).f1) ((rd_T34 l0 x4_1).f2) ((rd_T34 l0 x4_1).f3) ((rd_T34 l0 x4_1).f4) (⟨#[115, 114, 99]⟩ : ByteArray)).bind fun bt227 => ((boltingref04_Text.f kj4 l0 x4_1).bind fun t229 => (if bt227.2 = true then (if x3_1.length < 4398046511104 then (boltingref19_Scripts.l0 kj4 l0 (x3_1 ++ [(⟨x4_1, 3, bt227.1⟩ : S30)]) (wrap64 (x4_1 + 1))) else (none)) else (if t229.toList = ([] : List UInt8) then (boltingref19_Scripts.l0 kj4 l0 x3_1 (wrap64 (x4_1 + 1))) else (if x3_1.length < 4398046511104 then (boltingref19_Scripts.l0 kj4 l0 (x3_1 ++ [(⟨x4_1, 2, t229⟩ : S30)]) (wrap64 (x4_1 + 1))) else (none)))))) else (none)) else (none)) = some r := by rw [if_neg (show ¬ (false = true) by decide)] at H; exact H
              clear H
              have H := H1
              clear H1
              by_cases c11 : 0 ≤ x4_1
              · rw [if_pos c11] at H
                have c11b0 : decide (0 ≤ x4_1) = true := decide_eq_true c11
                clear c11
                by_cases c12 : x4_1 < (l0.length : Int)
                · rw [if_pos c12] at H
                  have c12b0 : decide (x4_1 < (l0.length : Int)) = true := decide_eq_true c12
                  clear c12
                  replace H := Option.bind_eq_some_iff.mp H
                  obtain ⟨⟨t227, t228⟩, A130, H⟩ := H
                  replace H : ((boltingref04_Text.f kj4 l0 x4_1).bind fun t229 => (if t228 = true then (if x3_1.length < 4398046511104 then (boltingref19_Scripts.l0 kj4 l0 (x3_1 ++ [(⟨x4_1, 3, t227⟩ : S30)]) (wrap64 (x4_1 + 1))) else (none)) else (if t229.toList = ([] : List UInt8) then (boltingref19_Scripts.l0 kj4 l0 x3_1 (wrap64 (x4_1 + 1))) else (if x3_1.length < 4398046511104 then (boltingref19_Scripts.l0 kj4 l0 (x3_1 ++ [(⟨x4_1, 2, t229⟩ : S30)]) (wrap64 (x4_1 + 1))) else (none))))) = some r := H
                  have A13 := Aside0.mk A130
                  clear A130
                  replace H := Option.bind_eq_some_iff.mp H
                  obtain ⟨t229, A140, H⟩ := H
                  replace H : (if t228 = true then (if x3_1.length < 4398046511104 then (boltingref19_Scripts.l0 kj4 l0 (x3_1 ++ [(⟨x4_1, 3, t227⟩ : S30)]) (wrap64 (x4_1 + 1))) else (none)) else (if t229.toList = ([] : List UInt8) then (boltingref19_Scripts.l0 kj4 l0 x3_1 (wrap64 (x4_1 + 1))) else (if x3_1.length < 4398046511104 then (boltingref19_Scripts.l0 kj4 l0 (x3_1 ++ [(⟨x4_1, 2, t229⟩ : S30)]) (wrap64 (x4_1 + 1))) else (none)))) = some r := H
                  have A14 := Aside0.mk A140
                  clear A140
                  by_cases c15 : t228 = true
                  · subst c15
                    have H1 : (if x3_1.length < 4398046511104 then (boltingref19_Scripts.l0 kj4 l0 (x3_1 ++ [(⟨x4_1, 3, t227⟩ : S30)]) (wrap64 (x4_1 + 1))) else (none)) = some r := by rw [if_pos rfl] at H; exact H
                    clear H
                    have H := H1
                    clear H1
                    by_cases c16 : x3_1.length < 4398046511104
                    · rw [if_pos c16] at H
                      have LMc16 := Aside0.mk c16
                      clear c16
                      obtain ⟨y230, hy230⟩ : ∃ y_ : List (S30), y_ = (x3_1 ++ [(⟨x4_1, 3, t227⟩ : S30)]) := ⟨_, rfl⟩
                      replace H : (boltingref19_Scripts.l0 kj4 l0 y230 (wrap64 (x4_1 + 1))) = some r := by first | (rw [hy230]; with_reducible exact H) | (have H2_ := (Option.bind_some _ _).symm.trans H; rw [hy230]; with_reducible exact H2_) | (have H2_ := (Option.bind_some _ _).symm.trans H; with_reducible exact H2_) | with_reducible exact H | (rw [hy230]; exact H) | exact H
                      have Ny230 := Aside0.mk hy230
                      clear hy230
                      have H' := Aside0.mk H
                      clear H
                      have p226 : 0 ≤ (x4_1 : Int) := of_decide_eq_true (by first | (with_reducible assumption) | assumption)
                      have q226 : x4_1 < (l0.length : Int) := of_decide_eq_true (by first | (with_reducible assumption) | assumption)
                      obtain ⟨ad226, A226_4, c226_4, e226, hx226_0, hx226_1, hx226_2, hx226_3, hx226_4, hl226_4, hi226_4⟩ := at_T34 HR0.out x4_1 p226 q226
                      cases e226
                      replace hx226_0 := (HB.out.cell (World.block_lt_of_cell? w _ hx226_0)).trans hx226_0
                      replace hx226_1 := (HB.out.cell (World.block_lt_of_cell? w _ hx226_1)).trans hx226_1
                      replace hx226_2 := (HB.out.cell (World.block_lt_of_cell? w _ hx226_2)).trans hx226_2
                      replace hx226_3 := (HB.out.cell (World.block_lt_of_cell? w _ hx226_3)).trans hx226_3
                      replace hx226_4 := (HB.out.cell (World.block_lt_of_cell? w _ hx226_4)).trans hx226_4
                      have HR226_4 := Aside0.mk hi226_4
                      have HC226_4 := Aside0.mk hl226_4
                      clear hi226_4 hl226_4
                      replace p226 := eq_true p226
                      replace q226 := eq_true q226
                      go_wp2_with (first | ((with_reducible refine gate_callee (f := 26) rfl ?_); refine goesL_ (some 39) rfl rfl Try.func26 (by kernel_rfl) rfl #[.agg #[.int .i64 ((rd_T34 l0 x4_1).f0), .int .i64 ((rd_T34 l0 x4_1).f1), .string ((rd_T34 l0 x4_1).f2), .string ((rd_T34 l0 x4_1).f3), .slice A226_4 ((rd_T34 l0 x4_1).f4).length c226_4], .string (⟨#[115, 114, 99]⟩ : ByteArray)] rfl (by (try simp only [List.map_toArray, List.map_cons, List.map_nil]); first | done | rfl | (simp only [List.length_drop, List.length_take]; rfl)) ?_; (with_reducible refine (boltingref19_Value.calls kj4 ((rd_T34 l0 x4_1).f0) ((rd_T34 l0 x4_1).f1) ((rd_T34 l0 x4_1).f2) ((rd_T34 l0 x4_1).f3) _ _ ((rd_T34 l0 x4_1).f4) (⟨#[115, 114, 99]⟩ : ByteArray) t227 true _ ?side1 ?side2 A13.out).mono ?_); (case side1 => repeat (first | exact (Kd.C_below HR226_4.out HB.out) | (with_reducible refine Kd.C_alloc ?_ _) | (with_reducible refine Kd.C_drewN ?_ _) | (with_reducible refine Kd.C_drew ?_))); (case side2 => exact HC226_4.out); rintro e w17 ⟨rfl, hb⟩; refine ⟨_, rfl, ?_⟩; have n0_ := Aside0.mk (Kd.R_below (by (with_reducible repeat (first | apply Kd.R_alloc | apply Kd.R_drewN | apply Kd.R_drew)); exact HO_3.out) hb); have n1_ := Aside0.mk (below_step (by repeat (first | (with_reducible first | exact HB.out | apply below_alloc | apply pw_below_drewN | apply below_drew1) | exact HB.out)) hb); clear HO_3; clear HB; have HO_3 := n0_; have HB := n1_; clear n0_ n1_; (try clear hb); (try clear hb2); (try clear hk); (try clear hi)) | ((with_reducible refine gate_callee (f := 27) rfl ?_); refine goesL_ (some 44) rfl rfl Try.func27 (by kernel_rfl) rfl #[.slice (some ad226) l0.length c0, .int .i64 x4_1] rfl (by (try simp only [List.map_toArray, List.map_cons, List.map_nil]); first | done | rfl | (simp only [List.length_drop, List.length_take]; rfl)) ?_; (with_reducible refine (boltingref04_Text.calls kj4 _ _ l0 x4_1 t229 _ ?side1 ?side2 A14.out).mono ?_); (case side1 => repeat (first | exact (Kd.C_below HR0.out HB.out) | (with_reducible refine Kd.C_alloc ?_ _) | (with_reducible refine Kd.C_drewN ?_ _) | (with_reducible refine Kd.C_drew ?_))); (case side2 => exact HC0.out); rintro e w18 ⟨rfl, hb⟩; refine ⟨_, rfl, ?_⟩; have n0_ := Aside0.mk (Kd.R_below (by (with_reducible repeat (first | apply Kd.R_alloc | apply Kd.R_drewN | apply Kd.R_drew)); exact HO_3.out) hb); have n1_ := Aside0.mk (below_step (by repeat (first | (with_reducible first | exact HB.out | apply below_alloc | apply pw_below_drewN | apply below_drew1) | exact HB.out)) hb); clear HO_3; clear HB; have HO_3 := n0_; have HB := n1_; clear n0_ n1_; (try clear hb); (try clear hb2); (try clear hk); (try clear hi)) | ((with_reducible refine gate_builtin (b := .append) (xs := #[.tmp 46, .tmp 50]) rfl ?_); at_builtin; refine Kd.R_append k30 (w0 := w) w.heap.size rfl (.tmp 46) (.tmp 50) 26 30 (.agg #[(.int .i64 0), (.int .i64 0), (.string ⟨#[]⟩)]) 32 rfl Try.underlying26 info30 rfl (by decide) (by omega) u3 x3_1 (⟨x4_1, 3, t227⟩ : S30) [.int .i64 x4_1, .int .i64 3, .string t227] (fun _ => True) (fun _ => False) rfl rfl ?aP (fun _ hk => hk.elim) ?aF ?aO ?aB ?aS ?aL ?_; (case aP => exact k30_mkM _ _ _ (⟨x4_1, 3, t227⟩ : S30)); (case aB => exact (by repeat (first | (with_reducible first | exact HB.out | apply below_alloc | apply pw_below_drewN | apply below_drew1) | exact HB.out))); (case aF => exact (fun _ _ => trivial)); (case aO => exact (by (with_reducible repeat (first | apply Kd.R_alloc | apply Kd.R_drewN | apply Kd.R_drew)); exact HO_3.out)); (case aS => exact (below_size (by repeat (first | (with_reducible first | exact HB.out | apply below_alloc | apply pw_below_drewN | apply below_drew1) | exact HB.out)))); (case aL => have := LMc16.out; omega); intro v231 w19 ho hb hg hat; rw [← Ny230.out] at ho; have n0_ := Aside0.mk (hb); have n1_ := Aside0.mk (ho); clear HB; clear HO_3; have HB := n0_; have HO232 := n1_; clear n0_ n1_; clear ho hb hg hat))
                      go_roundg kj4
                      case measure => have := HK1.out; have := HJ4.out; omega
                      case rel => exact ⟨(y230), (wrap64 (x4_1 + 1)), (by first | rfl | (simp; done) | (simp [*]; done)), H', ⟨by have := HK1.out; have := HJ4.out; omega⟩, ⟨by (with_reducible repeat (first | apply Kd.R_alloc | apply Kd.R_drewN | apply Kd.R_drew)); exact HO232.out⟩, ⟨by repeat (first | (with_reducible first | exact HB.out | apply below_alloc | apply pw_below_drewN | apply below_drew1) | exact HB.out)⟩⟩
                    · rw [if_neg c16] at H
                      exact absurd H (by simp)
                  · replace c15 := Bool.eq_false_iff.mpr c15
                    subst c15
                    have H1 : (if t229.toList = ([] : List UInt8) then (boltingref19_Scripts.l0 kj4 l0 x3_1 (wrap64 (x4_1 + 1))) else (if x3_1.length < 4398046511104 then (boltingref19_Scripts.l0 kj4 l0 (x3_1 ++ [(⟨x4_1, 2, t229⟩ : S30)]) (wrap64 (x4_1 + 1))) else (none))) = some r := by rw [if_neg (show ¬ (false = true) by decide)] at H; exact H
                    clear H
                    have H := H1
                    clear H1
                    by_cases c20 : t229.toList = ([] : List UInt8)
                    · rw [if_pos c20] at H
                      have c20b0 : (t229.toList == ([] : List UInt8)) = true := beq_iff_eq.mpr c20
                      have c20b1 : (t229.toList != ([] : List UInt8)) = false := bne_eq_false_iff_eq.mpr c20
                      clear c20
                      have H' := Aside0.mk H
                      clear H
                      have p226 : 0 ≤ (x4_1 : Int) := of_decide_eq_true (by first | (with_reducible assumption) | assumption)
                      have q226 : x4_1 < (l0.length : Int) := of_decide_eq_true (by first | (with_reducible assumption) | assumption)
                      obtain ⟨ad226, A226_4, c226_4, e226, hx226_0, hx226_1, hx226_2, hx226_3, hx226_4, hl226_4, hi226_4⟩ := at_T34 HR0.out x4_1 p226 q226
                      cases e226
                      replace hx226_0 := (HB.out.cell (World.block_lt_of_cell? w _ hx226_0)).trans hx226_0
                      replace hx226_1 := (HB.out.cell (World.block_lt_of_cell? w _ hx226_1)).trans hx226_1
                      replace hx226_2 := (HB.out.cell (World.block_lt_of_cell? w _ hx226_2)).trans hx226_2
                      replace hx226_3 := (HB.out.cell (World.block_lt_of_cell? w _ hx226_3)).trans hx226_3
                      replace hx226_4 := (HB.out.cell (World.block_lt_of_cell? w _ hx226_4)).trans hx226_4
                      have HR226_4 := Aside0.mk hi226_4
                      have HC226_4 := Aside0.mk hl226_4
                      clear hi226_4 hl226_4
                      replace p226 := eq_true p226
                      replace q226 := eq_true q226
                      go_wp2_with (first | ((with_reducible refine gate_callee (f := 26) rfl ?_); refine goesL_ (some 39) rfl rfl Try.func26 (by kernel_rfl) rfl #[.agg #[.int .i64 ((rd_T34 l0 x4_1).f0), .int .i64 ((rd_T34 l0 x4_1).f1), .string ((rd_T34 l0 x4_1).f2), .string ((rd_T34 l0 x4_1).f3), .slice A226_4 ((rd_T34 l0 x4_1).f4).length c226_4], .string (⟨#[115, 114, 99]⟩ : ByteArray)] rfl (by (try simp only [List.map_toArray, List.map_cons, List.map_nil]); first | done | rfl | (simp only [List.length_drop, List.length_take]; rfl)) ?_; (with_reducible refine (boltingref19_Value.calls kj4 ((rd_T34 l0 x4_1).f0) ((rd_T34 l0 x4_1).f1) ((rd_T34 l0 x4_1).f2) ((rd_T34 l0 x4_1).f3) _ _ ((rd_T34 l0 x4_1).f4) (⟨#[115, 114, 99]⟩ : ByteArray) t227 false _ ?side1 ?side2 A13.out).mono ?_); (case side1 => repeat (first | exact (Kd.C_below HR226_4.out HB.out) | (with_reducible refine Kd.C_alloc ?_ _) | (with_reducible refine Kd.C_drewN ?_ _) | (with_reducible refine Kd.C_drew ?_))); (case side2 => exact HC226_4.out); rintro e w21 ⟨rfl, hb⟩; refine ⟨_, rfl, ?_⟩; have n0_ := Aside0.mk (Kd.R_below (by (with_reducible repeat (first | apply Kd.R_alloc | apply Kd.R_drewN | apply Kd.R_drew)); exact HO_3.out) hb); have n1_ := Aside0.mk (below_step (by repeat (first | (with_reducible first | exact HB.out | apply below_alloc | apply pw_below_drewN | apply below_drew1) | exact HB.out)) hb); clear HO_3; clear HB; have HO_3 := n0_; have HB := n1_; clear n0_ n1_; (try clear hb); (try clear hb2); (try clear hk); (try clear hi)) | ((with_reducible refine gate_callee (f := 27) rfl ?_); refine goesL_ (some 44) rfl rfl Try.func27 (by kernel_rfl) rfl #[.slice (some ad226) l0.length c0, .int .i64 x4_1] rfl (by (try simp only [List.map_toArray, List.map_cons, List.map_nil]); first | done | rfl | (simp only [List.length_drop, List.length_take]; rfl)) ?_; (with_reducible refine (boltingref04_Text.calls kj4 _ _ l0 x4_1 t229 _ ?side1 ?side2 A14.out).mono ?_); (case side1 => repeat (first | exact (Kd.C_below HR0.out HB.out) | (with_reducible refine Kd.C_alloc ?_ _) | (with_reducible refine Kd.C_drewN ?_ _) | (with_reducible refine Kd.C_drew ?_))); (case side2 => exact HC0.out); rintro e w22 ⟨rfl, hb⟩; refine ⟨_, rfl, ?_⟩; have n0_ := Aside0.mk (Kd.R_below (by (with_reducible repeat (first | apply Kd.R_alloc | apply Kd.R_drewN | apply Kd.R_drew)); exact HO_3.out) hb); have n1_ := Aside0.mk (below_step (by repeat (first | (with_reducible first | exact HB.out | apply below_alloc | apply pw_below_drewN | apply below_drew1) | exact HB.out)) hb); clear HO_3; clear HB; have HO_3 := n0_; have HB := n1_; clear n0_ n1_; (try clear hb); (try clear hb2); (try clear hk); (try clear hi)))
                      go_roundg kj4
                      case measure => have := HK1.out; have := HJ4.out; omega
                      case rel => exact ⟨(x3_1), (wrap64 (x4_1 + 1)), (by first | rfl | (simp; done) | (simp [*]; done)), H', ⟨by have := HK1.out; have := HJ4.out; omega⟩, ⟨by (with_reducible repeat (first | apply Kd.R_alloc | apply Kd.R_drewN | apply Kd.R_drew)); exact HO_3.out⟩, ⟨by repeat (first | (with_reducible first | exact HB.out | apply below_alloc | apply pw_below_drewN | apply below_drew1) | exact HB.out)⟩⟩
                    · rw [if_neg c20] at H
                      have c20b0 : (t229.toList == ([] : List UInt8)) = false := beq_eq_false_iff_ne.mpr c20
                      have c20b1 : (t229.toList != ([] : List UInt8)) = true := bne_iff_ne.mpr c20
                      by_cases c23 : x3_1.length < 4398046511104
                      · rw [if_pos c23] at H
                        have LMc23 := Aside0.mk c23
                        clear c23
                        obtain ⟨y233, hy233⟩ : ∃ y_ : List (S30), y_ = (x3_1 ++ [(⟨x4_1, 2, t229⟩ : S30)]) := ⟨_, rfl⟩
                        replace H : (boltingref19_Scripts.l0 kj4 l0 y233 (wrap64 (x4_1 + 1))) = some r := by first | (rw [hy233]; with_reducible exact H) | (have H2_ := (Option.bind_some _ _).symm.trans H; rw [hy233]; with_reducible exact H2_) | (have H2_ := (Option.bind_some _ _).symm.trans H; with_reducible exact H2_) | with_reducible exact H | (rw [hy233]; exact H) | exact H
                        have Ny233 := Aside0.mk hy233
                        clear hy233
                        have H' := Aside0.mk H
                        clear H
                        have p226 : 0 ≤ (x4_1 : Int) := of_decide_eq_true (by first | (with_reducible assumption) | assumption)
                        have q226 : x4_1 < (l0.length : Int) := of_decide_eq_true (by first | (with_reducible assumption) | assumption)
                        obtain ⟨ad226, A226_4, c226_4, e226, hx226_0, hx226_1, hx226_2, hx226_3, hx226_4, hl226_4, hi226_4⟩ := at_T34 HR0.out x4_1 p226 q226
                        cases e226
                        replace hx226_0 := (HB.out.cell (World.block_lt_of_cell? w _ hx226_0)).trans hx226_0
                        replace hx226_1 := (HB.out.cell (World.block_lt_of_cell? w _ hx226_1)).trans hx226_1
                        replace hx226_2 := (HB.out.cell (World.block_lt_of_cell? w _ hx226_2)).trans hx226_2
                        replace hx226_3 := (HB.out.cell (World.block_lt_of_cell? w _ hx226_3)).trans hx226_3
                        replace hx226_4 := (HB.out.cell (World.block_lt_of_cell? w _ hx226_4)).trans hx226_4
                        have HR226_4 := Aside0.mk hi226_4
                        have HC226_4 := Aside0.mk hl226_4
                        clear hi226_4 hl226_4
                        replace p226 := eq_true p226
                        replace q226 := eq_true q226
                        go_wp2_with (first | ((with_reducible refine gate_callee (f := 26) rfl ?_); refine goesL_ (some 39) rfl rfl Try.func26 (by kernel_rfl) rfl #[.agg #[.int .i64 ((rd_T34 l0 x4_1).f0), .int .i64 ((rd_T34 l0 x4_1).f1), .string ((rd_T34 l0 x4_1).f2), .string ((rd_T34 l0 x4_1).f3), .slice A226_4 ((rd_T34 l0 x4_1).f4).length c226_4], .string (⟨#[115, 114, 99]⟩ : ByteArray)] rfl (by (try simp only [List.map_toArray, List.map_cons, List.map_nil]); first | done | rfl | (simp only [List.length_drop, List.length_take]; rfl)) ?_; (with_reducible refine (boltingref19_Value.calls kj4 ((rd_T34 l0 x4_1).f0) ((rd_T34 l0 x4_1).f1) ((rd_T34 l0 x4_1).f2) ((rd_T34 l0 x4_1).f3) _ _ ((rd_T34 l0 x4_1).f4) (⟨#[115, 114, 99]⟩ : ByteArray) t227 false _ ?side1 ?side2 A13.out).mono ?_); (case side1 => repeat (first | exact (Kd.C_below HR226_4.out HB.out) | (with_reducible refine Kd.C_alloc ?_ _) | (with_reducible refine Kd.C_drewN ?_ _) | (with_reducible refine Kd.C_drew ?_))); (case side2 => exact HC226_4.out); rintro e w24 ⟨rfl, hb⟩; refine ⟨_, rfl, ?_⟩; have n0_ := Aside0.mk (Kd.R_below (by (with_reducible repeat (first | apply Kd.R_alloc | apply Kd.R_drewN | apply Kd.R_drew)); exact HO_3.out) hb); have n1_ := Aside0.mk (below_step (by repeat (first | (with_reducible first | exact HB.out | apply below_alloc | apply pw_below_drewN | apply below_drew1) | exact HB.out)) hb); clear HO_3; clear HB; have HO_3 := n0_; have HB := n1_; clear n0_ n1_; (try clear hb); (try clear hb2); (try clear hk); (try clear hi)) | ((with_reducible refine gate_callee (f := 27) rfl ?_); refine goesL_ (some 44) rfl rfl Try.func27 (by kernel_rfl) rfl #[.slice (some ad226) l0.length c0, .int .i64 x4_1] rfl (by (try simp only [List.map_toArray, List.map_cons, List.map_nil]); first | done | rfl | (simp only [List.length_drop, List.length_take]; rfl)) ?_; (with_reducible refine (boltingref04_Text.calls kj4 _ _ l0 x4_1 t229 _ ?side1 ?side2 A14.out).mono ?_); (case side1 => repeat (first | exact (Kd.C_below HR0.out HB.out) | (with_reducible refine Kd.C_alloc ?_ _) | (with_reducible refine Kd.C_drewN ?_ _) | (with_reducible refine Kd.C_drew ?_))); (case side2 => exact HC0.out); rintro e w25 ⟨rfl, hb⟩; refine ⟨_, rfl, ?_⟩; have n0_ := Aside0.mk (Kd.R_below (by (with_reducible repeat (first | apply Kd.R_alloc | apply Kd.R_drewN | apply Kd.R_drew)); exact HO_3.out) hb); have n1_ := Aside0.mk (below_step (by repeat (first | (with_reducible first | exact HB.out | apply below_alloc | apply pw_below_drewN | apply below_drew1) | exact HB.out)) hb); clear HO_3; clear HB; have HO_3 := n0_; have HB := n1_; clear n0_ n1_; (try clear hb); (try clear hb2); (try clear hk); (try clear hi)) | ((with_reducible refine gate_builtin (b := .append) (xs := #[.tmp 54, .tmp 58]) rfl ?_); at_builtin; refine Kd.R_append k30 (w0 := w) w.heap.size rfl (.tmp 54) (.tmp 58) 26 30 (.agg #[(.int .i64 0), (.int .i64 0), (.string ⟨#[]⟩)]) 32 rfl Try.underlying26 info30 rfl (by decide) (by omega) u3 x3_1 (⟨x4_1, 2, t229⟩ : S30) [.int .i64 x4_1, .int .i64 2, .string t229] (fun _ => True) (fun _ => False) rfl rfl ?aP (fun _ hk => hk.elim) ?aF ?aO ?aB ?aS ?aL ?_; (case aP => exact k30_mkM _ _ _ (⟨x4_1, 2, t229⟩ : S30)); (case aB => exact (by repeat (first | (with_reducible first | exact HB.out | apply below_alloc | apply pw_below_drewN | apply below_drew1) | exact HB.out))); (case aF => exact (fun _ _ => trivial)); (case aO => exact (by (with_reducible repeat (first | apply Kd.R_alloc | apply Kd.R_drewN | apply Kd.R_drew)); exact HO_3.out)); (case aS => exact (below_size (by repeat (first | (with_reducible first | exact HB.out | apply below_alloc | apply pw_below_drewN | apply below_drew1) | exact HB.out)))); (case aL => have := LMc23.out; omega); intro v234 w26 ho hb hg hat; rw [← Ny233.out] at ho; have n0_ := Aside0.mk (hb); have n1_ := Aside0.mk (ho); clear HB; clear HO_3; have HB := n0_; have HO235 := n1_; clear n0_ n1_; clear ho hb hg hat))
                        go_roundg kj4
                        case measure => have := HK1.out; have := HJ4.out; omega
                        case rel => exact ⟨(y233), (wrap64 (x4_1 + 1)), (by first | rfl | (simp; done) | (simp [*]; done)), H', ⟨by have := HK1.out; have := HJ4.out; omega⟩, ⟨by (with_reducible repeat (first | apply Kd.R_alloc | apply Kd.R_drewN | apply Kd.R_drew)); exact HO235.out⟩, ⟨by repeat (first | (with_reducible first | exact HB.out | apply below_alloc | apply pw_below_drewN | apply below_drew1) | exact HB.out)⟩⟩
                      · rw [if_neg c23] at H
                        exact absurd H (by simp)
                · rw [if_neg c12] at H
                  exact absurd H (by simp)
              · rw [if_neg c11] at H
                exact absurd H (by simp)
      · rw [if_neg c4] at H
        have c4b0 : decide (x4_1 < (l0.length : Int)) = false := decide_eq_false c4
        clear c4
        obtain rfl := Option.some.inj H
        go_wp2
        go_ret
        exact ⟨_, by first | rfl | (simp [errW_none, errW_some] <;> rfl) | (simp [*, errW_none, errW_some] <;> rfl), by (with_reducible repeat (first | apply Kd.R_alloc | apply Kd.R_drewN | apply Kd.R_drew)); exact HO_3.out, by repeat (first | (with_reducible first | exact HB.out | apply below_alloc | apply pw_below_drewN | apply below_drew1) | exact HB.out)⟩

/-! ### boltingref09_Strip: function 53 -/
mutual
def boltingref09_Strip.l0 : Nat → ByteArray → Int → Int → Int → Option (ByteArray)
  | 0, _, _, _, _ => none
  | k + 1, x0, x3, x4, x5 => if x5 < (x0.size : Int) then (if 0 ≤ x5 then (if (bt x0 x5) > 32 then (if x3 < 0 then (boltingref09_Strip.l0 k x0 x5 x5 (wrap64 (x5 + 1))) else (boltingref09_Strip.l0 k x0 x3 x5 (wrap64 (x5 + 1)))) else (boltingref09_Strip.l0 k x0 x3 x4 (wrap64 (x5 + 1)))) else (none)) else (boltingref09_Strip.l1 k x0 x4 (([] : List Int)) (mx 0 x3))
def boltingref09_Strip.l1 : Nat → ByteArray → Int → List Int → Int → Option (ByteArray)
  | 0, _, _, _, _ => none
  | k + 1, x0, x4, x6, x7 => if x7 ≤ x4 then (if 0 ≤ x7 then (if x7 < (x0.size : Int) then (if (bt x0 x7) = 9 then (boltingref09_Strip.l1 k x0 x4 x6 (wrap64 (x7 + 1))) else (if (bt x0 x7) = 10 then (boltingref09_Strip.l1 k x0 x4 x6 (wrap64 (x7 + 1))) else (if (bt x0 x7) = 13 then (boltingref09_Strip.l1 k x0 x4 x6 (wrap64 (x7 + 1))) else (if x6.length < 140737488355328 then (boltingref09_Strip.l1 k x0 x4 (x6 ++ [bt x0 x7]) (wrap64 (x7 + 1))) else (none))))) else (none)) else (none)) else (some (strOfNums x6))
end
def boltingref09_Strip.f (k : Nat) (a0 : ByteArray) : Option (ByteArray) := boltingref09_Strip.l0 k a0 (-1) (-1) 0
set_option maxHeartbeats 8000000 in
set_option maxRecDepth 100000 in
theorem boltingref09_Strip.calls (k : Nat) (a0 : ByteArray) (r : ByteArray) (w : World) (h : boltingref09_Strip.f k a0 = some r) :
    Calls Try.prog 53 #[.string a0] w fun e w' => e = .returned (.string r) ∧ Below w.heap.size w w' := by
  have HB := Aside0.mk (Below.refl w.heap.size w)
  have H : (boltingref09_Strip.l0 k a0 (-1) (-1) 0) = some r := h
  clear h
  have H' := Aside0.mk H
  clear H
  go_enter Try.func53, Try.ntmps53
  go_wp2
  go_loopg [3, 4, 5] k (fun kq v3 v4 v5 w' => ∃ (x3_1 : Int) (x4_1 : Int) (x5_1 : Int), v3 = .int .i64 x3_1 ∧ v4 = .int .i64 x4_1 ∧ v5 = .int .i64 x5_1 ∧ Aside0 (boltingref09_Strip.l0 kq a0 x3_1 x4_1 x5_1 = some r) ∧ Aside0 (kq ≤ k) ∧ Aside0 (Below w.heap.size w w'))
  case atStart => exact ⟨((-1)), ((-1)), (0), (by first | rfl | (simp; done) | (simp [*]; done)), (by first | rfl | (simp; done) | (simp [*]; done)), (by first | rfl | (simp; done) | (simp [*]; done)), H', ⟨Nat.le_refl _⟩, ⟨by repeat (first | (with_reducible first | exact HB.out | apply below_alloc | apply pw_below_drewN | apply below_drew1) | exact HB.out)⟩⟩
  case round =>
    clear H'
    obtain ⟨x3_1, x4_1, x5_1, rfl, rfl, rfl, HA, HK1, HB⟩ := hrel
    cases gk with
    | zero => exact absurd HA.out (by simp [boltingref09_Strip.l0])
    | succ k1 =>
      have H := HA.out
      clear HA
      simp only [boltingref09_Strip.l0] at H
      by_cases c2 : x5_1 < (a0.size : Int)
      · rw [if_pos c2] at H
        have c2b0 : decide (x5_1 < (a0.size : Int)) = true := decide_eq_true c2
        clear c2
        by_cases c3 : 0 ≤ x5_1
        · rw [if_pos c3] at H
          have c3b0 : decide (0 ≤ x5_1) = true := decide_eq_true c3
          clear c3
          by_cases c5 : (bt a0 x5_1) > 32
          · rw [if_pos c5] at H
            have c5b0 : decide (32 < (bt a0 x5_1)) = true := decide_eq_true c5
            clear c5
            by_cases c6 : x3_1 < 0
            · rw [if_pos c6] at H
              have c6b0 : decide (x3_1 < 0) = true := decide_eq_true c6
              clear c6
              have H' := Aside0.mk H
              clear H
              have p4 : 0 ≤ (x5_1 : Int) := of_decide_eq_true (by first | (with_reducible assumption) | assumption)
              have q4 : x5_1 < (a0.size : Int) := of_decide_eq_true (by first | (with_reducible assumption) | assumption)
              have hx4 := bt_at a0 x5_1
              replace p4 := eq_true p4
              replace q4 := eq_true q4
              go_wp2
              go_roundg k1
              case measure => have := HK1.out; omega
              case rel => exact ⟨(x5_1), (x5_1), (wrap64 (x5_1 + 1)), (by first | rfl | (simp; done) | (simp [*]; done)), (by first | rfl | (simp; done) | (simp [*]; done)), (by first | rfl | (simp; done) | (simp [*]; done)), H', ⟨by have := HK1.out; omega⟩, ⟨by repeat (first | (with_reducible first | exact HB.out | apply below_alloc | apply pw_below_drewN | apply below_drew1) | exact HB.out)⟩⟩
            · rw [if_neg c6] at H
              have c6b0 : decide (x3_1 < 0) = false := decide_eq_false c6
              clear c6
              have H' := Aside0.mk H
              clear H
              have p4 : 0 ≤ (x5_1 : Int) := of_decide_eq_true (by first | (with_reducible assumption) | assumption)
              have q4 : x5_1 < (a0.size : Int) := of_decide_eq_true (by first | (with_reducible assumption) | assumption)
              have hx4 := bt_at a0 x5_1
              replace p4 := eq_true p4
              replace q4 := eq_true q4
              go_wp2
              go_roundg k1
              case measure => have := HK1.out; omega
              case rel => exact ⟨(x3_1), (x5_1), (wrap64 (x5_1 + 1)), (by first | rfl | (simp; done) | (simp [*]; done)), (by first | rfl | (simp; done) | (simp [*]; done)), (by first | rfl | (simp; done) | (simp [*]; done)), H', ⟨by have := HK1.out; omega⟩, ⟨by repeat (first | (with_reducible first | exact HB.out | apply below_alloc | apply pw_below_drewN | apply below_drew1) | exact HB.out)⟩⟩
          · rw [if_neg c5] at H
            have c5b0 : decide (32 < (bt a0 x5_1)) = false := decide_eq_false c5
            clear c5
            have H' := Aside0.mk H
            clear H
            have p4 : 0 ≤ (x5_1 : Int) := of_decide_eq_true (by first | (with_reducible assumption) | assumption)
            have q4 : x5_1 < (a0.size : Int) := of_decide_eq_true (by first | (with_reducible assumption) | assumption)
            have hx4 := bt_at a0 x5_1
            replace p4 := eq_true p4
            replace q4 := eq_true q4
            go_wp2
            go_roundg k1
            case measure => have := HK1.out; omega
            case rel => exact ⟨(x3_1), (x4_1), (wrap64 (x5_1 + 1)), (by first | rfl | (simp; done) | (simp [*]; done)), (by first | rfl | (simp; done) | (simp [*]; done)), (by first | rfl | (simp; done) | (simp [*]; done)), H', ⟨by have := HK1.out; omega⟩, ⟨by repeat (first | (with_reducible first | exact HB.out | apply below_alloc | apply pw_below_drewN | apply below_drew1) | exact HB.out)⟩⟩
        · rw [if_neg c3] at H
          exact absurd H (by simp)
      · rw [if_neg c2] at H
        have c2b0 : decide (x5_1 < (a0.size : Int)) = false := decide_eq_false c2
        clear c2
        obtain ⟨y236, hy236⟩ : ∃ y_ : List Int, y_ = (([] : List Int)) := ⟨_, rfl⟩
        replace H : (boltingref09_Strip.l1 k1 a0 x4_1 y236 (mx 0 x3_1)) = some r := by first | (rw [hy236]; with_reducible exact H) | (have H2_ := (Option.bind_some _ _).symm.trans H; rw [hy236]; with_reducible exact H2_) | (have H2_ := (Option.bind_some _ _).symm.trans H; with_reducible exact H2_) | with_reducible exact H | (rw [hy236]; exact H) | exact H
        have Ny236 := Aside0.mk hy236
        clear hy236
        obtain ⟨ji7, hji7⟩ : ∃ j_ : Int, (mx 0 x3_1) = j_ := ⟨_, rfl⟩
        replace H : (boltingref09_Strip.l1 k1 a0 x4_1 y236 ji7) = some r := by first | (rw [hji7] at H; exact H) | (simp only [hji7] at H ⊢; exact H)
        have hji7_ : (if 0 < x3_1 then x3_1 else 0) = ji7 := hji7
        have H' := Aside0.mk H
        clear H
        go_wp2_with (first | ((with_reducible refine gate_dst (N := 22) rfl ?_); refine Kd.R_lit (Kd.int .u8) _ 5 ?hg (N := 22) ?hd (xs := ([] : List Int)) (inner := []) (ok := fun _ => True) (okp := fun _ => True) ?hr ?hp (fun _ hk => hk) trivial (Below.refl _ _) (Nat.le_refl _) (by simp) ?_; (case hd => rfl); (case hg => rfl); (case hr => first | (go_simp; done) | (go_simp; rfl)); (case hp => exact (Reps.none _ _)); intro v237 w8 ho9 hb hg_ hnew_; clear hg_ hnew_; (first | rw [← Ny236.out] at ho9 | (simp only [Int.reduceToNat] at ho9; rw [← Ny236.out] at ho9)); have n0_ := Aside0.mk (Kd.R_lower ho9 (below_size (by repeat (first | (with_reducible first | exact HB.out | apply below_alloc | apply pw_below_drewN | apply below_drew1) | exact HB.out)))); have n1_ := Aside0.mk (below_step (by repeat (first | (with_reducible first | exact HB.out | apply below_alloc | apply pw_below_drewN | apply below_drew1) | exact HB.out)) hb); clear HB; have HO238 := n0_; have HB := n1_; clear n0_ n1_; clear hb ho9))
        go_loopg [6, 7] k1 (fun kq v6 v7 w' => ∃ (x6_2 : List Int) (x7_2 : Int), v7 = .int .i64 x7_2 ∧ Aside0 (boltingref09_Strip.l1 kq a0 x4_1 x6_2 x7_2 = some r) ∧ Aside0 (kq ≤ k1) ∧ Aside0 (Kd.R (Kd.int .u8) 5 w' w.heap.size (fun _ => True) v6 x6_2) ∧ Aside0 (Below w.heap.size w w'))
        case atStart => exact ⟨(y236), (ji7), (by first | rfl | (simp; done) | (simp only [← hji7] <;> (first | rfl | simp)) | (simp [*]; done)), H', ⟨Nat.le_refl _⟩, ⟨by (with_reducible repeat (first | apply Kd.R_alloc | apply Kd.R_drewN | apply Kd.R_drew)); exact HO238.out⟩, ⟨by repeat (first | (with_reducible first | exact HB.out | apply below_alloc | apply pw_below_drewN | apply below_drew1) | exact HB.out)⟩⟩
        case round =>
          clear H'
          try clear c2
          try clear c2b0
          try clear p2
          try clear c3
          try clear c3b0
          try clear p4
          try clear q4
          try clear hx4
          try clear c5
          try clear c5b0
          try clear c6
          try clear c6b0
          try clear p6
          try clear p4
          try clear q4
          obtain ⟨x6_2, x7_2, rfl, HA, HK2, HO_6, HB⟩ := hrel
          cases gk with
          | zero => exact absurd HA.out (by simp [boltingref09_Strip.l1])
          | succ k2 =>
            have H := HA.out
            clear HA
            simp only [boltingref09_Strip.l1] at H
            by_cases c10 : x7_2 ≤ x4_1
            · rw [if_pos c10] at H
              have c10b0 : decide (x7_2 ≤ x4_1) = true := decide_eq_true c10
              clear c10
              by_cases c11 : 0 ≤ x7_2
              · rw [if_pos c11] at H
                have c11b0 : decide (0 ≤ x7_2) = true := decide_eq_true c11
                clear c11
                by_cases c12 : x7_2 < (a0.size : Int)
                · rw [if_pos c12] at H
                  have c12b0 : decide (x7_2 < (a0.size : Int)) = true := decide_eq_true c12
                  clear c12
                  by_cases c14 : (bt a0 x7_2) = 9
                  · rw [if_pos c14] at H
                    have c14b0 : ((bt a0 x7_2) == 9) = true := beq_iff_eq.mpr c14
                    have c14b1 : ((bt a0 x7_2) != 9) = false := bne_eq_false_iff_eq.mpr c14
                    clear c14
                    have H' := Aside0.mk H
                    clear H
                    have p13 : 0 ≤ (x7_2 : Int) := of_decide_eq_true (by first | (with_reducible assumption) | assumption)
                    have q13 : x7_2 < (a0.size : Int) := of_decide_eq_true (by first | (with_reducible assumption) | assumption)
                    have hx13 := bt_at a0 x7_2
                    replace p13 := eq_true p13
                    replace q13 := eq_true q13
                    go_wp2
                    go_roundg k2
                    case measure => have := HK1.out; have := HK2.out; omega
                    case rel => exact ⟨(x6_2), (wrap64 (x7_2 + 1)), (by first | rfl | (simp; done) | (simp [*]; done)), H', ⟨by have := HK1.out; have := HK2.out; omega⟩, ⟨by (with_reducible repeat (first | apply Kd.R_alloc | apply Kd.R_drewN | apply Kd.R_drew)); exact HO_6.out⟩, ⟨by repeat (first | (with_reducible first | exact HB.out | apply below_alloc | apply pw_below_drewN | apply below_drew1) | exact HB.out)⟩⟩
                  · rw [if_neg c14] at H
                    have c14b0 : ((bt a0 x7_2) == 9) = false := beq_eq_false_iff_ne.mpr c14
                    have c14b1 : ((bt a0 x7_2) != 9) = true := bne_iff_ne.mpr c14
                    by_cases c16 : (bt a0 x7_2) = 10
                    · rw [if_pos c16] at H
                      have c16b0 : ((bt a0 x7_2) == 10) = true := beq_iff_eq.mpr c16
                      have c16b1 : ((bt a0 x7_2) != 10) = false := bne_eq_false_iff_eq.mpr c16
                      clear c16
                      have H' := Aside0.mk H
                      clear H
                      have p13 : 0 ≤ (x7_2 : Int) := of_decide_eq_true (by first | (with_reducible assumption) | assumption)
                      have q13 : x7_2 < (a0.size : Int) := of_decide_eq_true (by first | (with_reducible assumption) | assumption)
                      have hx13 := bt_at a0 x7_2
                      replace p13 := eq_true p13
                      replace q13 := eq_true q13
                      have p15 : 0 ≤ (x7_2 : Int) := of_decide_eq_true (by first | (with_reducible assumption) | assumption)
                      have q15 : x7_2 < (a0.size : Int) := of_decide_eq_true (by first | (with_reducible assumption) | assumption)
                      have hx15 := bt_at a0 x7_2
                      replace p15 := eq_true p15
                      replace q15 := eq_true q15
                      go_wp2
                      go_roundg k2
                      case measure => have := HK1.out; have := HK2.out; omega
                      case rel => exact ⟨(x6_2), (wrap64 (x7_2 + 1)), (by first | rfl | (simp; done) | (simp [*]; done)), H', ⟨by have := HK1.out; have := HK2.out; omega⟩, ⟨by (with_reducible repeat (first | apply Kd.R_alloc | apply Kd.R_drewN | apply Kd.R_drew)); exact HO_6.out⟩, ⟨by repeat (first | (with_reducible first | exact HB.out | apply below_alloc | apply pw_below_drewN | apply below_drew1) | exact HB.out)⟩⟩
                    · rw [if_neg c16] at H
                      have c16b0 : ((bt a0 x7_2) == 10) = false := beq_eq_false_iff_ne.mpr c16
                      have c16b1 : ((bt a0 x7_2) != 10) = true := bne_iff_ne.mpr c16
                      by_cases c18 : (bt a0 x7_2) = 13
                      · rw [if_pos c18] at H
                        have c18b0 : ((bt a0 x7_2) == 13) = true := beq_iff_eq.mpr c18
                        have c18b1 : ((bt a0 x7_2) != 13) = false := bne_eq_false_iff_eq.mpr c18
                        clear c18
                        have H' := Aside0.mk H
                        clear H
                        have p13 : 0 ≤ (x7_2 : Int) := of_decide_eq_true (by first | (with_reducible assumption) | assumption)
                        have q13 : x7_2 < (a0.size : Int) := of_decide_eq_true (by first | (with_reducible assumption) | assumption)
                        have hx13 := bt_at a0 x7_2
                        replace p13 := eq_true p13
                        replace q13 := eq_true q13
                        have p15 : 0 ≤ (x7_2 : Int) := of_decide_eq_true (by first | (with_reducible assumption) | assumption)
                        have q15 : x7_2 < (a0.size : Int) := of_decide_eq_true (by first | (with_reducible assumption) | assumption)
                        have hx15 := bt_at a0 x7_2
                        replace p15 := eq_true p15
                        replace q15 := eq_true q15
                        have p17 : 0 ≤ (x7_2 : Int) := of_decide_eq_true (by first | (with_reducible assumption) | assumption)
                        have q17 : x7_2 < (a0.size : Int) := of_decide_eq_true (by first | (with_reducible assumption) | assumption)
                        have hx17 := bt_at a0 x7_2
                        replace p17 := eq_true p17
                        replace q17 := eq_true q17
                        go_wp2
                        go_roundg k2
                        case measure => have := HK1.out; have := HK2.out; omega
                        case rel => exact ⟨(x6_2), (wrap64 (x7_2 + 1)), (by first | rfl | (simp; done) | (simp [*]; done)), H', ⟨by have := HK1.out; have := HK2.out; omega⟩, ⟨by (with_reducible repeat (first | apply Kd.R_alloc | apply Kd.R_drewN | apply Kd.R_drew)); exact HO_6.out⟩, ⟨by repeat (first | (with_reducible first | exact HB.out | apply below_alloc | apply pw_below_drewN | apply below_drew1) | exact HB.out)⟩⟩
                      · rw [if_neg c18] at H
                        have c18b0 : ((bt a0 x7_2) == 13) = false := beq_eq_false_iff_ne.mpr c18
                        have c18b1 : ((bt a0 x7_2) != 13) = true := bne_iff_ne.mpr c18
                        by_cases c20 : x6_2.length < 140737488355328
                        · rw [if_pos c20] at H
                          have LMc20 := Aside0.mk c20
                          clear c20
                          obtain ⟨y239, hy239⟩ : ∃ y_ : List Int, y_ = (x6_2 ++ [bt a0 x7_2]) := ⟨_, rfl⟩
                          replace H : (boltingref09_Strip.l1 k2 a0 x4_1 y239 (wrap64 (x7_2 + 1))) = some r := by first | (rw [hy239]; with_reducible exact H) | (have H2_ := (Option.bind_some _ _).symm.trans H; rw [hy239]; with_reducible exact H2_) | (have H2_ := (Option.bind_some _ _).symm.trans H; with_reducible exact H2_) | with_reducible exact H | (rw [hy239]; exact H) | exact H
                          have Ny239 := Aside0.mk hy239
                          clear hy239
                          have H' := Aside0.mk H
                          clear H
                          have p13 : 0 ≤ (x7_2 : Int) := of_decide_eq_true (by first | (with_reducible assumption) | assumption)
                          have q13 : x7_2 < (a0.size : Int) := of_decide_eq_true (by first | (with_reducible assumption) | assumption)
                          have hx13 := bt_at a0 x7_2
                          replace p13 := eq_true p13
                          replace q13 := eq_true q13
                          have p15 : 0 ≤ (x7_2 : Int) := of_decide_eq_true (by first | (with_reducible assumption) | assumption)
                          have q15 : x7_2 < (a0.size : Int) := of_decide_eq_true (by first | (with_reducible assumption) | assumption)
                          have hx15 := bt_at a0 x7_2
                          replace p15 := eq_true p15
                          replace q15 := eq_true q15
                          have p17 : 0 ≤ (x7_2 : Int) := of_decide_eq_true (by first | (with_reducible assumption) | assumption)
                          have q17 : x7_2 < (a0.size : Int) := of_decide_eq_true (by first | (with_reducible assumption) | assumption)
                          have hx17 := bt_at a0 x7_2
                          replace p17 := eq_true p17
                          replace q17 := eq_true q17
                          have p19 : 0 ≤ (x7_2 : Int) := of_decide_eq_true (by first | (with_reducible assumption) | assumption)
                          have q19 : x7_2 < (a0.size : Int) := of_decide_eq_true (by first | (with_reducible assumption) | assumption)
                          have hx19 := bt_at a0 x7_2
                          replace p19 := eq_true p19
                          replace q19 := eq_true q19
                          go_wp2_with (first | ((with_reducible refine gate_builtin (b := .append) (xs := #[.tmp 46, .tmp 50]) rfl ?_); at_builtin; refine Kd.R_append (Kd.int .u8) (w0 := w) w.heap.size rfl (.tmp 46) (.tmp 50) 52 5 (.int .u8 0) 1 rfl Try.underlying52 info5 rfl (by decide) (by omega) u6 x6_2 (bt a0 x7_2) [.int .u8 (bt a0 x7_2)] (fun _ => True) (fun _ => False) rfl rfl ?aP (fun _ hk => hk.elim) ?aF ?aO ?aB ?aS ?aL ?_; (case aP => exact rfl); (case aB => exact (by repeat (first | (with_reducible first | exact HB.out | apply below_alloc | apply pw_below_drewN | apply below_drew1) | exact HB.out))); (case aF => exact (fun _ _ => trivial)); (case aO => exact (by (with_reducible repeat (first | apply Kd.R_alloc | apply Kd.R_drewN | apply Kd.R_drew)); exact HO_6.out)); (case aS => exact (below_size (by repeat (first | (with_reducible first | exact HB.out | apply below_alloc | apply pw_below_drewN | apply below_drew1) | exact HB.out)))); (case aL => have := LMc20.out; omega); intro v240 w21 ho hb hg hat; rw [← Ny239.out] at ho; have n0_ := Aside0.mk (hb); have n1_ := Aside0.mk (ho); clear HB; clear HO_6; have HB := n0_; have HO241 := n1_; clear n0_ n1_; clear ho hb hg hat))
                          go_roundg k2
                          case measure => have := HK1.out; have := HK2.out; omega
                          case rel => exact ⟨(y239), (wrap64 (x7_2 + 1)), (by first | rfl | (simp; done) | (simp [*]; done)), H', ⟨by have := HK1.out; have := HK2.out; omega⟩, ⟨by (with_reducible repeat (first | apply Kd.R_alloc | apply Kd.R_drewN | apply Kd.R_drew)); exact HO241.out⟩, ⟨by repeat (first | (with_reducible first | exact HB.out | apply below_alloc | apply pw_below_drewN | apply below_drew1) | exact HB.out)⟩⟩
                        · rw [if_neg c20] at H
                          exact absurd H (by simp)
                · rw [if_neg c12] at H
                  exact absurd H (by simp)
              · rw [if_neg c11] at H
                exact absurd H (by simp)
            · rw [if_neg c10] at H
              have c10b0 : decide (x7_2 ≤ x4_1) = false := decide_eq_false c10
              clear c10
              obtain rfl := Option.some.inj H
              have hcv22 := own_string (P := Try.prog) Try.underlying52 Try.underlying5 Try.underlying9 (Kd.own_of_R HO_6.out)
              go_wp2
              go_ret
              exact ⟨by first | rfl | (simp [errW_none, errW_some] <;> rfl) | (simp only [← hji7]; first | rfl | (simp [errW_none, errW_some] <;> rfl)) | (simp [*, errW_none, errW_some] <;> rfl), by repeat (first | (with_reducible first | exact HB.out | apply below_alloc | apply pw_below_drewN | apply below_drew1) | exact HB.out)⟩

/-! ### boltingref02_Letter: function 69 -/
def boltingref02_Letter.f (a0 : Int) : Option (Bool) := if a0 ≥ 65 then (if a0 ≤ 90 then (some true) else (if a0 ≥ 97 then (some (decide (a0 ≤ 122))) else (some false))) else (if a0 ≥ 97 then (some (decide (a0 ≤ 122))) else (some false))
set_option maxHeartbeats 8000000 in
set_option maxRecDepth 100000 in
theorem boltingref02_Letter.calls (a0 : Int) (r : Bool) (w : World) (h : boltingref02_Letter.f a0 = some r) :
    Calls Try.prog 69 #[.int .u8 a0] w fun e w' => e = .returned (.bool r) ∧ Drawn0 w w' := by
  have H : (if a0 ≥ 65 then (if a0 ≤ 90 then (some true) else (if a0 ≥ 97 then (some (decide (a0 ≤ 122))) else (some false))) else (if a0 ≥ 97 then (some (decide (a0 ≤ 122))) else (some false))) = some r := h
  clear h
  by_cases c2 : a0 ≥ 65
  · rw [if_pos c2] at H
    have c2b0 : decide (65 ≤ a0) = true := decide_eq_true c2
    clear c2
    by_cases c3 : a0 ≤ 90
    · rw [if_pos c3] at H
      have c3b0 : decide (a0 ≤ 90) = true := decide_eq_true c3
      clear c3
      obtain rfl := Option.some.inj H
      go_enter Try.func69, Try.ntmps69
      go_wp2
      go_ret
      exact ⟨by first | rfl | (simp; done) | (simp [*]; done) | (simp; generalize ByteArray.toList _ = l_; cases l_ <;> rfl), by repeat (first | exact Drawn0.refl _ | apply Drawn0.step)⟩
    · rw [if_neg c3] at H
      have c3b0 : decide (a0 ≤ 90) = false := decide_eq_false c3
      clear c3
      by_cases c4 : a0 ≥ 97
      · rw [if_pos c4] at H
        have c4b0 : decide (97 ≤ a0) = true := decide_eq_true c4
        clear c4
        obtain rfl := Option.some.inj H
        go_enter Try.func69, Try.ntmps69
        go_wp2
        go_ret
        exact ⟨by first | rfl | (simp; done) | (simp [*]; done) | (simp; generalize ByteArray.toList _ = l_; cases l_ <;> rfl), by repeat (first | exact Drawn0.refl _ | apply Drawn0.step)⟩
      · rw [if_neg c4] at H
        have c4b0 : decide (97 ≤ a0) = false := decide_eq_false c4
        clear c4
        obtain rfl := Option.some.inj H
        go_enter Try.func69, Try.ntmps69
        go_wp2
        go_ret
        exact ⟨by first | rfl | (simp; done) | (simp [*]; done) | (simp; generalize ByteArray.toList _ = l_; cases l_ <;> rfl), by repeat (first | exact Drawn0.refl _ | apply Drawn0.step)⟩
  · rw [if_neg c2] at H
    have c2b0 : decide (65 ≤ a0) = false := decide_eq_false c2
    clear c2
    by_cases c5 : a0 ≥ 97
    · rw [if_pos c5] at H
      have c5b0 : decide (97 ≤ a0) = true := decide_eq_true c5
      clear c5
      obtain rfl := Option.some.inj H
      go_enter Try.func69, Try.ntmps69
      go_wp2
      go_ret
      exact ⟨by first | rfl | (simp; done) | (simp [*]; done) | (simp; generalize ByteArray.toList _ = l_; cases l_ <;> rfl), by repeat (first | exact Drawn0.refl _ | apply Drawn0.step)⟩
    · rw [if_neg c5] at H
      have c5b0 : decide (97 ≤ a0) = false := decide_eq_false c5
      clear c5
      obtain rfl := Option.some.inj H
      go_enter Try.func69, Try.ntmps69
      go_wp2
      go_ret
      exact ⟨by first | rfl | (simp; done) | (simp [*]; done) | (simp; generalize ByteArray.toList _ = l_; cases l_ <;> rfl), by repeat (first | exact Drawn0.refl _ | apply Drawn0.step)⟩

end Go.Proofs.Ytakhldahohooiaa.Pr
namespace Go.Proofs.Ytakhldahohooiaa.Pr
open Go.RowKit Go.Proofs.YtakhldahohooiaaW.PrintWords Go.Proofs.YtakhldahohooiaaW.PrintLast Go.Proofs.YtakhldahohooiaaW.PrintMore
attribute [local go_sem] max2_int min2_int max_two min_two max_three min_three max_four min_four   -- for this text's walks alone
set_option linter.unusedVariables false
set_option linter.unusedSimpArgs false

/-! ### boltingref09_colon: function 55 -/
mutual
def boltingref09_colon.l0 : Nat → ByteArray → Int → Option (Int)
  | 0, _, _ => none
  | k + 1, x0, x3 => if x3 < (x0.size : Int) then (if 0 ≤ x3 then (if (bt x0 x3) = 58 then (boltingref09_colon.j1 k x0 x3 (bt x0 x3) (decide (x3 > 0))) else (boltingref09_colon.j1 k x0 x3 (bt x0 x3) false)) else (none)) else (some (-1))
def boltingref09_colon.j1 : Nat → ByteArray → Int → Int → Bool → Option (Int)
  | 0, _, _, _, _ => none
  | k + 1, x0, x3, x4, x19 => if x19 = true then (some x3) else ((boltingref02_Letter.f x4).bind fun t242 => (if t242 = true then (boltingref09_colon.l0 k x0 (wrap64 (x3 + 1))) else (if x3 = 0 then (some (-1)) else (if x4 ≥ 48 then (if x4 ≤ 57 then (boltingref09_colon.l0 k x0 (wrap64 (x3 + 1))) else (if x4 = 43 then (boltingref09_colon.l0 k x0 (wrap64 (x3 + 1))) else (if x4 = 45 then (boltingref09_colon.l0 k x0 (wrap64 (x3 + 1))) else (if x4 = 46 then (boltingref09_colon.l0 k x0 (wrap64 (x3 + 1))) else (some (-1)))))) else (if x4 = 43 then (boltingref09_colon.l0 k x0 (wrap64 (x3 + 1))) else (if x4 = 45 then (boltingref09_colon.l0 k x0 (wrap64 (x3 + 1))) else (if x4 = 46 then (boltingref09_colon.l0 k x0 (wrap64 (x3 + 1))) else (some (-1)))))))))
end
def boltingref09_colon.f (k : Nat) (a0 : ByteArray) : Option (Int) := boltingref09_colon.l0 k a0 0
set_option maxHeartbeats 8000000 in
set_option maxRecDepth 100000 in
theorem boltingref09_colon.calls (k : Nat) (a0 : ByteArray) (r : Int) (w : World) (h : boltingref09_colon.f k a0 = some r) :
    Calls Try.prog 55 #[.string a0] w fun e w' => e = .returned (.int .i64 r) ∧ Drawn0 w w' := by
  have H : (boltingref09_colon.l0 k a0 0) = some r := h
  clear h
  have H' := Aside0.mk H
  clear H
  go_enter Try.func55, Try.ntmps55
  go_wp2
  go_loopg [3] k (fun kq v3 w' => ∃ (x3_1 : Int), v3 = .int .i64 x3_1 ∧ Aside0 (boltingref09_colon.l0 kq a0 x3_1 = some r) ∧ Aside0 (kq ≤ k) ∧ Drawn0 w w')
  case atStart => exact ⟨(0), (by first | rfl | (simp; done) | (simp [*]; done)), H', ⟨Nat.le_refl _⟩, by repeat (first | exact Drawn0.refl _ | apply Drawn0.step)⟩
  case round =>
    clear H'
    obtain ⟨x3_1, rfl, HA, HK1, ⟨m1, rfl⟩⟩ := hrel
    cases gk with
    | zero => exact absurd HA.out (by simp [boltingref09_colon.l0])
    | succ k1 =>
      have H := HA.out
      clear HA
      simp only [boltingref09_colon.l0] at H
      by_cases c2 : x3_1 < (a0.size : Int)
      · rw [if_pos c2] at H
        have c2b0 : decide (x3_1 < (a0.size : Int)) = true := decide_eq_true c2
        clear c2
        by_cases c3 : 0 ≤ x3_1
        · rw [if_pos c3] at H
          have c3b0 : decide (0 ≤ x3_1) = true := decide_eq_true c3
          clear c3
          have HC5 := Aside0.mk H
          clear H
          have p4 : 0 ≤ (x3_1 : Int) := of_decide_eq_true (by first | (with_reducible assumption) | assumption)
          have q4 : x3_1 < (a0.size : Int) := of_decide_eq_true (by first | (with_reducible assumption) | assumption)
          have hx4 := bt_at a0 x3_1
          replace p4 := eq_true p4
          replace q4 := eq_true q4
          go_upto_region 5 with (fail)
          go_cut [19] (fun v19 wc => ∃ (kq : Nat) (x19_4 : Bool), v19 = .bool x19_4 ∧ Aside0 (boltingref09_colon.j1 kq a0 x3_1 (bt a0 x3_1) x19_4 = some r) ∧ Aside0 (kq ≤ k1) ∧ Drawn0 w wc)
          case first =>
            have H := HC5.out
            clear HC5
            by_cases c6 : (bt a0 x3_1) = 58
            · rw [if_pos c6] at H
              have c6b0 : ((bt a0 x3_1) == 58) = true := beq_iff_eq.mpr c6
              have c6b1 : ((bt a0 x3_1) != 58) = false := bne_eq_false_iff_eq.mpr c6
              clear c6
              (first | rw [c6b0] | (simp only [i64_w, i32_w]; rw [c6b0]) | skip)
              have H' := Aside0.mk H
              clear H
              go_wp2
              go_meet
              case rel => exact ⟨_, (decide (x3_1 > 0)), (by first | rfl | (simp; done) | (simp [*]; done)), H', ⟨by have := HK1.out; first | omega | exact Nat.le_refl _⟩, by repeat (first | exact Drawn0.refl _ | apply Drawn0.step)⟩
            · rw [if_neg c6] at H
              have c6b0 : ((bt a0 x3_1) == 58) = false := beq_eq_false_iff_ne.mpr c6
              have c6b1 : ((bt a0 x3_1) != 58) = true := bne_iff_ne.mpr c6
              (first | rw [c6b0] | (simp only [i64_w, i32_w]; rw [c6b0]) | skip)
              have H' := Aside0.mk H
              clear H
              go_wp2
              go_meet
              case rel => exact ⟨_, (false), (by first | rfl | (simp; done) | (simp [*]; done)), H', ⟨by have := HK1.out; first | omega | exact Nat.le_refl _⟩, by repeat (first | exact Drawn0.refl _ | apply Drawn0.step)⟩
          case rest =>
            clear HC5
            try clear c2
            try clear c2b0
            try clear p2
            try clear c3
            try clear c3b0
            try clear p4
            try clear q4
            try clear hx4
            try clear c5
            try clear c6
            try clear c6b0
            try clear c6b1
            try clear p4
            try clear q4
            obtain ⟨kq, x19_4, rfl, HA, HJ4, ⟨mc4, rfl⟩⟩ := hcut
            cases kq with
            | zero => exact absurd HA.out (by simp [boltingref09_colon.j1])
            | succ kj4 =>
              have H := HA.out
              clear HA
              simp only [boltingref09_colon.j1] at H
              by_cases c7 : x19_4 = true
              · subst c7
                have H1 : (some x3_1) = some r := by rw [if_pos rfl] at H; exact H
                clear H
                have H := H1
                clear H1
                obtain rfl := Option.some.inj H
                go_wp2
                go_ret
                exact ⟨by first | rfl | (simp; done) | (simp [*]; done) | (simp; generalize ByteArray.toList _ = l_; cases l_ <;> rfl), by repeat (first | exact Drawn0.refl _ | apply Drawn0.step)⟩
              · replace c7 := Bool.eq_false_iff.mpr c7
                subst c7
                have H1 : ((boltingref02_Letter.f (bt a0 x3_1)).bind fun t242 => (if t242 = true then (boltingref09_colon.l0 kj4 a0 (wrap64 (x3_1 + 1))) else (if x3_1 = 0 then (some (-1)) else (if (bt a0 x3_1) ≥ 48 then (if (bt a0 x3_1) ≤ 57 then (boltingref09_colon.l0 kj4 a0 (wrap64 (x3_1 + 1))) else (if (bt a0 x3_1) = 43 then (boltingref09_colon.l0 kj4 a0 (wrap64 (x3_1 + 1))) else (if (bt a0 x3_1) = 45 then (boltingref09_colon.l0 kj4 a0 (wrap64 (x3_1 + 1))) else (if (bt a0 x3_1) = 46 then (boltingref09_colon.l0 kj4 a0 (wrap64 (x3_1 + 1))) else (some (-1)))))) else (if (bt a0 x3_1) = 43 then (boltingref09_colon.l0 kj4 a0 (wrap64 (x3_1 + 1))) else (if (bt a0 x3_1) = 45 then (boltingref09_colon.l0 kj4 a0 (wrap64 (x3_1 + 1))) else (if (bt a0 x3_1) = 46 then (boltingref09_colon.l0 kj4 a0 (wrap64 (x3_1 + 1))) else (some (-1))))))))) = some r := by rw [if_neg (show ¬ (false = true) by decide)] at H; exact H
                clear H
                have H := H1
                clear H1
                replace H := Option.bind_eq_some_iff.mp H
                obtain ⟨t242, A80, H⟩ := H
                replace H : (if t242 = true then (boltingref09_colon.l0 kj4 a0 (wrap64 (x3_1 + 1))) else (if x3_1 = 0 then (some (-1)) else (if (bt a0 x3_1) ≥ 48 then (if (bt a0 x3_1) ≤ 57 then (boltingref09_colon.l0 kj4 a0 (wrap64 (x3_1 + 1))) else (if (bt a0 x3_1) = 43 then (boltingref09_colon.l0 kj4 a0 (wrap64 (x3_1 + 1))) else (if (bt a0 x3_1) = 45 then (boltingref09_colon.l0 kj4 a0 (wrap64 (x3_1 + 1))) else (if (bt a0 x3_1) = 46 then (boltingref09_colon.l0 kj4 a0 (wrap64 (x3_1 + 1))) else (some (-1)))))) else (if (bt a0 x3_1) = 43 then (boltingref09_colon.l0 kj4 a0 (wrap64 (x3_1 + 1))) else (if (bt a0 x3_1) = 45 then (boltingref09_colon.l0 kj4 a0 (wrap64 (x3_1 + 1))) else (if (bt a0 x3_1) = 46 then (boltingref09_colon.l0 kj4 a0 (wrap64 (x3_1 + 1))) else (some (-1)))))))) = some r := H
                have A8 := Aside0.mk A80
                clear A80
                by_cases c9 : t242 = true
                · subst c9
                  have H1 : (boltingref09_colon.l0 kj4 a0 (wrap64 (x3_1 + 1))) = some r := by rw [if_pos rfl] at H; exact H
                  clear H
                  have H := H1
                  clear H1
                  have H' := Aside0.mk H
                  clear H
                  go_wp2_with (first | ((with_reducible refine gate_callee (f := 69) rfl ?_); refine goesL_ (some 22) rfl rfl Try.func69 (by kernel_rfl) rfl #[.int .u8 (bt a0 x3_1)] rfl (by (try simp only [List.map_toArray, List.map_cons, List.map_nil]); first | done | rfl | (simp only [List.length_drop, List.length_take]; rfl)) ?_; (with_reducible refine (boltingref02_Letter.calls (bt a0 x3_1) true _ A8.out).mono ?_); rintro e w' ⟨rfl, ⟨nd, rfl⟩⟩; refine ⟨_, rfl, ?_⟩))
                  go_roundg kj4
                  case measure => have := HK1.out; have := HJ4.out; omega
                  case rel => exact ⟨(wrap64 (x3_1 + 1)), (by first | rfl | (simp; done) | (simp [*]; done)), H', ⟨by have := HK1.out; have := HJ4.out; omega⟩, by repeat (first | exact Drawn0.refl _ | apply Drawn0.step)⟩
                · replace c9 := Bool.eq_false_iff.mpr c9
                  subst c9
                  have H1 : (if x3_1 = 0 then (some (-1)) else (if (bt a0 x3_1) ≥ 48 then (if (bt a0 x3_1) ≤ 57 then (boltingref09_colon.l0 kj4 a0 (wrap64 (x3_1 + 1))) else (if (bt a0 x3_1) = 43 then (boltingref09_colon.l0 kj4 a0 (wrap64 (x3_1 + 1))) else (if (bt a0 x3_1) = 45 then (boltingref09_colon.l0 kj4 a0 (wrap64 (x3_1 + 1))) else (if (bt a0 x3_1) = 46 then (boltingref09_colon.l0 kj4 a0 (wrap64 (x3_1 + 1))) else (some (-1)))))) else (if (bt a0 x3_1) = 43 then (boltingref09_colon.l0 kj4 a0 (wrap64 (x3_1 + 1))) else (if (bt a0 x3_1) = 45 then (boltingref09_colon.l0 kj4 a0 (wrap64 (x3_1 + 1))) else (if (bt a0 x3_1) = 46 then (boltingref09_colon.l0 kj4 a0 (wrap64 (x3_1 + 1))) else (some (-1))))))) = some r := by rw [if_neg (show ¬ (false = true) by decide)] at H; exact H
                  clear H
                  have H := H1
                  clear H1
                  by_cases c10 : x3_1 = 0
                  · rw [if_pos c10] at H
                    have c10b0 : (x3_1 == 0) = true := beq_iff_eq.mpr c10
                    have c10b1 : (x3_1 != 0) = false := bne_eq_false_iff_eq.mpr c10
                    clear c10
                    obtain rfl := Option.some.inj H
                    go_wp2_with (first | ((with_reducible refine gate_callee (f := 69) rfl ?_); refine goesL_ (some 22) rfl rfl Try.func69 (by kernel_rfl) rfl #[.int .u8 (bt a0 x3_1)] rfl (by (try simp only [List.map_toArray, List.map_cons, List.map_nil]); first | done | rfl | (simp only [List.length_drop, List.length_take]; rfl)) ?_; (with_reducible refine (boltingref02_Letter.calls (bt a0 x3_1) false _ A8.out).mono ?_); rintro e w' ⟨rfl, ⟨nd, rfl⟩⟩; refine ⟨_, rfl, ?_⟩))
                    go_ret
                    exact ⟨by first | rfl | (simp; done) | (simp [*]; done) | (simp; generalize ByteArray.toList _ = l_; cases l_ <;> rfl), by repeat (first | exact Drawn0.refl _ | apply Drawn0.step)⟩
                  · rw [if_neg c10] at H
                    have c10b0 : (x3_1 == 0) = false := beq_eq_false_iff_ne.mpr c10
                    have c10b1 : (x3_1 != 0) = true := bne_iff_ne.mpr c10
                    by_cases c11 : (bt a0 x3_1) ≥ 48
                    · rw [if_pos c11] at H
                      have c11b0 : decide (48 ≤ (bt a0 x3_1)) = true := decide_eq_true c11
                      clear c11
                      by_cases c12 : (bt a0 x3_1) ≤ 57
                      · rw [if_pos c12] at H
                        have c12b0 : decide ((bt a0 x3_1) ≤ 57) = true := decide_eq_true c12
                        clear c12
                        have H' := Aside0.mk H
                        clear H
                        go_wp2_with (first | ((with_reducible refine gate_callee (f := 69) rfl ?_); refine goesL_ (some 22) rfl rfl Try.func69 (by kernel_rfl) rfl #[.int .u8 (bt a0 x3_1)] rfl (by (try simp only [List.map_toArray, List.map_cons, List.map_nil]); first | done | rfl | (simp only [List.length_drop, List.length_take]; rfl)) ?_; (with_reducible refine (boltingref02_Letter.calls (bt a0 x3_1) false _ A8.out).mono ?_); rintro e w' ⟨rfl, ⟨nd, rfl⟩⟩; refine ⟨_, rfl, ?_⟩))
                        go_roundg kj4
                        case measure => have := HK1.out; have := HJ4.out; omega
                        case rel => exact ⟨(wrap64 (x3_1 + 1)), (by first | rfl | (simp; done) | (simp [*]; done)), H', ⟨by have := HK1.out; have := HJ4.out; omega⟩, by repeat (first | exact Drawn0.refl _ | apply Drawn0.step)⟩
                      · rw [if_neg c12] at H
                        have c12b0 : decide ((bt a0 x3_1) ≤ 57) = false := decide_eq_false c12
                        clear c12
                        by_cases c13 : (bt a0 x3_1) = 43
                        · rw [if_pos c13] at H
                          have c13b0 : ((bt a0 x3_1) == 43) = true := beq_iff_eq.mpr c13
                          have c13b1 : ((bt a0 x3_1) != 43) = false := bne_eq_false_iff_eq.mpr c13
                          clear c13
                          have H' := Aside0.mk H
                          clear H
                          go_wp2_with (first | ((with_reducible refine gate_callee (f := 69) rfl ?_); refine goesL_ (some 22) rfl rfl Try.func69 (by kernel_rfl) rfl #[.int .u8 (bt a0 x3_1)] rfl (by (try simp only [List.map_toArray, List.map_cons, List.map_nil]); first | done | rfl | (simp only [List.length_drop, List.length_take]; rfl)) ?_; (with_reducible refine (boltingref02_Letter.calls (bt a0 x3_1) false _ A8.out).mono ?_); rintro e w' ⟨rfl, ⟨nd, rfl⟩⟩; refine ⟨_, rfl, ?_⟩))
                          go_roundg kj4
                          case measure => have := HK1.out; have := HJ4.out; omega
                          case rel => exact ⟨(wrap64 (x3_1 + 1)), (by first | rfl | (simp; done) | (simp [*]; done)), H', ⟨by have := HK1.out; have := HJ4.out; omega⟩, by repeat (first | exact Drawn0.refl _ | apply Drawn0.step)⟩
                        · rw [if_neg c13] at H
                          have c13b0 : ((bt a0 x3_1) == 43) = false := beq_eq_false_iff_ne.mpr c13
                          have c13b1 : ((bt a0 x3_1) != 43) = true := bne_iff_ne.mpr c13
                          by_cases c14 : (bt a0 x3_1) = 45
                          · rw [if_pos c14] at H
                            have c14b0 : ((bt a0 x3_1) == 45) = true := beq_iff_eq.mpr c14
                            have c14b1 : ((bt a0 x3_1) != 45) = false := bne_eq_false_iff_eq.mpr c14
                            clear c14
                            have H' := Aside0.mk H
                            clear H
                            go_wp2_with (first | ((with_reducible refine gate_callee (f := 69) rfl ?_); refine goesL_ (some 22) rfl rfl Try.func69 (by kernel_rfl) rfl #[.int .u8 (bt a0 x3_1)] rfl (by (try simp only [List.map_toArray, List.map_cons, List.map_nil]); first | done | rfl | (simp only [List.length_drop, List.length_take]; rfl)) ?_; (with_reducible refine (boltingref02_Letter.calls (bt a0 x3_1) false _ A8.out).mono ?_); rintro e w' ⟨rfl, ⟨nd, rfl⟩⟩; refine ⟨_, rfl, ?_⟩))
                            go_roundg kj4
                            case measure => have := HK1.out; have := HJ4.out; omega
                            case rel => exact ⟨(wrap64 (x3_1 + 1)), (by first | rfl | (simp; done) | (simp [*]; done)), H', ⟨by have := HK1.out; have := HJ4.out; omega⟩, by repeat (first | exact Drawn0.refl _ | apply Drawn0.step)⟩
                          · rw [if_neg c14] at H
                            have c14b0 : ((bt a0 x3_1) == 45) = false := beq_eq_false_iff_ne.mpr c14
                            have c14b1 : ((bt a0 x3_1) != 45) = true := bne_iff_ne.mpr c14
                            by_cases c15 : (bt a0 x3_1) = 46
                            · rw [if_pos c15] at H
                              have c15b0 : ((bt a0 x3_1) == 46) = true := beq_iff_eq.mpr c15
                              have c15b1 : ((bt a0 x3_1) != 46) = false := bne_eq_false_iff_eq.mpr c15
                              clear c15
                              have H' := Aside0.mk H
                              clear H
                              go_wp2_with (first | ((with_reducible refine gate_callee (f := 69) rfl ?_); refine goesL_ (some 22) rfl rfl Try.func69 (by kernel_rfl) rfl #[.int .u8 (bt a0 x3_1)] rfl (by (try simp only [List.map_toArray, List.map_cons, List.map_nil]); first | done | rfl | (simp only [List.length_drop, List.length_take]; rfl)) ?_; (with_reducible refine (boltingref02_Letter.calls (bt a0 x3_1) false _ A8.out).mono ?_); rintro e w' ⟨rfl, ⟨nd, rfl⟩⟩; refine ⟨_, rfl, ?_⟩))
                              go_roundg kj4
                              case measure => have := HK1.out; have := HJ4.out; omega
                              case rel => exact ⟨(wrap64 (x3_1 + 1)), (by first | rfl | (simp; done) | (simp [*]; done)), H', ⟨by have := HK1.out; have := HJ4.out; omega⟩, by repeat (first | exact Drawn0.refl _ | apply Drawn0.step)⟩
                            · rw [if_neg c15] at H
                              have c15b0 : ((bt a0 x3_1) == 46) = false := beq_eq_false_iff_ne.mpr c15
                              have c15b1 : ((bt a0 x3_1) != 46) = true := bne_iff_ne.mpr c15
                              obtain rfl := Option.some.inj H
                              go_wp2_with (first | ((with_reducible refine gate_callee (f := 69) rfl ?_); refine goesL_ (some 22) rfl rfl Try.func69 (by kernel_rfl) rfl #[.int .u8 (bt a0 x3_1)] rfl (by (try simp only [List.map_toArray, List.map_cons, List.map_nil]); first | done | rfl | (simp only [List.length_drop, List.length_take]; rfl)) ?_; (with_reducible refine (boltingref02_Letter.calls (bt a0 x3_1) false _ A8.out).mono ?_); rintro e w' ⟨rfl, ⟨nd, rfl⟩⟩; refine ⟨_, rfl, ?_⟩))
                              go_ret
                              exact ⟨by first | rfl | (simp; done) | (simp [*]; done) | (simp; generalize ByteArray.toList _ = l_; cases l_ <;> rfl), by repeat (first | exact Drawn0.refl _ | apply Drawn0.step)⟩
                    · rw [if_neg c11] at H
                      have c11b0 : decide (48 ≤ (bt a0 x3_1)) = false := decide_eq_false c11
                      clear c11
                      by_cases c16 : (bt a0 x3_1) = 43
                      · rw [if_pos c16] at H
                        have c16b0 : ((bt a0 x3_1) == 43) = true := beq_iff_eq.mpr c16
                        have c16b1 : ((bt a0 x3_1) != 43) = false := bne_eq_false_iff_eq.mpr c16
                        clear c16
                        have H' := Aside0.mk H
                        clear H
                        go_wp2_with (first | ((with_reducible refine gate_callee (f := 69) rfl ?_); refine goesL_ (some 22) rfl rfl Try.func69 (by kernel_rfl) rfl #[.int .u8 (bt a0 x3_1)] rfl (by (try simp only [List.map_toArray, List.map_cons, List.map_nil]); first | done | rfl | (simp only [List.length_drop, List.length_take]; rfl)) ?_; (with_reducible refine (boltingref02_Letter.calls (bt a0 x3_1) false _ A8.out).mono ?_); rintro e w' ⟨rfl, ⟨nd, rfl⟩⟩; refine ⟨_, rfl, ?_⟩))
                        go_roundg kj4
                        case measure => have := HK1.out; have := HJ4.out; omega
                        case rel => exact ⟨(wrap64 (x3_1 + 1)), (by first | rfl | (simp; done) | (simp [*]; done)), H', ⟨by have := HK1.out; have := HJ4.out; omega⟩, by repeat (first | exact Drawn0.refl _ | apply Drawn0.step)⟩
                      · rw [if_neg c16] at H
                        have c16b0 : ((bt a0 x3_1) == 43) = false := beq_eq_false_iff_ne.mpr c16
                        have c16b1 : ((bt a0 x3_1) != 43) = true := bne_iff_ne.mpr c16
                        by_cases c17 : (bt a0 x3_1) = 45
                        · rw [if_pos c17] at H
                          have c17b0 : ((bt a0 x3_1) == 45) = true := beq_iff_eq.mpr c17
                          have c17b1 : ((bt a0 x3_1) != 45) = false := bne_eq_false_iff_eq.mpr c17
                          clear c17
                          have H' := Aside0.mk H
                          clear H
                          go_wp2_with (first | ((with_reducible refine gate_callee (f := 69) rfl ?_); refine goesL_ (some 22) rfl rfl Try.func69 (by kernel_rfl) rfl #[.int .u8 (bt a0 x3_1)] rfl (by (try simp only [List.map_toArray, List.map_cons, List.map_nil]); first | done | rfl | (simp only [List.length_drop, List.length_take]; rfl)) ?_; (with_reducible refine (boltingref02_Letter.calls (bt a0 x3_1) false _ A8.out).mono ?_); rintro e w' ⟨rfl, ⟨nd, rfl⟩⟩; refine ⟨_, rfl, ?_⟩))
                          go_roundg kj4
                          case measure => have := HK1.out; have := HJ4.out; omega
                          case rel => exact ⟨(wrap64 (x3_1 + 1)), (by first | rfl | (simp; done) | (simp [*]; done)), H', ⟨by have := HK1.out; have := HJ4.out; omega⟩, by repeat (first | exact Drawn0.refl _ | apply Drawn0.step)⟩
                        · rw [if_neg c17] at H
                          have c17b0 : ((bt a0 x3_1) == 45) = false := beq_eq_false_iff_ne.mpr c17
                          have c17b1 : ((bt a0 x3_1) != 45) = true := bne_iff_ne.mpr c17
                          by_cases c18 : (bt a0 x3_1) = 46
                          · rw [if_pos c18] at H
                            have c18b0 : ((bt a0 x3_1) == 46) = true := beq_iff_eq.mpr c18
                            have c18b1 : ((bt a0 x3_1) != 46) = false := bne_eq_false_iff_eq.mpr c18
                            clear c18
                            have H' := Aside0.mk H
                            clear H
                            go_wp2_with (first | ((with_reducible refine gate_callee (f := 69) rfl ?_); refine goesL_ (some 22) rfl rfl Try.func69 (by kernel_rfl) rfl #[.int .u8 (bt a0 x3_1)] rfl (by (try simp only [List.map_toArray, List.map_cons, List.map_nil]); first | done | rfl | (simp only [List.length_drop, List.length_take]; rfl)) ?_; (with_reducible refine (boltingref02_Letter.calls (bt a0 x3_1) false _ A8.out).mono ?_); rintro e w' ⟨rfl, ⟨nd, rfl⟩⟩; refine ⟨_, rfl, ?_⟩))
                            go_roundg kj4
                            case measure => have := HK1.out; have := HJ4.out; omega
                            case rel => exact ⟨(wrap64 (x3_1 + 1)), (by first | rfl | (simp; done) | (simp [*]; done)), H', ⟨by have := HK1.out; have := HJ4.out; omega⟩, by repeat (first | exact Drawn0.refl _ | apply Drawn0.step)⟩
                          · rw [if_neg c18] at H
                            have c18b0 : ((bt a0 x3_1) == 46) = false := beq_eq_false_iff_ne.mpr c18
                            have c18b1 : ((bt a0 x3_1) != 46) = true := bne_iff_ne.mpr c18
                            obtain rfl := Option.some.inj H
                            go_wp2_with (first | ((with_reducible refine gate_callee (f := 69) rfl ?_); refine goesL_ (some 22) rfl rfl Try.func69 (by kernel_rfl) rfl #[.int .u8 (bt a0 x3_1)] rfl (by (try simp only [List.map_toArray, List.map_cons, List.map_nil]); first | done | rfl | (simp only [List.length_drop, List.length_take]; rfl)) ?_; (with_reducible refine (boltingref02_Letter.calls (bt a0 x3_1) false _ A8.out).mono ?_); rintro e w' ⟨rfl, ⟨nd, rfl⟩⟩; refine ⟨_, rfl, ?_⟩))
                            go_ret
                            exact ⟨by first | rfl | (simp; done) | (simp [*]; done) | (simp; generalize ByteArray.toList _ = l_; cases l_ <;> rfl), by repeat (first | exact Drawn0.refl _ | apply Drawn0.step)⟩
        · rw [if_neg c3] at H
          exact absurd H (by simp)
      · rw [if_neg c2] at H
        have c2b0 : decide (x3_1 < (a0.size : Int)) = false := decide_eq_false c2
        clear c2
        obtain rfl := Option.some.inj H
        go_wp2
        go_ret
        exact ⟨by first | rfl | (simp; done) | (simp [*]; done) | (simp; generalize ByteArray.toList _ = l_; cases l_ <;> rfl), by repeat (first | exact Drawn0.refl _ | apply Drawn0.step)⟩

/-! ### boltingref09_Scheme: function 52 -/
def boltingref09_Scheme.f (k : Nat) (a0 : ByteArray) : Option (ByteArray × Bool) := (boltingref09_Strip.f k a0).bind fun t243 => ((boltingref09_colon.f k t243).bind fun t244 => (if t244 < 0 then (some ((⟨#[]⟩ : ByteArray), false)) else (if 0 ≤ t244 then (if t244 ≤ (t243.size : Int) then ((boltingref02_Lower.f (t243.extract 0 (t244 : Int).toNat)).bind fun t245 => (some (t245, true))) else (none)) else (none))))
set_option maxHeartbeats 8000000 in
set_option maxRecDepth 100000 in
theorem boltingref09_Scheme.calls (k : Nat) (a0 : ByteArray) (r1 : ByteArray) (r2 : Bool) (w : World) (h : boltingref09_Scheme.f k a0 = some (r1, r2)) :
    Calls Try.prog 52 #[.string a0] w fun e w' => e = .returned (.tuple #[.string r1, .bool r2]) ∧ Below w.heap.size w w' := by
  have HB := Aside0.mk (Below.refl w.heap.size w)
  have H : ((boltingref09_Strip.f k a0).bind fun t243 => ((boltingref09_colon.f k t243).bind fun t244 => (if t244 < 0 then (some ((⟨#[]⟩ : ByteArray), false)) else (if 0 ≤ t244 then (if t244 ≤ (t243.size : Int) then ((boltingref02_Lower.f (t243.extract 0 (t244 : Int).toNat)).bind fun t245 => (some (t245, true))) else (none)) else (none))))) = some (r1, r2) := h
  clear h
  replace H := Option.bind_eq_some_iff.mp H
  obtain ⟨t243, A20, H⟩ := H
  replace H : ((boltingref09_colon.f k t243).bind fun t244 => (if t244 < 0 then (some ((⟨#[]⟩ : ByteArray), false)) else (if 0 ≤ t244 then (if t244 ≤ (t243.size : Int) then ((boltingref02_Lower.f (t243.extract 0 (t244 : Int).toNat)).bind fun t245 => (some (t245, true))) else (none)) else (none)))) = some (r1, r2) := H
  have A2 := Aside0.mk A20
  clear A20
  replace H := Option.bind_eq_some_iff.mp H
  obtain ⟨t244, A30, H⟩ := H
  replace H : (if t244 < 0 then (some ((⟨#[]⟩ : ByteArray), false)) else (if 0 ≤ t244 then (if t244 ≤ (t243.size : Int) then ((boltingref02_Lower.f (t243.extract 0 (t244 : Int).toNat)).bind fun t245 => (some (t245, true))) else (none)) else (none))) = some (r1, r2) := H
  have A3 := Aside0.mk A30
  clear A30
  by_cases c4 : t244 < 0
  · rw [if_pos c4] at H
    have c4b0 : decide (t244 < 0) = true := decide_eq_true c4
    clear c4
    simp only [Option.some.injEq, Prod.mk.injEq] at H
    obtain ⟨rfl, rfl⟩ := H
    go_enter Try.func52, Try.ntmps52
    go_wp2_with (first | ((with_reducible refine gate_callee (f := 53) rfl ?_); refine goesL_ (some 7) rfl rfl Try.func53 (by kernel_rfl) rfl #[.string a0] rfl (by (try simp only [List.map_toArray, List.map_cons, List.map_nil]); first | done | rfl | (simp only [List.length_drop, List.length_take]; rfl)) ?_; (with_reducible refine (boltingref09_Strip.calls k a0 t243 _ A2.out).mono ?_); rintro e w5 ⟨rfl, hb⟩; refine ⟨_, rfl, ?_⟩; have n0_ := Aside0.mk (below_step (by repeat (first | (with_reducible first | exact HB.out | apply below_alloc | apply pw_below_drewN | apply below_drew1) | exact HB.out)) hb); clear HB; have HB := n0_; clear n0_; (try clear hb); (try clear hb2); (try clear hk); (try clear hi)) | ((with_reducible refine gate_callee (f := 55) rfl ?_); refine goesL_ (some 9) rfl rfl Try.func55 (by kernel_rfl) rfl #[.string t243] rfl (by (try simp only [List.map_toArray, List.map_cons, List.map_nil]); first | done | rfl | (simp only [List.length_drop, List.length_take]; rfl)) ?_; (with_reducible refine (boltingref09_colon.calls k t243 t244 _ A3.out).mono ?_); rintro e w' ⟨rfl, ⟨nd, rfl⟩⟩; refine ⟨_, rfl, ?_⟩))
    go_ret2
    exact ⟨by first | rfl | (simp [errW_none, errW_some] <;> rfl) | (simp [*, errW_none, errW_some] <;> rfl), by repeat (first | (with_reducible first | exact HB.out | apply below_alloc | apply pw_below_drewN | apply below_drew1) | exact HB.out)⟩
  · rw [if_neg c4] at H
    have c4b0 : decide (t244 < 0) = false := decide_eq_false c4
    clear c4
    by_cases c6 : 0 ≤ t244
    · rw [if_pos c6] at H
      have c6b0 := eq_true c6
      have c6b1 : decide (0 ≤ t244) = true := decide_eq_true c6
      clear c6
      by_cases c7 : t244 ≤ (t243.size : Int)
      · rw [if_pos c7] at H
        have c7b0 := eq_true c7
        have c7b1 : decide (t244 ≤ (t243.size : Int)) = true := decide_eq_true c7
        clear c7
        replace H := Option.bind_eq_some_iff.mp H
        obtain ⟨t245, A80, H⟩ := H
        replace H : (some (t245, true)) = some (r1, r2) := H
        have A8 := Aside0.mk A80
        clear A80
        simp only [Option.some.injEq, Prod.mk.injEq] at H
        obtain ⟨rfl, rfl⟩ := H
        go_enter Try.func52, Try.ntmps52
        go_wp2_with (first | ((with_reducible refine gate_callee (f := 53) rfl ?_); refine goesL_ (some 7) rfl rfl Try.func53 (by kernel_rfl) rfl #[.string a0] rfl (by (try simp only [List.map_toArray, List.map_cons, List.map_nil]); first | done | rfl | (simp only [List.length_drop, List.length_take]; rfl)) ?_; (with_reducible refine (boltingref09_Strip.calls k a0 t243 _ A2.out).mono ?_); rintro e w9 ⟨rfl, hb⟩; refine ⟨_, rfl, ?_⟩; have n0_ := Aside0.mk (below_step (by repeat (first | (with_reducible first | exact HB.out | apply below_alloc | apply pw_below_drewN | apply below_drew1) | exact HB.out)) hb); clear HB; have HB := n0_; clear n0_; (try clear hb); (try clear hb2); (try clear hk); (try clear hi)) | ((with_reducible refine gate_callee (f := 55) rfl ?_); refine goesL_ (some 9) rfl rfl Try.func55 (by kernel_rfl) rfl #[.string t243] rfl (by (try simp only [List.map_toArray, List.map_cons, List.map_nil]); first | done | rfl | (simp only [List.length_drop, List.length_take]; rfl)) ?_; (with_reducible refine (boltingref09_colon.calls k t243 t244 _ A3.out).mono ?_); rintro e w' ⟨rfl, ⟨nd, rfl⟩⟩; refine ⟨_, rfl, ?_⟩) | ((with_reducible refine gate_callee (f := 67) rfl ?_); refine goesL_ (some 15) rfl rfl Try.func67 (by kernel_rfl) rfl #[.string (t243.extract 0 (t244 : Int).toNat)] rfl (by (try simp only [List.map_toArray, List.map_cons, List.map_nil]); first | done | rfl | (simp only [List.length_drop, List.length_take]; rfl)) ?_; (with_reducible refine (boltingref02_Lower.calls (t243.extract 0 (t244 : Int).toNat) t245 _ A8.out).mono ?_); rintro e w10 ⟨rfl, hb⟩; refine ⟨_, rfl, ?_⟩; have n0_ := Aside0.mk (below_step (by repeat (first | (with_reducible first | exact HB.out | apply below_alloc | apply pw_below_drewN | apply below_drew1) | exact HB.out)) hb); clear HB; have HB := n0_; clear n0_; (try clear hb); (try clear hb2); (try clear hk); (try clear hi)))
        go_ret2
        exact ⟨by first | rfl | (simp [errW_none, errW_some] <;> rfl) | (simp [*, errW_none, errW_some] <;> rfl), by repeat (first | (with_reducible first | exact HB.out | apply below_alloc | apply pw_below_drewN | apply below_drew1) | exact HB.out)⟩
      · rw [if_neg c7] at H
        exact absurd H (by simp)
    · rw [if_neg c6] at H
      exact absurd H (by simp)

/-! ### boltingref09_digit: function 68 -/
mutual
def boltingref09_digit.j0 : Nat → Int → Bool → Option (Int)
  | 0, _, _ => none
  | k + 1, x0, x8 => if x8 = true then (some (wrap64 ((wrap64 (x0)) - 48))) else (if x0 ≥ 97 then (boltingref09_digit.j1 k x0 (decide (x0 ≤ 102))) else (boltingref09_digit.j1 k x0 false))
def boltingref09_digit.j1 : Nat → Int → Bool → Option (Int)
  | 0, _, _ => none
  | k + 1, x0, x17 => if x17 = true then (some (wrap64 ((wrap64 (x0)) - 87))) else (if x0 ≥ 65 then (if x0 ≤ 70 then (some (wrap64 ((wrap64 (x0)) - 55))) else (some (-1))) else (some (-1)))
end
def boltingref09_digit.f (k : Nat) (a0 : Int) : Option (Int) := if a0 ≥ 48 then (boltingref09_digit.j0 k a0 (decide (a0 ≤ 57))) else (boltingref09_digit.j0 k a0 false)
set_option maxHeartbeats 8000000 in
set_option maxRecDepth 100000 in
theorem boltingref09_digit.calls (k : Nat) (a0 : Int) (r : Int) (w : World) (h : boltingref09_digit.f k a0 = some r) :
    Calls Try.prog 68 #[.int .u8 a0] w fun e w' => e = .returned (.int .i64 r) ∧ Drawn0 w w' := by
  have H : (if a0 ≥ 48 then (boltingref09_digit.j0 k a0 (decide (a0 ≤ 57))) else (boltingref09_digit.j0 k a0 false)) = some r := h
  clear h
  have HC2 := Aside0.mk H
  clear H
  go_enter Try.func68, Try.ntmps68
  go_upto_region 1 with (fail)
  go_cut [8] (fun v8 wc => ∃ (kq : Nat) (x8_1 : Bool), v8 = .bool x8_1 ∧ Aside0 (boltingref09_digit.j0 kq a0 x8_1 = some r) ∧ Aside0 (kq ≤ k) ∧ Drawn0 w wc)
  case first =>
    have H := HC2.out
    clear HC2
    by_cases c3 : a0 ≥ 48
    · rw [if_pos c3] at H
      have c3b0 : decide (48 ≤ a0) = true := decide_eq_true c3
      clear c3
      (first | rw [c3b0] | (simp only [i64_w, i32_w]; rw [c3b0]) | skip)
      have H' := Aside0.mk H
      clear H
      go_wp2
      go_meet
      case rel => exact ⟨_, (decide (a0 ≤ 57)), (by first | rfl | (simp; done) | (simp [*]; done)), H', ⟨by first | omega | exact Nat.le_refl _⟩, by repeat (first | exact Drawn0.refl _ | apply Drawn0.step)⟩
    · rw [if_neg c3] at H
      have c3b0 : decide (48 ≤ a0) = false := decide_eq_false c3
      clear c3
      (first | rw [c3b0] | (simp only [i64_w, i32_w]; rw [c3b0]) | skip)
      have H' := Aside0.mk H
      clear H
      go_wp2
      go_meet
      case rel => exact ⟨_, (false), (by first | rfl | (simp; done) | (simp [*]; done)), H', ⟨by first | omega | exact Nat.le_refl _⟩, by repeat (first | exact Drawn0.refl _ | apply Drawn0.step)⟩
  case rest =>
    clear HC2
    try clear p2
    try clear c3
    try clear c3b0
    obtain ⟨kq, x8_1, rfl, HA, HJ1, ⟨mc1, rfl⟩⟩ := hcut
    cases kq with
    | zero => exact absurd HA.out (by simp [boltingref09_digit.j0])
    | succ kj1 =>
      have H := HA.out
      clear HA
      simp only [boltingref09_digit.j0] at H
      by_cases c4 : x8_1 = true
      · subst c4
        have H1 : (some (wrap64 ((wrap64 (a0)) - 48))) = some r := by rw [if_pos rfl] at H; exact H
        clear H
        have H := H1
        clear H1
        obtain rfl := Option.some.inj H
        go_wp2
        go_ret
        exact ⟨by first | rfl | (simp; done) | (simp [*]; done) | (simp; generalize ByteArray.toList _ = l_; cases l_ <;> rfl), by repeat (first | exact Drawn0.refl _ | apply Drawn0.step)⟩
      · replace c4 := Bool.eq_false_iff.mpr c4
        subst c4
        have H1 : (if a0 ≥ 97 then (boltingref09_digit.j1 kj1 a0 (decide (a0 ≤ 102))) else (boltingref09_digit.j1 kj1 a0 false)) = some r := by rw [if_neg (show ¬ (false = true) by decide)] at H; exact H
        clear H
        have H := H1
        clear H1
        have HC5 := Aside0.mk H
        clear H
        go_upto_region 3 with (fail)
        go_cut [17] (fun v17 wc => ∃ (kq : Nat) (x17_4 : Bool), v17 = .bool x17_4 ∧ Aside0 (boltingref09_digit.j1 kq a0 x17_4 = some r) ∧ Aside0 (kq ≤ kj1) ∧ Drawn0 w wc)
        case first =>
          have H := HC5.out
          clear HC5
          by_cases c6 : a0 ≥ 97
          · rw [if_pos c6] at H
            have c6b0 : decide (97 ≤ a0) = true := decide_eq_true c6
            clear c6
            (first | rw [c6b0] | (simp only [i64_w, i32_w]; rw [c6b0]) | skip)
            have H' := Aside0.mk H
            clear H
            go_wp2
            go_meet
            case rel => exact ⟨_, (decide (a0 ≤ 102)), (by first | rfl | (simp; done) | (simp [*]; done)), H', ⟨by have := HJ1.out; first | omega | exact Nat.le_refl _⟩, by repeat (first | exact Drawn0.refl _ | apply Drawn0.step)⟩
          · rw [if_neg c6] at H
            have c6b0 : decide (97 ≤ a0) = false := decide_eq_false c6
            clear c6
            (first | rw [c6b0] | (simp only [i64_w, i32_w]; rw [c6b0]) | skip)
            have H' := Aside0.mk H
            clear H
            go_wp2
            go_meet
            case rel => exact ⟨_, (false), (by first | rfl | (simp; done) | (simp [*]; done)), H', ⟨by have := HJ1.out; first | omega | exact Nat.le_refl _⟩, by repeat (first | exact Drawn0.refl _ | apply Drawn0.step)⟩
        case rest =>
          clear HC5
          try clear c1
          try clear p2
          try clear c3
          try clear c3b0
          try clear c4
          try clear c6
          try clear c6b0
          try clear p6
          try clear p2
          obtain ⟨kq, x17_4, rfl, HA, HJ4, ⟨mc4, rfl⟩⟩ := hcut
          cases kq with
          | zero => exact absurd HA.out (by simp [boltingref09_digit.j1])
          | succ kj4 =>
            have H := HA.out
            clear HA
            simp only [boltingref09_digit.j1] at H
            by_cases c7 : x17_4 = true
            · subst c7
              have H1 : (some (wrap64 ((wrap64 (a0)) - 87))) = some r := by rw [if_pos rfl] at H; exact H
              clear H
              have H := H1
              clear H1
              obtain rfl := Option.some.inj H
              go_wp2
              go_ret
              exact ⟨by first | rfl | (simp; done) | (simp [*]; done) | (simp; generalize ByteArray.toList _ = l_; cases l_ <;> rfl), by repeat (first | exact Drawn0.refl _ | apply Drawn0.step)⟩
            · replace c7 := Bool.eq_false_iff.mpr c7
              subst c7
              have H1 : (if a0 ≥ 65 then (if a0 ≤ 70 then (some (wrap64 ((wrap64 (a0)) - 55))) else (some (-1))) else (some (-1))) = some r := by rw [if_neg (show ¬ (false = true) by decide)] at H; exact H
              clear H
              have H := H1
              clear H1
              by_cases c8 : a0 ≥ 65
              · rw [if_pos c8] at H
                have c8b0 : decide (65 ≤ a0) = true := decide_eq_true c8
                clear c8
                by_cases c9 : a0 ≤ 70
                · rw [if_pos c9] at H
                  have c9b0 : decide (a0 ≤ 70) = true := decide_eq_true c9
                  clear c9
                  obtain rfl := Option.some.inj H
                  go_wp2
                  go_ret
                  exact ⟨by first | rfl | (simp; done) | (simp [*]; done) | (simp; generalize ByteArray.toList _ = l_; cases l_ <;> rfl), by repeat (first | exact Drawn0.refl _ | apply Drawn0.step)⟩
                · rw [if_neg c9] at H
                  have c9b0 : decide (a0 ≤ 70) = false := decide_eq_false c9
                  clear c9
                  obtain rfl := Option.some.inj H
                  go_wp2
                  go_ret
                  exact ⟨by first | rfl | (simp; done) | (simp [*]; done) | (simp; generalize ByteArray.toList _ = l_; cases l_ <;> rfl), by repeat (first | exact Drawn0.refl _ | apply Drawn0.step)⟩
              · rw [if_neg c8] at H
                have c8b0 : decide (65 ≤ a0) = false := decide_eq_false c8
                clear c8
                obtain rfl := Option.some.inj H
                go_wp2
                go_ret
                exact ⟨by first | rfl | (simp; done) | (simp [*]; done) | (simp; generalize ByteArray.toList _ = l_; cases l_ <;> rfl), by repeat (first | exact Drawn0.refl _ | apply Drawn0.step)⟩

end Go.Proofs.Ytakhldahohooiaa.Pr
