/- The row of LoopDoes. -/
import Derived.Test.YtldbplagenjooaaRows
import Derived.Test.YtldbplagenjooaaOpensS
import Derived.Test.YtldbplagenjooaaPrxDoes
import Derived.Test.YtldbplagenjooaaPureLoopDoes
import Derived.WalkKit
import Derived.ProofKit
import Derived.OpenShut
import Derived.ShutString
import Derived.ChangeOld
import Derived.Below
import Derived.SizedLaws
namespace Go.Proofs.Ytldbplagenjooaa.loopDoes
open Go.ChangeShapes Go.WideShapes Go.ChangeAt Go.RowKit
open Go.ChangeMaps (open_string shut_string)
set_option linter.unusedVariables false
set_option linter.unusedSimpArgs false
theorem own : ownKnob Try.prog.godebug = none := by kernel_rfl
theorem laidOut : laidOutB Try.prog = true := by kernel_rfl
set_option maxRecDepth 100000 in
theorem lifted (os : Os) (started : os.Started) (H : Type) (enc : TypeId × Value → H) :
    ReturnsInHanded {} Try.checked os 7 .any (Rows.loopDoesSpec.pre6 enc Try.prog Try.f7 Rows.loopDoesRow.domain false) (Rows.loopDoesSpec.post enc Try.prog Try.f7 false true false false) := by
  refine returnsInHanded_of_change_sized (C := Try.checked) own started (by kernel_rfl) Try.func7
    (ChangeSpec.witness6 (enc := enc) (C := Try.checked) false ⟨#[], #[.slice none 0 0], []⟩ 8 (by kernel_rfl) (by kernel_rfl) (by kernel_rfl) (by kernel_rfl)) ?_
  intro W base args ds gs before hval0 hW hcnd hsz0 _
  have hsz : (DataW.weightsEach Try.prog (Try.f7.params.toList ++ Rows.loopDoesSpec.plain.varTypes Try.prog) (ds ++ gs)).all (· ≤ reachBytes) = true := hsz0
  have hval : ∀ (j : Nat) t v, Try.f7.params[j]? = some t → args[j]? = some v → Value.okWide Try.prog W .any base t v := hval0
  have hW' := hW
  obtain ⟨p, q, hA0, hV, rfl, hfz, hnd⟩ := hW
  have hA : DataW.TrodAll enc Try.prog W 0 (fun _ => true) true Try.f7.params.toList args.toList ds p := hA0
  rw [Try.params7] at hA hval hsz
  obtain ⟨v0, vs0, d0, ds0, p0, q0, hargs, rfl, rfl, h0, r0⟩ := trodAll_cons hA
  obtain ⟨rfl, rfl, rfl⟩ := trodAll_nil r0
  obtain rfl : args = #[v0] := by cases args; simp_all
  obtain ⟨rfl, rfl⟩ := trodVars_none hV
  have k0 := h0
  have lt0 : ∀ x ∈ p0, x.block < W.heap.size := by obtain ⟨m, hm⟩ := k0; exact DataW.trod_lt m _ _ _ hm
  obtain ⟨sa0, sn0, sc0, rfl⟩ := okWide_slice Try.underlying41 (hval 0 41 v0 rfl rfl)
  obtain ⟨fu0, hf0⟩ := h0
  obtain ⟨A0, c0, l0, hv0, hc0, hm0, hr0, hS0⟩ := opensS_row Try.underlying41 (opensS_struct (fun x : Pr.S45 => (x.f0, x.f1, x.f2)) Try.underlying45 rfl (by kernel_rfl) (opensTail_cons rfl (opensS_int (by kernel_rfl) Try.underlying3) (opensTail_cons rfl (opensS_int (by kernel_rfl) Try.underlying3) (opensTail_last rfl (opensS_string (by kernel_rfl) Try.underlying9)))) (fun a => ⟨⟨a.1, a.2.1, a.2.2⟩, rfl⟩)) hf0 (fun n hn => by simpa using List.all_eq_true.1 hsz n (DataW.weights_mem_each (j := 0) rfl rfl n hn))
  obtain ⟨rfl, rfl, rfl⟩ : sa0 = A0 ∧ sn0 = l0.length ∧ sc0 = c0 := by simpa [Value.cells] using hv0
  clear hA0 hval0 hsz0 hsz
  obtain ⟨k, hk⟩ := Pure.LoopDoes l0 hS0 (Nat.le_trans hc0 (Nat.le_trans hm0 (by decide)))
  refine (Pr.boltinglaw18_LoopDoes.calls sa0 sc0 l0 true W hr0 hc0 hk).mono fun e W' ⟨he, bel0⟩ => ?_
  have bel : Below W.heap.size W W' := by first | exact bel0 | exact below_of_drawn0 bel0
  subst he
  exact ⟨_, rfl, _, _, _, [], _, [], hW', trodAll_mk1 (shut_bool Try.underlying4 _), (trodAll_cons_mk (Below.trod laidOut (by kernel_rfl) (of_decide_eq_true (by kernel_rfl)) k0 bel lt0) trodAll_mk0), rfl, bel.frame _, fun h => by cases h⟩
theorem over : Rows.loopDoesRow.holds Try.pinned (OpenSpec.ofChange Rows.loopDoesSpec) :=
  OpenClaim.holds_of_wide 7 Try.f7 rfl rfl rfl rfl rfl rfl rfl ⟨rfl, rfl, rfl, rfl, rfl⟩ rfl rfl rfl rfl rfl (by kernel_rfl) Try.func7 (by kernel_rfl)
    (of_decide_eq_true (by kernel_rfl)) (by unfold Func.isWrapper; first | (rw [if_pos (by decide +kernel)]; kernel_rfl) | (rw [if_neg (by decide +kernel)]; exact ⟨rfl, rfl⟩))
    (fun os started H enc _ => lifted os started H enc)
theorem proved : Rows.LoopDoesSaid := over
#print axioms proved
end Go.Proofs.Ytldbplagenjooaa.loopDoes
namespace Go.Proofs.Ytldbplagenjooaa
/-- The row, under a short name, for the claim. -/
theorem loopDoes_holds : Rows.LoopDoesSaid := loopDoes.proved
end Go.Proofs.Ytldbplagenjooaa
