/- The row of CharsLonger. -/
import Derived.Test.YtaeikiigdfgmaaaDoorRows
import Derived.Test.YtaeikiigdfgmaaaDoorOpensU
import Derived.Test.YtaeikiigdfgmaaaDoorLaid
import Derived.Test.YtaeikiigdfgmaaaDoorTabs
import Derived.Test.YtaeikiigdfgmaaaDoorCards
import Derived.Test.YtaeikiigdfgmaaaDoorTie
import Derived.SevenTiedAt
import Derived.Test.YtaeikiigdfgmaaaDoorPrx12
import Derived.Test.YtaeikiigdfgmaaaDoorPureCharsLonger
import Derived.WalkKit
import Derived.ProofKit
import Derived.OpenShut
import Derived.ShutString
import Derived.ChangeOld
import Derived.Below
import Derived.SizedLaws
namespace Go.Proofs.YtaeikiigdfgmaaaDoor.charsLonger
open Go.ChangeShapes Go.WideShapes Go.ChangeAt Go.RowKit
open Go.ChangeMaps (open_string shut_string)
set_option linter.unusedVariables false
set_option linter.unusedSimpArgs false
theorem own : ownKnob Tryd.prog.godebug = none := by kernel_rfl
theorem witness_row (os : Os) {H : Type} (enc : TypeId × Value → H) :
    (Rows.OpenSpec.upto Rows.charsLongerSpec).preRow enc Tryd.prog Tryd.f10 Rows.charsLongerUptoRow.domain false Rows.charsLongerUptoRow.laid ((laidWorld os).forCall (fun _ _ => 0) ⟨#[], #[.string ByteArray.empty], []⟩).memory #[.string ByteArray.empty] := by
  obtain ⟨places, hx⟩ : ∃ places, DataW.whole enc Tryd.prog ((laidWorld os).forCall (fun _ _ => 0) ⟨#[], #[.string ByteArray.empty], []⟩).memory Tryd.f10.params.toList (Rows.OpenSpec.upto Rows.charsLongerSpec).vars false (#[.string ByteArray.empty] : Array Value).toList 8 = some ([.lit (.string [])], [], places) := ⟨[], by kernel_rfl⟩
  exact OpenSpec.preRow_of_cond 8 hx (by kernel_rfl) (fun k hk => by cases hk; kernel_rfl) (by kernel_rfl) (laid_met os _)
set_option maxRecDepth 100000 in
theorem lifted (os : Os) (started : os.Started) (H : Type) (enc : TypeId × Value → H) (F : Stop.Interp) :
    ReturnsInHanded {} Tryd.checked os 10 .any ((Rows.OpenSpec.upto Rows.charsLongerSpec).preRow enc Tryd.prog Tryd.f10 Rows.charsLongerUptoRow.domain false Rows.charsLongerUptoRow.laid) (((Rows.OpenSpec.upto Rows.charsLongerSpec).at F).post enc Tryd.prog Tryd.f10 false true false false) := by
  refine returnsInHanded_of_row (C := Tryd.checked) (s := Rows.OpenSpec.upto Rows.charsLongerSpec) (F := F) own started (by kernel_rfl) Tryd.func10
    (witness_row_atRef (enc := enc) (C := Tryd.checked) false (laidWorld os) #[.string ByteArray.empty] rfl (by kernel_rfl) (by kernel_rfl) (by kernel_rfl) (witness_row os enc)) ?_
  intro W base args ds gs before hval0 hW hcnd hcond hsz0 hLaid hShape _
  have hsz : (DataW.weightsEach Tryd.prog (Tryd.f10.params.toList ++ Rows.charsLongerSpec.plain.varTypes Tryd.prog) (ds ++ gs)).all (· ≤ reachBytes) = true := hsz0
  have hval : ∀ (j : Nat) t v, Tryd.f10.params[j]? = some t → args[j]? = some v → Value.okWide Tryd.prog W .any base t v := hval0
  have hW' := hW
  obtain ⟨p, q, hA0, hV, rfl, hfz, hnd⟩ := hW
  have hA : DataW.TrodAll enc Tryd.prog W 0 (fun _ => true) true Tryd.f10.params.toList args.toList ds p := hA0
  rw [Tryd.params10] at hA hval hsz
  obtain ⟨v0, vs0, d0, ds0, p0, q0, hargs, rfl, rfl, h0, r0⟩ := trodAll_cons hA
  obtain ⟨rfl, rfl, rfl⟩ := trodAll_nil r0
  obtain rfl : args = #[v0] := by cases args; simp_all
  obtain ⟨rfl, rfl⟩ := trodVars_none hV
  obtain ⟨a0, rfl, rfl, rfl, y0⟩ := open_string Tryd.underlying9 (hval 0 9 v0 rfl rfl) h0
  have w0 : a0.size ≤ 140737488351232 := by
    have z := sized_string hsz (j := 0) (t := 9) rfl rfl
    rw [Array.length_toList] at z
    exact z
  clear hA0 hval0 hsz0 hsz
  have hkk := hcond _ rfl
  have hU : Rows.uptoBulkAll (_ ++ _) ≤ 1048576 := of_decide_eq_true hkk
  simp only [List.append_nil, List.nil_append, List.cons_append, Rows.uptoBulkAll] at hU
  obtain ⟨k, hk⟩ := Pure.CharsLonger a0 w0 (Nat.le_trans (Nat.add_le_add (wS_le a0) (Nat.le_refl 0)) hU)
  have hGW : G W := g_of hLaid hShape
  refine (Pr.boltinglaw01_CharsLonger.calls a0 true W  hGW hk).mono fun e W' ⟨he, bel0⟩ => ?_
  have bel : Below W.heap.size W W' := by first | exact bel0 | exact below_of_drawn0 bel0
  subst he
  exact ⟨_, rfl, _, _, _, [], _, [], hW', trodAll_mk1 (shut_bool Tryd.underlying4 _), (trodAll_cons_mk (shut_string Tryd.underlying9 y0) trodAll_mk0), rfl, bel.frame _, fun h => by cases h⟩
theorem over : Rows.charsLongerUptoRow.holds Tryd.pinned (Rows.OpenSpec.upto Rows.charsLongerSpec) :=
  OpenClaim.holds_of_cond 10 Tryd.f10 rfl rfl rfl rfl rfl rfl rfl ⟨rfl, rfl, rfl, rfl, rfl⟩ rfl rfl rfl rfl rfl (by kernel_rfl) Tryd.func10 (by kernel_rfl)
    (of_decide_eq_true (by kernel_rfl)) (by unfold Func.isWrapper; first | (rw [if_pos (by decide +kernel)]; kernel_rfl) | (rw [if_neg (by decide +kernel)]; exact ⟨rfl, rfl⟩))
    (fun os started H enc _ F => by rw [OpenClaim.pre_eq_preRow]; exact lifted os started H enc F)
theorem proved : Rows.CharsLongerUptoSaid := over
#print axioms proved
end Go.Proofs.YtaeikiigdfgmaaaDoor.charsLonger
namespace Go.Proofs.YtaeikiigdfgmaaaDoor
-- the tied card
set_option maxRecDepth 100000 in
theorem charsLonger_holds : Rows.CharsLongerUptoCardSaid :=
  Claim7.holds_tied_plain_at .later [] [.data, .pinned] true (true, "9f57a6449a257299d821996e28ae6bcedd017975191d3e2c9c7c361f248b1aa1") false
    charsLonger.proved (fun _ h => by cases h) (by kernel_rfl) (fun _ h => by cases h) charsLongerUpto_row_tie rfl ⟨rfl, rfl⟩ (by kernel_rfl) rfl
    (fun f fn hf hfn => by
      obtain rfl : f = 10 := Option.some.inj ((show Tryd.prog.funcNamed "bolting/boltinglaw01.CharsLonger" = some 10 by kernel_rfl).symm.trans hf) |>.symm
      obtain rfl : fn = Tryd.f10 := (Option.some.inj (Tryd.func10.symm.trans hfn)).symm
      exact ⟨by kernel_rfl, fun j t ht => by
        have hm : t ∈ Tryd.f10.params.toList := Array.mem_toList_iff.2 (Array.mem_of_getElem? ht)
        have := List.all_eq_true.1 (show (Tryd.f10.params.toList.all fun t => !(Tryd.prog.wantsStandIn t)) = true by kernel_rfl) t hm
        have h2 : Tryd.prog.wantsStandIn t = false := by simpa using this
        exact h2⟩)
    (by kernel_rfl)
#print axioms charsLonger_holds
end Go.Proofs.YtaeikiigdfgmaaaDoor
