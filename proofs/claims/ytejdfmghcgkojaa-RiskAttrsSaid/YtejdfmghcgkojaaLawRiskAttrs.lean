/- The row of RiskAttrs. -/
import Derived.Test.YtejdfmghcgkojaaRows
import Derived.Test.YtejdfmghcgkojaaOpens
import Derived.Test.YtejdfmghcgkojaaPrx6
import Derived.Test.YtejdfmghcgkojaaPureRiskAttrs
import Derived.WalkKit
import Derived.ProofKit
import Derived.OpenShut
import Derived.ShutString
import Derived.ChangeOld
import Derived.Below
import Derived.SizedLaws
namespace Go.Proofs.Ytejdfmghcgkojaa.riskAttrs
open Go.ChangeShapes Go.WideShapes Go.ChangeAt Go.RowKit
open Go.ChangeMaps (open_string shut_string)
set_option linter.unusedVariables false
set_option linter.unusedSimpArgs false
theorem own : ownKnob Try.prog.godebug = none := by kernel_rfl
theorem open_s1 {H : Type} {enc : TypeId × Value → H} {w : World} {base : Nat} {spare : Nat → Bool} {held : Bool} {v : Value} {d : DataW H} {p : List MemPlace} {r : Reach} {b0 : Nat}
    (hv : Value.okWide Try.prog w r b0 30 v) (h : DataW.Trod enc Try.prog w base spare held 30 v d p) (hw : ∀ n ∈ d.weights Try.prog 30, n ≤ reachBytes) : ∃ (a1_0 : ByteArray) (a1_1 : ByteArray), v = .agg #[.string a1_0, .string a1_1] ∧ a1_0.size ≤ 140737488351232 ∧ a1_1.size ≤ 140737488351232 := by
  obtain ⟨cs, rfl, hsz⟩ := okWide_struct Try.underlying30 hv
  obtain ⟨fuel, hf⟩ := h
  obtain ⟨ys, n, _, hxx, hlen, hyl, hfl⟩ := DataW.trod_struct Try.underlying30 hf
  have hd := (Prod.mk.inj hxx).1
  have hc : Try.prog.cellsOf 30 = 2 := by kernel_rfl
  have hb9 : Try.prog.cellsOf 9 = 1 := by kernel_rfl
  rw [hc] at hlen
  obtain ⟨l⟩ := cs
  have hlen' : l.length = 2 := by simpa [Value.cells] using hlen
  obtain ⟨u0, u1, rfl⟩ : ∃ u0 u1, l = [u0, u1] := by
    match l, hlen' with
    | [u0, u1], _ => exact ⟨u0, u1, rfl⟩
  have get : ∀ i, i < 2 → ∃ y, ys[i]? = some y := fun i hi => ⟨_, List.getElem?_eq_getElem (by rw [hyl]; exact hi)⟩
  obtain ⟨y0, e0⟩ := get 0 (by decide)
  have g0 := (hfl 0 _ rfl).trans e0
  obtain ⟨y1, e1⟩ := get 1 (by decide)
  have g1 := (hfl 1 _ rfl).trans e1
  simp only [Value.cells, hb9] at g0 g1
  obtain ⟨a1_0, hs0, hx0, _⟩ := DataW.trod_string Try.underlying9 g0
  have z0 : a1_0.size ≤ 140737488351232 := by
    have z := hw a1_0.data.toList.length (by rw [hd]; simp only [DataW.weights, Try.underlying30]; exact DataW.weights_mem_each (j := 0) rfl (by rw [List.getElem?_map, e0, hx0]; rfl) _ (by simp [DataW.weights]))
    rw [Array.length_toList] at z
    exact z
  obtain ⟨a1_1, hs1, hx1, _⟩ := DataW.trod_string Try.underlying9 g1
  have z1 : a1_1.size ≤ 140737488351232 := by
    have z := hw a1_1.data.toList.length (by rw [hd]; simp only [DataW.weights, Try.underlying30]; exact DataW.weights_mem_each (j := 1) rfl (by rw [List.getElem?_map, e1, hx1]; rfl) _ (by simp [DataW.weights]))
    rw [Array.length_toList] at z
    exact z
  simp [hb9] at hs0 hs1
  subst hs0 hs1
  exact ⟨a1_0, a1_1, rfl, z0, z1⟩
theorem laidOut : laidOutB Try.prog = true := by kernel_rfl
set_option maxRecDepth 100000 in
theorem lifted (os : Os) (started : os.Started) (H : Type) (enc : TypeId × Value → H) :
    ReturnsInHanded {} Try.checked os 4 .any (Rows.riskAttrsSpec.pre6 enc Try.prog Try.f4 Rows.riskAttrsRow.domain false) (Rows.riskAttrsSpec.post enc Try.prog Try.f4 false true false false) := by
  refine returnsInHanded_of_change_sized (C := Try.checked) own started (by kernel_rfl) Try.func4
    (ChangeSpec.witness6 (enc := enc) (C := Try.checked) false ⟨#[], #[.string ByteArray.empty, .agg #[.string ByteArray.empty, .string ByteArray.empty]], []⟩ 8 (by kernel_rfl) (by kernel_rfl) (by kernel_rfl) (by kernel_rfl)) ?_
  intro W base args ds gs before hval0 hW hcnd hsz0 _
  have hsz : (DataW.weightsEach Try.prog (Try.f4.params.toList ++ Rows.riskAttrsSpec.plain.varTypes Try.prog) (ds ++ gs)).all (· ≤ reachBytes) = true := hsz0
  have hval : ∀ (j : Nat) t v, Try.f4.params[j]? = some t → args[j]? = some v → Value.okWide Try.prog W .any base t v := hval0
  have hW' := hW
  obtain ⟨p, q, hA0, hV, rfl, hfz, hnd⟩ := hW
  have hA : DataW.TrodAll enc Try.prog W 0 (fun _ => true) true Try.f4.params.toList args.toList ds p := hA0
  rw [Try.params4] at hA hval hsz
  obtain ⟨v0, vs0, d0, ds0, p0, q0, hargs, rfl, rfl, h0, r0⟩ := trodAll_cons hA
  obtain ⟨v1, vs1, d1, ds1, p1, q1, rfl, rfl, rfl, h1, r1⟩ := trodAll_cons r0
  obtain ⟨rfl, rfl, rfl⟩ := trodAll_nil r1
  obtain rfl : args = #[v0, v1] := by cases args; simp_all
  obtain ⟨rfl, rfl⟩ := trodVars_none hV
  have k1 := h1
  have lt1 : ∀ x ∈ p1, x.block < W.heap.size := by obtain ⟨m, hm⟩ := k1; exact DataW.trod_lt m _ _ _ hm
  obtain ⟨a0, rfl, rfl, rfl, y0⟩ := open_string Try.underlying9 (hval 0 9 v0 rfl rfl) h0
  have w0 : a0.size ≤ 140737488351232 := by
    have z := sized_string hsz (j := 0) (t := 9) rfl rfl
    rw [Array.length_toList] at z
    exact z
  obtain ⟨a1_0, a1_1, rfl, y1_0, y1_1⟩ := open_s1 (hval 1 30 v1 rfl rfl) h1 (fun n hn => by simpa using List.all_eq_true.1 hsz n (DataW.weights_mem_each (j := 1) rfl rfl n hn))
  clear hA0 hval0 hsz0 hsz
  obtain ⟨k, hk⟩ := Pure.RiskAttrs a0 a1_0 a1_1 w0 y1_0 y1_1
  refine (Pr.boltinglaw10_RiskAttrs.calls k a0 a1_0 a1_1 true W  hk).mono fun e W' ⟨he, bel0⟩ => ?_
  have bel : Below W.heap.size W W' := by first | exact bel0 | exact below_of_drawn0 bel0
  subst he
  exact ⟨_, rfl, _, _, _, [], _, [], hW', trodAll_mk1 (shut_bool Try.underlying4 _), (trodAll_cons_mk (shut_string Try.underlying9 y0) (trodAll_cons_mk (Below.trod laidOut (by kernel_rfl) (of_decide_eq_true (by kernel_rfl)) k1 bel lt1) trodAll_mk0)), rfl, bel.frame _, fun h => by cases h⟩
theorem over : Rows.riskAttrsRow.holds Try.pinned (OpenSpec.ofChange Rows.riskAttrsSpec) :=
  OpenClaim.holds_of_wide 4 Try.f4 rfl rfl rfl rfl rfl rfl rfl ⟨rfl, rfl, rfl, rfl, rfl⟩ rfl rfl rfl rfl rfl (by kernel_rfl) Try.func4 (by kernel_rfl)
    (of_decide_eq_true (by kernel_rfl)) (by unfold Func.isWrapper; first | (rw [if_pos (by decide +kernel)]; kernel_rfl) | (rw [if_neg (by decide +kernel)]; exact ⟨rfl, rfl⟩))
    (fun os started H enc _ => lifted os started H enc)
theorem proved : Rows.RiskAttrsSaid := over
#print axioms proved
end Go.Proofs.Ytejdfmghcgkojaa.riskAttrs
namespace Go.Proofs.Ytejdfmghcgkojaa
/-- The row, under a short name, for the claim. -/
theorem riskAttrs_holds : Rows.RiskAttrsSaid := riskAttrs.proved
end Go.Proofs.Ytejdfmghcgkojaa
