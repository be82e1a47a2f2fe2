/- The row of HeaderAllows: a struct comes in. -/
import Derived.Test.YthblohknnlkidaaDoorRows
import Derived.Test.YthblohknnlkidaaDoorLaid
import Derived.Test.YthblohknnlkidaaDoorCards
import Derived.Test.YthblohknnlkidaaDoorTie
import Derived.SevenTiedAt
import Derived.Test.YthblohknnlkidaaDoorOpens
import Derived.Test.YthblohknnlkidaaDoorPureHeaderAllows
import Derived.WalkKit
import Derived.ProofKit
import Derived.OpenShut
import Derived.ShutString
import Derived.ChangeOld
import Derived.Below
import Derived.SizedLaws
namespace Go.Proofs.YthblohknnlkidaaDoor.headerAllows
open Go.ChangeShapes Go.WideShapes Go.ChangeAt Go.RowKit
open Go.ChangeMaps (open_string shut_string)
set_option linter.unusedVariables false
set_option linter.unusedSimpArgs false
theorem own : ownKnob Tryd.prog.godebug = none := by kernel_rfl
theorem laidOut : laidOutB Tryd.prog = true := by kernel_rfl
abbrev zero : Array Value := #[.agg #[.bool false, .bool false, .slice none 0 0, .bool false, .bool false], .string ByteArray.empty, .int .i64 0]
theorem witness_row (os : Os) {H : Type} (enc : TypeId × Value → H) :
    (OpenSpec.ofChange Rows.headerAllowsSpec).preRow enc Tryd.prog Tryd.f4 Rows.headerAllowsRow.domain false Rows.headerAllowsRow.laid ((laidWorld os).forCall (fun _ _ => 0) ⟨#[], zero, []⟩).memory zero := by
  obtain ⟨x, hx⟩ : ∃ x, DataW.whole enc Tryd.prog ((laidWorld os).forCall (fun _ _ => 0) ⟨#[], zero, []⟩).memory Tryd.f4.params.toList (OpenSpec.ofChange Rows.headerAllowsSpec).vars false zero.toList 8 = some x := Option.isSome_iff_exists.1 (by kernel_rfl)
  exact OpenSpec.preRow_of_cond 8 hx rfl (fun k hk => by cases hk) (by kernel_rfl) (laid_met os _)
/-- The guard, laid open. -/
theorem open_guard {H : Type} {enc : TypeId × Value → H} {w : World} {base : Nat} {spare : Nat → Bool} {held : Bool} {v : Value} {d : DataW H} {p : List MemPlace} {r : Reach} {b0 : Nat}
    (hv : Value.okWide Tryd.prog w r b0 26 v) (h : DataW.Trod enc Tryd.prog w base spare held 26 v d p) :
    ∃ a b A c xs d e, v = .agg #[.bool a, .bool b, .slice A xs.length c, .bool d, .bool e] ∧ xs.length ≤ c ∧ c ≤ maxLen ∧ Go.Proofs.YthblohknnlkidaaDoorW.PrintWords.Kd.C Go.Proofs.YthblohknnlkidaaDoorW.PrintWords.Kd.string w A xs.length xs := by
  obtain ⟨cs, rfl, hsz⟩ := okWide_struct Tryd.underlying26 hv
  obtain ⟨fuel, hf⟩ := h
  obtain ⟨ys, n, _, _, hlen, hyl, hfl⟩ := DataW.trod_struct Tryd.underlying26 hf
  have hc5 : Tryd.prog.cellsOf 26 = 5 := by kernel_rfl
  have hb : Tryd.prog.cellsOf 4 = 1 := by kernel_rfl
  have hl : Tryd.prog.cellsOf 24 = 1 := by kernel_rfl
  rw [hc5] at hlen
  obtain ⟨l⟩ := cs
  have hlen' : l.length = 5 := by simpa [Value.cells] using hlen
  obtain ⟨v0, v1, v2, v3, v4, rfl⟩ : ∃ v0 v1 v2 v3 v4, l = [v0, v1, v2, v3, v4] := by
    match l, hlen' with
    | [a, b, c, d, e], _ => exact ⟨a, b, c, d, e, rfl⟩
  have get : ∀ i, i < 5 → ∃ y, ys[i]? = some y := fun i hi => ⟨_, List.getElem?_eq_getElem (by rw [hyl]; exact hi)⟩
  obtain ⟨y0, e0⟩ := get 0 (by decide)
  obtain ⟨y1, e1⟩ := get 1 (by decide)
  obtain ⟨y2, e2⟩ := get 2 (by decide)
  obtain ⟨y3, e3⟩ := get 3 (by decide)
  obtain ⟨y4, e4⟩ := get 4 (by decide)
  have g0 := (hfl 0 _ rfl).trans e0
  have g1 := (hfl 1 _ rfl).trans e1
  have g2 := (hfl 2 _ rfl).trans e2
  have g3 := (hfl 3 _ rfl).trans e3
  have g4 := (hfl 4 _ rfl).trans e4
  simp only [Value.cells, hb, hl] at g0 g1 g2 g3 g4
  obtain ⟨a, ha, _⟩ := DataW.trod_bool Tryd.underlying4 g0
  obtain ⟨b, hb', _⟩ := DataW.trod_bool Tryd.underlying4 g1
  obtain ⟨A, c, xs, hs, h1, h2, h3⟩ := opens_row Tryd.underlying24 (opens_string (by kernel_rfl) Tryd.underlying9) g2
  obtain ⟨d', hd, _⟩ := DataW.trod_bool Tryd.underlying4 g3
  obtain ⟨e', he, _⟩ := DataW.trod_bool Tryd.underlying4 g4
  simp [hb, hl] at ha hb' hs hd he
  subst ha hb' hs hd he
  exact ⟨a, b, A, c, xs, d', e', rfl, h1, h2, h3⟩
set_option maxRecDepth 100000 in
theorem lifted (os : Os) (started : os.Started) (H : Type) (enc : TypeId × Value → H) :
    ReturnsInHanded {} Tryd.checked os 4 .any ((OpenSpec.ofChange Rows.headerAllowsSpec).preRow enc Tryd.prog Tryd.f4 Rows.headerAllowsRow.domain false Rows.headerAllowsRow.laid) (Rows.headerAllowsSpec.post enc Tryd.prog Tryd.f4 false true false false) := by
  refine returnsInHanded_of_row (C := Tryd.checked) (s := OpenSpec.ofChange Rows.headerAllowsSpec) (F := fun _ _ _ => 0) own started (by kernel_rfl) Tryd.func4
    (witness_row_atRef (enc := enc) (C := Tryd.checked) false (laidWorld os) zero rfl (by kernel_rfl) (by kernel_rfl) (by kernel_rfl) (witness_row os enc)) ?_
  intro W base args ds gs before hval0 hW hcnd _ hsz0 hLaid hShape _
  have hsz : (DataW.weightsEach Tryd.prog (Tryd.f4.params.toList ++ Rows.headerAllowsSpec.plain.varTypes Tryd.prog) (ds ++ gs)).all (· ≤ reachBytes) = true := hsz0
  have hval : ∀ (j : Nat) t v, Tryd.f4.params[j]? = some t → args[j]? = some v → Value.okWide Tryd.prog W .any base t v := hval0
  have hW' := hW
  obtain ⟨p, q, hA0, hV, rfl, hfz, hnd⟩ := hW
  have hA : DataW.TrodAll enc Tryd.prog W 0 (fun _ => true) true Tryd.f4.params.toList args.toList ds p := hA0
  rw [Tryd.params4] at hA hval hsz
  obtain ⟨v0, vs0, d0, ds0, p0, q0, hargs, rfl, rfl, h0, r0⟩ := trodAll_cons hA
  obtain ⟨v1, vs1, d1, ds1, p1, q1, rfl, rfl, rfl, h1, r1⟩ := trodAll_cons r0
  obtain ⟨v2, vs2, d2, ds2, p2, q2, rfl, rfl, rfl, h2, r2⟩ := trodAll_cons r1
  obtain ⟨rfl, rfl, rfl⟩ := trodAll_nil r2
  obtain rfl : args = #[v0, v1, v2] := by cases args; simp_all
  obtain ⟨rfl, rfl⟩ := trodVars_none hV
  have k0 := h0
  have lt0 : ∀ x ∈ p0, x.block < W.heap.size := by obtain ⟨m, hm⟩ := k0; exact DataW.trod_lt m _ _ _ hm
  obtain ⟨ga, gb, GA, gc, gl, gd, ge, rfl, hle, hmax, hC⟩ := open_guard (hval 0 26 v0 rfl rfl) h0
  obtain ⟨a1, rfl, rfl, rfl, y1⟩ := open_string Tryd.underlying9 (hval 1 9 v1 rfl rfl) h1
  have w1 : a1.size ≤ 140737488351232 := by
    have z := sized_string hsz (j := 1) (t := 9) rfl rfl
    rw [Array.length_toList] at z
    exact z
  obtain ⟨a2, rfl, rfl, rfl, w2⟩ := open_int Tryd.underlying3 (hval 2 3 v2 rfl rfl) h2
  clear hA0 hval0 hsz0 hsz
  obtain ⟨k, hk⟩ := Pure.HeaderAllows ga gb gl gd ge a1 a2 w1
  refine (Pr.boltinglaw15_HeaderAllows.calls k ga gb GA gc gl gd ge a1 a2 true W hC hle hk).mono fun e W' ⟨he, bel⟩ => ?_
  subst he
  exact ⟨_, rfl, _, _, _, [], _, [], hW', trodAll_mk1 (shut_bool Tryd.underlying4 _), (trodAll_cons_mk (Below.trod laidOut (by kernel_rfl) (of_decide_eq_true (by kernel_rfl)) k0 bel lt0) (trodAll_cons_mk (shut_string Tryd.underlying9 y1) (trodAll_cons_mk (shut_int Tryd.underlying3 w2) trodAll_mk0))), rfl, bel.frame _, fun h => by cases h⟩
theorem over : Rows.headerAllowsRow.holds Tryd.pinned (OpenSpec.ofChange Rows.headerAllowsSpec) :=
  OpenClaim.holds_of_wide 4 Tryd.f4 rfl rfl rfl rfl rfl rfl rfl ⟨rfl, rfl, rfl, rfl, rfl⟩ rfl rfl rfl rfl rfl (by kernel_rfl) Tryd.func4 (by kernel_rfl)
    (of_decide_eq_true (by kernel_rfl)) (by unfold Func.isWrapper; first | (rw [if_pos (by decide +kernel)]; kernel_rfl) | (rw [if_neg (by decide +kernel)]; exact ⟨rfl, rfl⟩))
    (fun os started H enc _ => by rw [OpenClaim.pre_eq_preRow]; exact lifted os started H enc)
theorem proved : Rows.HeaderAllowsSaid := over
end Go.Proofs.YthblohknnlkidaaDoor.headerAllows
namespace Go.Proofs.YthblohknnlkidaaDoor
set_option maxRecDepth 100000 in
theorem headerAllows_holds : Rows.HeaderAllowsCardSaid :=
  Claim7.holds_tied_plain_at .later [] [.data, .pinned] true (true, "cc96d9593d00dcaaa7c4e779a0d7255df1ed2c9d7622b88e64acb75c1c0318b0") false
    headerAllows.proved (fun _ h => by cases h) (by kernel_rfl) (fun _ h => by cases h) headerAllows_row_tie rfl ⟨rfl, rfl⟩ (by kernel_rfl) rfl
    (fun f fn hf hfn => by
      obtain rfl : f = 4 := Option.some.inj ((show Tryd.prog.funcNamed "bolting/boltinglaw15.HeaderAllows" = some 4 by kernel_rfl).symm.trans hf) |>.symm
      obtain rfl : fn = Tryd.f4 := (Option.some.inj (Tryd.func4.symm.trans hfn)).symm
      exact ⟨by kernel_rfl, fun j t ht => by
        have hm : t ∈ Tryd.f4.params.toList := Array.mem_toList_iff.2 (Array.mem_of_getElem? ht)
        have := List.all_eq_true.1 (show (Tryd.f4.params.toList.all fun t => !(Tryd.prog.wantsStandIn t)) = true by kernel_rfl) t hm
        have h2 : Tryd.prog.wantsStandIn t = false := by simpa using this
        exact h2⟩)
    (by kernel_rfl)
#print axioms headerAllows_holds
end Go.Proofs.YthblohknnlkidaaDoor
