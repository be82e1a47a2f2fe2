/- Sinks are guarded just if the directive has its value; no condition. -/
import Derived.Test.YthblohknnlkidaaDoorHeaderLaws
import Derived.Test.YthblohknnlkidaaDoorPrx9
namespace Go.Proofs.YthblohknnlkidaaDoor.Pure
set_option linter.unusedVariables false
set_option linter.unusedSimpArgs false
open Go.RowKit Go.Proofs.YthblohknnlkidaaDoor.Pr Go.Proofs.YthblohknnlkidaaDoorW.PrintWords Go.Proofs.YthblohknnlkidaaDoorW.PrintLast

theorem parts_one {l : List UInt8} (h : ∀ c ∈ l, c ≠ 59) {w : List UInt8} {t : List (List UInt8)} (hw : words l = w :: t) : partsL l = [lower w :: t] := by
  unfold partsL
  rw [cutAt_none h, foldP_W]
  simp only [List.map_cons, List.map_nil, List.foldl_cons, List.foldl_nil, hw]
  rfl
theorem on_a (s : List UInt8) (h : ∀ c ∈ s, c ≠ 59) (rep : Bool) : (parseG (partsL (requireN ++ 32 :: s ++ 32 :: scriptV)) rep).on = true ∧ (parseG (partsL (requireN ++ 32 :: s ++ 32 :: scriptV)) rep).report = rep := by
  have hw : words (requireN ++ 32 :: s ++ 32 :: scriptV) = requireN :: (words s ++ [scriptV]) := by
    rw [words_space (c := 32) (by decide), words_space (c := 32) (by decide), words_one (l := requireN) (by decide) (by decide), words_one (l := scriptV) (by decide) (by decide)]
    rfl
  have hp := parts_one (l := requireN ++ 32 :: s ++ 32 :: scriptV) (by
    intro c hc
    simp only [List.mem_append, List.mem_cons] at hc
    rcases hc with (hc | hc | hc) | hc | hc
    · revert c; decide
    · subst hc; decide
    · exact h c hc
    · subst hc; decide
    · revert c; decide) hw
  rw [hp, show lower requireN = requireN by decide]
  have e1 : namedL [requireN :: (words s ++ [scriptV])] requireN = (words s ++ [scriptV], true) := by
    unfold namedL
    simp
  have e2 : (words s ++ [scriptV]).contains scriptV = true := by simp
  unfold parseG
  rw [e1]
  simp only [e2]
  split <;> exact ⟨rfl, rfl⟩
theorem on_b (s : List UInt8) (h : ∀ c ∈ s, c ≠ 59) (rep : Bool) : parseG (partsL (120 :: 32 :: s)) rep = ⟨false, rep, [], true, true⟩ := by
  have hw : words ([120] ++ 32 :: s) = [120] :: words s := by
    rw [words_space (c := 32) (by decide), words_one (l := [120]) (by decide) (by decide)]
    rfl
  have hp := parts_one (l := [120] ++ 32 :: s) (by
    intro c hc
    simp only [List.mem_append, List.mem_cons, List.not_mem_nil, or_false] at hc
    rcases hc with hc | hc | hc
    · subst hc; decide
    · subst hc; decide
    · exact h c hc) hw
  have hp' : partsL (120 :: 32 :: s) = [lower [120] :: words s] := hp
  rw [hp', show lower [120] = [120] by decide]
  have e1 : namedL [[120] :: words s] requireN = ([], false) := by
    unfold namedL
    rw [List.find?_cons, show (List.headD ([120] :: words s) [] == requireN) = false from by show ([120] == requireN) = false; decide]
    rfl
  have e2 : namedL [[120] :: words s] typesN = ([], false) := by
    unfold namedL
    rw [List.find?_cons, show (List.headD ([120] :: words s) [] == typesN) = false from by show ([120] == typesN) = false; decide]
    rfl
  unfold parseG
  rw [e1, e2]
  rfl
theorem on_l0 (X : ByteArray) (rep : Bool) (hX : X.size ≤ 1000) (K : Nat) (hK : 3000001 ≤ K) : ∀ (d i : Nat), i + d = X.size → (∀ c ∈ X.data.toList.take i, c ≠ 59) → ∀ k, K + d < k → boltinglaw15_HeaderOn.l0 k X rep (i : Int) = some true
  | 0, i, h, hc, k, hk => by
    obtain ⟨k, rfl⟩ : ∃ m, k = m + 1 := ⟨k - 1, by omega⟩
    simp only [boltinglaw15_HeaderOn.l0]
    rw [List.take_of_length_le (by rw [← Lib.size_eq]; omega)] at hc
    have s1 : ((⟨#[114, 101, 113, 117, 105, 114, 101, 45, 116, 114, 117, 115, 116, 101, 100, 45, 116, 121, 112, 101, 115, 45, 102, 111, 114, 32]⟩ : ByteArray) ++ X).size = 26 + X.size := by rw [ByteArray.size_append]; rfl
    have s2 : (((⟨#[114, 101, 113, 117, 105, 114, 101, 45, 116, 114, 117, 115, 116, 101, 100, 45, 116, 121, 112, 101, 115, 45, 102, 111, 114, 32]⟩ : ByteArray) ++ X) ++ (⟨#[32, 39, 115, 99, 114, 105, 112, 116, 39]⟩ : ByteArray)).size = 26 + X.size + 9 := by rw [ByteArray.size_append, s1]; rfl
    have s3 : ((⟨#[120, 32]⟩ : ByteArray) ++ X).size = 2 + X.size := by rw [ByteArray.size_append]; rfl
    have d1 : (((⟨#[114, 101, 113, 117, 105, 114, 101, 45, 116, 114, 117, 115, 116, 101, 100, 45, 116, 121, 112, 101, 115, 45, 102, 111, 114, 32]⟩ : ByteArray) ++ X) ++ (⟨#[32, 39, 115, 99, 114, 105, 112, 116, 39]⟩ : ByteArray)).data.toList = requireN ++ 32 :: X.data.toList ++ 32 :: scriptV := by
      rw [data_app, data_app]; rfl
    have d2 : ((⟨#[120, 32]⟩ : ByteArray) ++ X).data.toList = 120 :: 32 :: X.data.toList := by rw [data_app]; rfl
    have p1 := parse_f _ (by rw [s2]; omega) rep (show 3000001 ≤ k by omega)
    have p2 := parse_f ((⟨#[120, 32]⟩ : ByteArray) ++ X) (by rw [s3]; omega) rep (show 3000001 ≤ k by omega)
    rw [d1] at p1
    rw [d2, on_b _ hc] at p2
    obtain ⟨a1, a2⟩ := on_a X.data.toList hc rep
    generalize parseG (partsL (requireN ++ 32 :: X.data.toList ++ 32 :: scriptV)) rep = G at a1 a2 p1
    have al := allows_f false false [] true false ⟨#[97]⟩ 0 (by simp) (by decide) (show 100001 ≤ k by omega) (show _ < k from by show 1 < k; omega)
    have al' : header_Allows.f k false false [] true false ⟨#[97]⟩ 0 = some true := al
    rw [if_neg (by omega), if_pos (by omega), if_pos (by rw [s1]; omega), p1]
    simp only [Option.bind_some]
    rw [if_pos (by omega), p2]
    simp only [Option.bind_some]
    rw [a1, a2, al', fixed_true (by omega)]
    simp [SS]
  | d + 1, i, h, hc, k, hk => by
    obtain ⟨k, rfl⟩ : ∃ m, k = m + 1 := ⟨k - 1, by omega⟩
    obtain ⟨c, hcc⟩ := at_some X (show i < X.size by omega)
    simp only [boltinglaw15_HeaderOn.l0]
    rw [if_pos (by omega), if_pos (by omega), bt_c hcc, wrap_succ (by omega) (by omega), fixed_true (by omega)]
    by_cases h59 : (c.toNat : Int) = 59
    · rw [if_pos h59]; rfl
    · rw [if_neg h59]
      refine on_l0 X rep hX K hK d (i + 1) (by omega) ?_ k (by omega)
      intro e he
      rw [take_snoc hcc] at he
      rcases List.mem_append.1 he with he | he
      · exact hc e he
      · obtain rfl := List.mem_singleton.1 he
        intro e59; subst e59; exact h59 rfl
theorem HeaderOn : boltinglaw15_HeaderOn.Pure := by
  intro a0 a1 h0
  obtain ⟨h1, h2, h3⟩ := takeS a0 200 (by omega)
  obtain ⟨K, hK⟩ : ∃ K, 3000001 ≤ K := ⟨_, Nat.le_refl _⟩
  refine ⟨K + 1000, ?_⟩
  unfold boltinglaw15_HeaderOn.f
  rw [if_pos h1, if_pos h2]
  generalize a0.extract 0 (mn (a0.size : Int) 200).toNat = X at h3 ⊢
  exact on_l0 X a1 (by omega) K hK X.size 0 (by omega) (by simp) _ (by omega)
end Go.Proofs.YthblohknnlkidaaDoor.Pure
