/- What makes no difference to a header; no condition. -/
import Derived.Test.YthblohknnlkidaaDoorHeaderLaws
import Derived.Test.YthblohknnlkidaaDoorPrx5
namespace Go.Proofs.YthblohknnlkidaaDoor.Pure
set_option linter.unusedVariables false
set_option linter.unusedSimpArgs false
open Go.RowKit Go.Proofs.YthblohknnlkidaaDoor.Pr Go.Proofs.YthblohknnlkidaaDoorW.PrintWords Go.Proofs.YthblohknnlkidaaDoorW.PrintLast

/-- 'Trusted-TYPES'. -/
def typesG : List UInt8 := [84, 114, 117, 115, 116, 101, 100, 45, 84, 89, 80, 69, 83]
theorem stepW_cons (out : List (List (List UInt8))) (w : List UInt8) (t : List (List UInt8)) : stepW out (w :: t) = if hasName out (lower w) then out else out ++ [lower w :: t] := rfl
theorem first_any (x : List (List UInt8)) : stepW [] (typesG :: x) = stepW [] (typesN :: x) := by
  have : lower typesG = lower typesN := by decide
  rw [stepW_cons, stepW_cons, this]
theorem less_a (s : List UInt8) : partsL ([32] ++ 59 :: (((9 :: typesG) ++ 10 :: (s ++ [32])) ++ 59 :: ([32] ++ 59 :: []))) = partsL (typesN ++ 32 :: s) := by
  obtain ⟨w, r, e1, e2⟩ := cutAt_pre 59 s (a := typesN ++ [32]) (by decide)
  obtain ⟨r', w', f1, f2⟩ := cutAt_suf 59 (b := [32]) (by decide) s
  obtain ⟨w1, r1, g1, g2⟩ := cutAt_pre 59 (s ++ [32]) (a := (9 :: typesG) ++ [10]) (by decide)
  have h1 : typesN ++ 32 :: s = (typesN ++ [32]) ++ s := by simp
  have h2 : (9 :: typesG) ++ 10 :: (s ++ [32]) = ((9 :: typesG) ++ [10]) ++ (s ++ [32]) := by simp
  unfold partsL
  rw [cutAt_sep, cutAt_sep, cutAt_sep, h1, h2, e2, g2, foldP_W, foldP_W]
  have hm : (r1.map words, words w1) = (r.map words, words w) := by
    have ee : r' ++ [w'] = w :: r := f1.symm.trans e1
    have ff : r' ++ [w' ++ [32]] = w1 :: r1 := f2.symm.trans g1
    have hw : words (w' ++ [32]) = words w' := words_trail (by decide) w'
    cases r' with
    | nil =>
      simp only [List.nil_append, List.cons.injEq] at ee ff
      obtain ⟨rfl, rfl⟩ := ee
      obtain ⟨rfl, rfl⟩ := ff
      rw [hw]
    | cons y ys =>
      simp only [List.cons_append, List.cons.injEq] at ee ff
      obtain ⟨rfl, rfl⟩ := ee
      obtain ⟨rfl, rfl⟩ := ff
      simp [hw]
  rw [Prod.mk.injEq] at hm
  have w32 : words [32] = [] := by decide
  have c32 : cutAt 59 [32] = [[32]] := by decide
  have c0 : cutAt 59 [] = [[]] := by decide
  have wA : words ((9 :: typesG) ++ [10] ++ w1) = typesG :: words w1 := by
    rw [show (9 :: typesG) ++ [10] ++ w1 = 9 :: (typesG ++ 10 :: w1) by simp, words_lead (by decide), words_space (by decide), words_one (l := typesG) (by decide) (by decide)]
    rfl
  have wB : words (typesN ++ [32] ++ w) = typesN :: words w := by
    rw [show typesN ++ [32] ++ w = typesN ++ 32 :: w by simp, words_space (by decide), words_one (l := typesN) (by decide) (by decide)]
    rfl
  rw [c32, c0]
  simp only [List.map_append, List.map_cons, List.map_nil, List.foldl_append, List.foldl_cons, List.foldl_nil, w32, words_nil, wA, wB, hm.1, hm.2]
  have s0 : ∀ out, stepW out [] = out := fun _ => rfl
  rw [s0, s0, s0, first_any]
theorem less_b (s m : List UInt8) (h : ∀ c ∈ m, c ≠ 59) : partsL ((typesN ++ 32 :: s) ++ 59 :: (typesN ++ 32 :: m)) = partsL (typesN ++ 32 :: s) := by
  obtain ⟨w, r, e1, e2⟩ := cutAt_pre 59 s (a := typesN ++ [32]) (by decide)
  have h1 : typesN ++ 32 :: s = (typesN ++ [32]) ++ s := by simp
  have hc : cutAt 59 (typesN ++ 32 :: m) = [typesN ++ 32 :: m] := cutAt_none (by
    intro c hc
    simp only [List.mem_append, List.mem_cons] at hc
    rcases hc with hc | hc | hc
    · revert c; decide
    · subst hc; decide
    · exact h c hc)
  have wB : words (typesN ++ [32] ++ w) = typesN :: words w := by
    rw [show typesN ++ [32] ++ w = typesN ++ 32 :: w by simp, words_space (by decide), words_one (l := typesN) (by decide) (by decide)]
    rfl
  have wM : words (typesN ++ 32 :: m) = typesN :: words m := by
    rw [words_space (by decide), words_one (l := typesN) (by decide) (by decide)]
    rfl
  unfold partsL
  rw [cutAt_sep, hc, List.foldl_append]
  have hn : hasName ((cutAt 59 (typesN ++ 32 :: s)).foldl stepP []) typesN = true := by
    rw [h1, e2, List.foldl_cons]
    refine hasName_fold _ _ ?_
    rw [stepP_W, wB, stepW_cons, show lower typesN = typesN by decide]
    show hasName [typesN :: words w] typesN = true
    simp [hasName]
  generalize (cutAt 59 (typesN ++ 32 :: s)).foldl stepP [] = P at hn
  rw [List.foldl_cons, List.foldl_nil, stepP_W, wM]
  rw [stepW_cons, show lower typesN = typesN by decide, hn]
  rfl
theorem less_l0 (X Y : ByteArray) (rep : Bool) (hX : X.size ≤ 200) (hY : Y.size ≤ 200) (K : Nat) (hK : 3000001 ≤ K) : ∀ (d i : Nat), i + d = Y.size → (∀ c ∈ Y.data.toList.take i, c ≠ 59) → ∀ k, K + d < k → boltinglaw15_HeaderLess.l0 k X Y rep (i : Int) = some true
  | 0, i, h, hc, k, hk => by
    obtain ⟨k, rfl⟩ : ∃ m, k = m + 1 := ⟨k - 1, by omega⟩
    simp only [boltinglaw15_HeaderLess.l0]
    rw [List.take_of_length_le (by rw [← Lib.size_eq]; omega)] at hc
    have s1 : ((⟨#[116, 114, 117, 115, 116, 101, 100, 45, 116, 121, 112, 101, 115, 32]⟩ : ByteArray) ++ X).size = 14 + X.size := by rw [ByteArray.size_append]; rfl
    have s2 : ((⟨#[32, 59, 9, 84, 114, 117, 115, 116, 101, 100, 45, 84, 89, 80, 69, 83, 10]⟩ : ByteArray) ++ X).size = 17 + X.size := by rw [ByteArray.size_append]; rfl
    have s3 : (((⟨#[32, 59, 9, 84, 114, 117, 115, 116, 101, 100, 45, 84, 89, 80, 69, 83, 10]⟩ : ByteArray) ++ X) ++ (⟨#[32, 59, 32, 59]⟩ : ByteArray)).size = 17 + X.size + 4 := by rw [ByteArray.size_append, s2]; rfl
    have s4 : (((⟨#[116, 114, 117, 115, 116, 101, 100, 45, 116, 121, 112, 101, 115, 32]⟩ : ByteArray) ++ X) ++ (⟨#[59, 116, 114, 117, 115, 116, 101, 100, 45, 116, 121, 112, 101, 115, 32]⟩ : ByteArray)).size = 14 + X.size + 15 := by rw [ByteArray.size_append, s1]; rfl
    have s5 : ((((⟨#[116, 114, 117, 115, 116, 101, 100, 45, 116, 121, 112, 101, 115, 32]⟩ : ByteArray) ++ X) ++ (⟨#[59, 116, 114, 117, 115, 116, 101, 100, 45, 116, 121, 112, 101, 115, 32]⟩ : ByteArray)) ++ Y).size = 14 + X.size + 15 + Y.size := by rw [ByteArray.size_append, s4]
    have d1 : ((⟨#[116, 114, 117, 115, 116, 101, 100, 45, 116, 121, 112, 101, 115, 32]⟩ : ByteArray) ++ X).data.toList = typesN ++ 32 :: X.data.toList := by rw [data_app]; rfl
    have d3 : (((⟨#[32, 59, 9, 84, 114, 117, 115, 116, 101, 100, 45, 84, 89, 80, 69, 83, 10]⟩ : ByteArray) ++ X) ++ (⟨#[32, 59, 32, 59]⟩ : ByteArray)).data.toList = [32] ++ 59 :: (((9 :: typesG) ++ 10 :: (X.data.toList ++ [32])) ++ 59 :: ([32] ++ 59 :: [])) := by
      rw [data_app, data_app]; simp [typesG]
    have d5 : ((((⟨#[116, 114, 117, 115, 116, 101, 100, 45, 116, 121, 112, 101, 115, 32]⟩ : ByteArray) ++ X) ++ (⟨#[59, 116, 114, 117, 115, 116, 101, 100, 45, 116, 121, 112, 101, 115, 32]⟩ : ByteArray)) ++ Y).data.toList = (typesN ++ 32 :: X.data.toList) ++ 59 :: (typesN ++ 32 :: Y.data.toList) := by
      rw [data_app, data_app, d1]; simp [typesN]
    have p1 := parse_f _ (by rw [s1]; omega) rep (show 3000001 ≤ k by omega)
    have p3 := parse_f _ (by rw [s3]; omega) rep (show 3000001 ≤ k by omega)
    have p5 := parse_f _ (by rw [s5]; omega) rep (show 3000001 ≤ k by omega)
    have pl := (parse_len (typesN ++ 32 :: X.data.toList) rep).1
    rw [← d1, ← Lib.size_eq, s1, d1] at pl
    rw [d1] at p1
    rw [d3, less_a] at p3
    rw [d5, less_b _ _ hc] at p5
    rw [if_neg (by omega), if_pos (by omega), p1]
    simp only [Option.bind_some]
    rw [if_pos (by omega), if_pos (by rw [s2]; omega), p3]
    simp only [Option.bind_some]
    rw [if_pos (by rw [s1]; omega), if_pos (by rw [s4]; omega), p5]
    simp only [Option.bind_some]
    rw [same_f _ _ _ _ _ (by omega) (by omega), fixed_true (by omega)]
    rfl
  | d + 1, i, h, hc, k, hk => by
    obtain ⟨k, rfl⟩ : ∃ m, k = m + 1 := ⟨k - 1, by omega⟩
    obtain ⟨c, hcc⟩ := at_some Y (show i < Y.size by omega)
    simp only [boltinglaw15_HeaderLess.l0]
    rw [if_pos (by omega), if_pos (by omega), bt_c hcc, wrap_succ (by omega) (by omega), fixed_true (by omega)]
    by_cases h59 : (c.toNat : Int) = 59
    · rw [if_pos h59]; rfl
    · rw [if_neg h59]
      refine less_l0 X Y rep hX hY K hK d (i + 1) (by omega) ?_ k (by omega)
      intro e he
      rw [take_snoc hcc] at he
      rcases List.mem_append.1 he with he | he
      · exact hc e he
      · obtain rfl := List.mem_singleton.1 he
        intro e59; subst e59; exact h59 rfl
theorem HeaderLess : boltinglaw15_HeaderLess.Pure := by
  intro a0 a1 a2 h0 h0'
  obtain ⟨h1, h2, h3⟩ := takeS a0 200 (by omega)
  obtain ⟨g1, g2, g3⟩ := takeS a1 200 (by omega)
  obtain ⟨K, hK⟩ : ∃ K, 3000001 ≤ K := ⟨_, Nat.le_refl _⟩
  refine ⟨K + 1000, ?_⟩
  unfold boltinglaw15_HeaderLess.f
  rw [if_pos h1, if_pos h2, if_pos g1, if_pos g2]
  generalize a0.extract 0 (mn (a0.size : Int) 200).toNat = X at h3 ⊢
  generalize a1.extract 0 (mn (a1.size : Int) 200).toNat = Y at g3 ⊢
  exact less_l0 X Y a2 (by omega) (by omega) K hK Y.size 0 (by omega) (by simp) _ (by omega)
end Go.Proofs.YthblohknnlkidaaDoor.Pure
