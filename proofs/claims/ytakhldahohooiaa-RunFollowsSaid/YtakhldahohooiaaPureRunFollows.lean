/- RunFollows of the document's chapter 19: it answers true whatever the input. -/
import Derived.Test.YtakhldahohooiaaRunLaws
import Derived.Test.YtakhldahohooiaaPrx6
namespace Go.Proofs.Ytakhldahohooiaa.Pure
set_option linter.unusedVariables false
set_option linter.unusedSimpArgs false
open Go.RowKit Go.Proofs.Ytakhldahohooiaa.Pr Go.Proofs.YtakhldahohooiaaW.PrintWords Go.Proofs.YtakhldahohooiaaW.PrintLast Go.Proofs.YtakhldahohooiaaW.PrintMore

abbrev dat (s : ByteArray) : List UInt8 := s.data.toList
theorem dat_app (a b : ByteArray) : dat (a ++ b) = dat a ++ dat b := by simp
theorem more {α : Type} {f : Nat → Option α} (hm : ∀ k, LeO (f k) (f (k + 1))) {m k : Nat} (hk : m ≤ k) {r : α} (h : f m = some r) : f k = some r := by
  induction hk with
  | refl => exact h
  | step _ ih => exact hm _ _ ih
set_option maxRecDepth 100000 in
theorem fixed_f {k : Nat} (hk : 40 ≤ k) : boltinglaw19_fixed.f k = some true :=
  more (f := fun k => boltinglaw19_fixed.f k) boltinglaw19_fixed.mono hk (by decide +kernel)
theorem rd39 {l : List S39} {i : Nat} {x : S39} (h : l[i]? = some x) : rd_T39 l (i : Int) = x := by
  unfold rd_T39
  rw [Int.toNat_natCast, List.getD_eq_getElem?_getD, h]
  rfl
/-- An element with one attribute, followed. -/
theorem follow_l0_no (ats : List S39) (n i : Int) (f0 f1 : Int) (e f3 : ByteArray) (f4 : List S39) (a : S39) (h : rd_T39 ats i = a) (h0 : 0 ≤ i) (h1 : i < n) (h2 : i < ats.length) (hn : navB e a.f0 = false ∨ script (dat a.f1) = false) (hs : a.f1.size ≤ 1000000) (hi : i < 1000) (k : Nat) :
    run_Follow.l0 (k + 1) ats n i f0 f1 e f3 f4 = run_Follow.l0 k ats n (i + 1) f0 f1 e f3 f4 := by
  simp only [run_Follow.l0]
  rw [if_pos h1, if_pos h0, if_pos h2, h, show risk_Nav.f e a.f0 = some (navB e a.f0) from rfl, wrap_succ (by omega) (by omega)]
  simp only [Option.bind_some]
  cases hb : navB e a.f0 with
  | false => rw [if_neg (by simp)]
  | true =>
    rw [if_pos rfl]
    have hsc : script (dat a.f1) = false := by
      rcases hn with g | g
      · rw [hb] at g; cases g
      · exact g
    rw [show link_Script.f a.f1 = some (script (dat a.f1)) from bnd_of _ (by omega), hsc]
    simp only [Option.bind_some, Bool.false_eq_true, if_false]
theorem follow_l0_end (ats : List S39) (n i : Int) (f0 f1 : Int) (e f3 : ByteArray) (f4 : List S39) (h1 : ¬ i < n) (k : Nat) :
    run_Follow.l0 (k + 1) ats n i f0 f1 e f3 f4 = some (⟨#[]⟩, false) := by
  simp only [run_Follow.l0]
  rw [if_neg h1]
theorem follow_l0_yes (ats : List S39) (n i : Int) (f0 f1 : Int) (e f3 : ByteArray) (f4 : List S39) (a : S39) (h : rd_T39 ats i = a) (h0 : 0 ≤ i) (h1 : i < n) (h2 : i < ats.length) (hn : navB e a.f0 = true) (hsc : script (dat a.f1) = true) (hs : a.f1.size ≤ 1000000) (k : Nat) :
    run_Follow.l0 (k + 1) ats n i f0 f1 e f3 f4 = some (mkS ((source (dat a.f1)).getD []), (source (dat a.f1)).isSome) := by
  simp only [run_Follow.l0]
  rw [if_pos h1, if_pos h0, if_pos h2, h, show risk_Nav.f e a.f0 = some (navB e a.f0) from rfl, hn, show link_Script.f a.f1 = some (script (dat a.f1)) from bnd_of _ (by omega), hsc, show link_Source.f a.f1 = some (mkS ((source (dat a.f1)).getD []), (source (dat a.f1)).isSome) from bnd_of _ (by omega)]
  rfl
theorem follows_l0 (X : ByteArray) (hX : X.size ≤ 1000) : ∀ (d i : Nat), i + d = X.size → (∀ c ∈ X.data.toList.take i, 32 < c.toNat ∧ c.toNat ≠ 37) → ∀ k, d + 100 < k → boltinglaw19_RunFollows.l0 k X (i : Int) = some true
  | 0, i, h, hc, k, hk => by
    obtain ⟨k, rfl⟩ : ∃ m, k = m + 5 := ⟨k - 5, by omega⟩
    have hx := show (k + 5) = (k + 4) + 1 from rfl
    rw [List.take_of_length_le (by rw [← Lib.size_eq]; omega)] at hc
    have hr : ∀ c ∈ X.data.toList, 32 < c.toNat := fun c h => (hc c h).1
    obtain ⟨n1, n2, n3⟩ := made_scheme [74, 97, 118, 97, 83, 99, 114, 105, 112, 116] X.data.toList (by decide) hr (by decide) (by decide)
    obtain ⟨o1, o2, o3⟩ := made_scheme [104, 116, 116, 112, 115] X.data.toList (by decide) hr (by decide) (by decide)
    have hsc : script ([74, 97, 118, 97, 83, 99, 114, 105, 112, 116] ++ 58 :: X.data.toList) = true := by
      unfold script
      rw [n1]
      decide
    have hso : source ([74, 97, 118, 97, 83, 99, 114, 105, 112, 116] ++ 58 :: X.data.toList) = some X.data.toList := by
      unfold source
      rw [hsc, if_pos rfl, n2, n3, percent_plain _ (fun c h => (hc c h).2)]
    have hno : script ([104, 116, 116, 112, 115] ++ 58 :: X.data.toList) = false := by
      unfold script
      rw [o1]
      decide
    have s2 : ((⟨#[74, 97, 118, 97, 83, 99, 114, 105, 112, 116, 58]⟩ : ByteArray) ++ X).size = 11 + X.size := by rw [ByteArray.size_append]; rfl
    have s3 : ((⟨#[104, 116, 116, 112, 115, 58]⟩ : ByteArray) ++ X).size = 6 + X.size := by rw [ByteArray.size_append]; rfl
    have s4 : ((⟨#[106, 97, 118, 97, 115, 99, 114, 105, 112, 116, 58]⟩ : ByteArray) ++ X).size = 11 + X.size := by rw [ByteArray.size_append]; rfl
    have d2 : dat ((⟨#[74, 97, 118, 97, 83, 99, 114, 105, 112, 116, 58]⟩ : ByteArray) ++ X) = [74, 97, 118, 97, 83, 99, 114, 105, 112, 116] ++ 58 :: X.data.toList := by rw [dat_app]; rfl
    have d3 : dat ((⟨#[104, 116, 116, 112, 115, 58]⟩ : ByteArray) ++ X) = [104, 116, 116, 112, 115] ++ 58 :: X.data.toList := by rw [dat_app]; rfl
    have f1 : run_Follow.f (k + 4) 0 0 ⟨#[97]⟩ ⟨#[]⟩ [⟨⟨#[105, 100]⟩, ⟨#[106, 97, 118, 97, 115, 99, 114, 105, 112, 116, 58, 110, 111]⟩⟩, ⟨⟨#[104, 114, 101, 102]⟩, (⟨#[74, 97, 118, 97, 83, 99, 114, 105, 112, 116, 58]⟩ : ByteArray) ++ X⟩] = some (X, true) := by
      unfold run_Follow.f
      rw [if_pos rfl]
      refine Eq.trans (follow_l0_no [⟨⟨#[105, 100]⟩, ⟨#[106, 97, 118, 97, 115, 99, 114, 105, 112, 116, 58, 110, 111]⟩⟩, ⟨⟨#[104, 114, 101, 102]⟩, (⟨#[74, 97, 118, 97, 83, 99, 114, 105, 112, 116, 58]⟩ : ByteArray) ++ X⟩] _ 0 0 0 ⟨#[97]⟩ _ _ ⟨⟨#[105, 100]⟩, ⟨#[106, 97, 118, 97, 115, 99, 114, 105, 112, 116, 58, 110, 111]⟩⟩ rfl (by decide) (show (0 : Int) < 2 by decide) (show (0 : Int) < 2 by decide) (.inl (show navB ⟨#[97]⟩ ⟨#[105, 100]⟩ = false by decide +kernel)) (by decide) (by decide) (k + 3)) ?_
      refine Eq.trans (follow_l0_yes [⟨⟨#[105, 100]⟩, ⟨#[106, 97, 118, 97, 115, 99, 114, 105, 112, 116, 58, 110, 111]⟩⟩, ⟨⟨#[104, 114, 101, 102]⟩, (⟨#[74, 97, 118, 97, 83, 99, 114, 105, 112, 116, 58]⟩ : ByteArray) ++ X⟩] _ (0 + 1) 0 0 ⟨#[97]⟩ _ _ ⟨⟨#[104, 114, 101, 102]⟩, (⟨#[74, 97, 118, 97, 83, 99, 114, 105, 112, 116, 58]⟩ : ByteArray) ++ X⟩ rfl (by decide) (show (0 : Int) + 1 < 2 by decide) (show (0 : Int) + 1 < 2 by decide) (show navB ⟨#[97]⟩ ⟨#[104, 114, 101, 102]⟩ = true by decide +kernel) (by rw [d2]; exact hsc) (by rw [s2]; omega) (k + 2)) ?_
      rw [d2, hso]
      exact congrArg (fun s => some (s, true)) (mkS_data X)
    have f2 : run_Follow.f (k + 4) 0 0 ⟨#[97]⟩ ⟨#[]⟩ [⟨⟨#[104, 114, 101, 102]⟩, (⟨#[104, 116, 116, 112, 115, 58]⟩ : ByteArray) ++ X⟩] = some (⟨#[]⟩, false) := by
      unfold run_Follow.f
      rw [if_pos rfl]
      refine Eq.trans (follow_l0_no [⟨⟨#[104, 114, 101, 102]⟩, (⟨#[104, 116, 116, 112, 115, 58]⟩ : ByteArray) ++ X⟩] _ 0 0 0 ⟨#[97]⟩ _ _ ⟨⟨#[104, 114, 101, 102]⟩, (⟨#[104, 116, 116, 112, 115, 58]⟩ : ByteArray) ++ X⟩ rfl (by decide) (show (0 : Int) < 1 by decide) (show (0 : Int) < 1 by decide) (.inr (by rw [d3]; exact hno)) (by rw [s3]; omega) (by decide) (k + 3)) ?_
      exact follow_l0_end _ _ _ _ _ _ _ _ (show ¬ (0 : Int) + 1 < 1 by decide) (k + 2)
    have f3 : run_Follow.f (k + 4) 0 0 ⟨#[98]⟩ ⟨#[]⟩ [⟨⟨#[104, 114, 101, 102]⟩, (⟨#[106, 97, 118, 97, 115, 99, 114, 105, 112, 116, 58]⟩ : ByteArray) ++ X⟩] = some (⟨#[]⟩, false) := by
      unfold run_Follow.f
      rw [if_pos rfl]
      refine Eq.trans (follow_l0_no [⟨⟨#[104, 114, 101, 102]⟩, (⟨#[106, 97, 118, 97, 115, 99, 114, 105, 112, 116, 58]⟩ : ByteArray) ++ X⟩] _ 0 0 0 ⟨#[98]⟩ _ _ ⟨⟨#[104, 114, 101, 102]⟩, (⟨#[106, 97, 118, 97, 115, 99, 114, 105, 112, 116, 58]⟩ : ByteArray) ++ X⟩ rfl (by decide) (show (0 : Int) < 1 by decide) (show (0 : Int) < 1 by decide) (.inl (show navB ⟨#[98]⟩ ⟨#[104, 114, 101, 102]⟩ = false by decide +kernel)) (by rw [s4]; omega) (by decide) (k + 3)) ?_
      exact follow_l0_end _ _ _ _ _ _ _ _ (show ¬ (0 : Int) + 1 < 1 by decide) (k + 2)
    rw [hx]
    simp only [boltinglaw19_RunFollows.l0]
    rw [if_neg (by omega), if_pos (by omega), f1]
    simp only [Option.bind_some]
    rw [if_pos (by omega), f2]
    simp only [Option.bind_some]
    rw [f3]
    simp only [Option.bind_some, if_true, Bool.false_eq_true, if_false]
    rw [fixed_f (by omega)]
    rfl
  | d + 1, i, h, hc, k, hk => by
    obtain ⟨k, rfl⟩ : ∃ m, k = m + 1 := ⟨k - 1, by omega⟩
    obtain ⟨c, hcc⟩ := at_some X (show i < X.size by omega)
    simp only [boltinglaw19_RunFollows.l0]
    rw [if_pos (by omega), if_pos (by omega), bt_c hcc, wrap_succ (by omega) (by omega), fixed_f (by omega)]
    by_cases h32 : (c.toNat : Int) ≤ 32
    · rw [if_pos h32]; rfl
    · rw [if_neg h32]
      by_cases h37 : (c.toNat : Int) = 37
      · rw [if_pos h37]; rfl
      · rw [if_neg h37]
        refine follows_l0 X hX d (i + 1) (by omega) ?_ k (by omega)
        intro e he
        rw [take_succ' hcc] at he
        rcases List.mem_append.1 he with he | he
        · exact hc e he
        · obtain rfl := List.mem_singleton.1 he
          omega
theorem RunFollows : boltinglaw19_RunFollows.Pure := by
  intro a0 h0
  obtain ⟨h1, h2, h3⟩ := takeS a0 200 (by omega)
  refine ⟨1000, ?_⟩
  unfold boltinglaw19_RunFollows.f
  rw [if_pos h1, if_pos h2]
  obtain ⟨s, hs⟩ : ∃ s, a0.extract 0 (mn (a0.size : Int) 200).toNat = s := ⟨_, rfl⟩
  rw [hs] at h3 ⊢
  exact follows_l0 s (by omega) s.size 0 (by omega) (by simp) 1000 (by omega)
end Go.Proofs.Ytakhldahohooiaa.Pure
