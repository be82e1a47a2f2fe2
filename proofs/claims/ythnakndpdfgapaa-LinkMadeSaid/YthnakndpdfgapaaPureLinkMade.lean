/- An address made of a scheme's letters and anything has that scheme; one of javascript runs what follows, but for its marks; no condition. -/
import Derived.Test.YthnakndpdfgapaaLinkLaws
namespace Go.Proofs.Ythnakndpdfgapaa.Pure
set_option linter.unusedVariables false
set_option linter.unusedSimpArgs false
open Go.RowKit Go.Proofs.Ythnakndpdfgapaa.Pr Go.Proofs.YthnakndpdfgapaaW.PrintWords Go.Proofs.YthnakndpdfgapaaW.PrintLast

theorem made_scheme (a r : List UInt8) (ha : ∀ c ∈ a, 32 < c.toNat) (hr : ∀ c ∈ r, 32 < c.toNat) (h58 : a.contains 58 = false) (hok : okName a = true) :
    scheme (a ++ 58 :: r) = some (lower a) ∧ strip (a ++ 58 :: r) = a ++ 58 :: r ∧ aft 58 (a ++ 58 :: r) = r := by
  have hall : ∀ c ∈ a ++ 58 :: r, 32 < c.toNat := by
    intro c hc
    rcases List.mem_append.1 hc with h | h
    · exact ha c h
    · rcases List.mem_cons.1 h with h | h
      · subst h; decide
      · exact hr c h
  have hs := strip_plain hall
  obtain ⟨e1, e2⟩ := bef_app (b := r) h58
  refine ⟨?_, hs, e2⟩
  unfold scheme
  rw [hs, e1, hok]
  simp
theorem x_script (r : List UInt8) (hr : ∀ c ∈ r, 32 < c.toNat) : script (120 :: r) = script (88 :: r) := by
  have h1 : ∀ x : UInt8, 32 < x.toNat → strip (x :: r) = x :: r := fun x hx => strip_plain (by
    intro c hc
    rcases List.mem_cons.1 hc with h | h
    · subst h; exact hx
    · exact hr c h)
  have e : scheme (120 :: r) = scheme (88 :: r) := by
    unfold scheme
    rw [h1 120 (by decide), h1 88 (by decide)]
    have b1 : bef 58 (120 :: r) = 120 :: bef 58 r := by unfold bef; simp [List.takeWhile_cons]
    have b2 : bef 58 (88 :: r) = 88 :: bef 58 r := by unfold bef; simp [List.takeWhile_cons]
    have c1 : (120 :: r).contains (58 : UInt8) = r.contains 58 := by rw [List.contains_cons]; simp
    have c2 : (88 :: r).contains (58 : UInt8) = r.contains 58 := by rw [List.contains_cons]; simp
    rw [b1, b2, c1, c2]
    have o : okName (120 :: bef 58 r) = okName (88 :: bef 58 r) := by
      show (letter 120 && (120 :: bef 58 r).all inScheme) = (letter 88 && (88 :: bef 58 r).all inScheme)
      rw [show letter 120 = letter 88 by decide, List.all_cons, List.all_cons, show inScheme 120 = inScheme 88 by decide]
    rw [o]
    have l : lower (120 :: bef 58 r) = lower (88 :: bef 58 r) := by
      unfold lower
      rw [List.map_cons, List.map_cons, show low 120 = low 88 by decide]
    rw [l]
  unfold script
  rw [e]
theorem data_app (a b : ByteArray) : (a ++ b).data.toList = a.data.toList ++ b.data.toList := by simp
theorem made_l0 (X : ByteArray) (hX : X.size ≤ 1000) : ∀ (d i : Nat), i + d = X.size → (∀ c ∈ X.data.toList.take i, 32 < c.toNat ∧ c.toNat ≠ 37) → ∀ k, d < k → boltinglaw09_LinkMade.l0 k X (i : Int) = some true
  | 0, i, h, hc, k, hk => by
    obtain ⟨k, rfl⟩ : ∃ m, k = m + 1 := ⟨k - 1, by omega⟩
    simp only [boltinglaw09_LinkMade.l0]
    rw [List.take_of_length_le (by rw [← Lib.size_eq]; omega)] at hc
    have hr : ∀ c ∈ X.data.toList, 32 < c.toNat := fun c h => (hc c h).1
    have s1 : ((⟨#[120, 43, 121, 45, 122, 46, 49, 58]⟩ : ByteArray) ++ X).size = 8 + X.size := by rw [ByteArray.size_append]; rfl
    have s2 : ((⟨#[74, 97, 118, 97, 83, 99, 114, 105, 112, 116, 58]⟩ : ByteArray) ++ X).size = 11 + X.size := by rw [ByteArray.size_append]; rfl
    have s3 : ((⟨#[120]⟩ : ByteArray) ++ X).size = 1 + X.size := by rw [ByteArray.size_append]; rfl
    have s4 : ((⟨#[88]⟩ : ByteArray) ++ X).size = 1 + X.size := by rw [ByteArray.size_append]; rfl
    obtain ⟨m1, m2, m3⟩ := made_scheme [120, 43, 121, 45, 122, 46, 49] X.data.toList (by decide) hr (by decide) (by decide)
    obtain ⟨n1, n2, n3⟩ := made_scheme [74, 97, 118, 97, 83, 99, 114, 105, 112, 116] X.data.toList (by decide) hr (by decide) (by decide)
    have hso : source ([74, 97, 118, 97, 83, 99, 114, 105, 112, 116] ++ 58 :: X.data.toList) = some X.data.toList := by
      unfold source script
      rw [n1, if_pos (by decide), n2, n3, percent_plain _ (fun c h => (hc c h).2)]
    have hx := x_script X.data.toList hr
    rw [if_neg (by omega), if_pos (by omega), scheme_f _ (by omega)]
    simp only [Option.bind_some]
    rw [if_pos (by omega), source_f _ (by omega)]
    simp only [Option.bind_some]
    rw [if_pos (show 1 + X.size ≤ 9223372036854775807 by omega), script_f _ (by omega), script_f _ (by omega), fixed_true]
    rw [show ((⟨#[120, 43, 121, 45, 122, 46, 49, 58]⟩ : ByteArray) ++ X).data.toList = [120, 43, 121, 45, 122, 46, 49] ++ 58 :: X.data.toList by rw [data_app]; rfl, m1]
    rw [show ((⟨#[74, 97, 118, 97, 83, 99, 114, 105, 112, 116, 58]⟩ : ByteArray) ++ X).data.toList = [74, 97, 118, 97, 83, 99, 114, 105, 112, 116] ++ 58 :: X.data.toList by rw [data_app]; rfl, hso]
    rw [show ((⟨#[120]⟩ : ByteArray) ++ X).data.toList = 120 :: X.data.toList by rw [data_app]; rfl, show ((⟨#[88]⟩ : ByteArray) ++ X).data.toList = 88 :: X.data.toList by rw [data_app]; rfl, hx]
    have hl : (mkS (lower [120, 43, 121, 45, 122, 46, 49])).toList = [120, 43, 121, 45, 122, 46, 49] := by rw [mkS_toList]; decide
    simp only [Option.bind_some, Option.getD_some, Option.isSome_some, if_true]
    rw [if_pos hl, if_pos (by rw [mkS_toList, Lib.toList_data])]
    simp
  | d + 1, i, h, hc, k, hk => by
    obtain ⟨k, rfl⟩ : ∃ m, k = m + 1 := ⟨k - 1, by omega⟩
    obtain ⟨c, hcc⟩ := at_some X (show i < X.size by omega)
    simp only [boltinglaw09_LinkMade.l0]
    rw [if_pos (by omega), if_pos (by omega), bt_c hcc, wrap_succ (by omega) (by omega), fixed_true]
    by_cases h32 : (c.toNat : Int) ≤ 32
    · rw [if_pos h32]; rfl
    · rw [if_neg h32]
      by_cases h37 : (c.toNat : Int) = 37
      · rw [if_pos h37]; rfl
      · rw [if_neg h37]
        refine made_l0 X hX d (i + 1) (by omega) ?_ k (by omega)
        intro e he
        rw [take_succ' hcc] at he
        rcases List.mem_append.1 he with he | he
        · exact hc e he
        · obtain rfl := List.mem_singleton.1 he
          omega
theorem LinkMade : boltinglaw09_LinkMade.Pure := by
  intro a0 h0
  obtain ⟨h1, h2, h3⟩ := takeS a0 200 (by omega)
  obtain ⟨K, hK⟩ : ∃ K, 3000001 ≤ K := ⟨_, Nat.le_refl _⟩
  refine ⟨K, ?_⟩
  unfold boltinglaw09_LinkMade.f
  rw [if_pos h1, if_pos h2]
  generalize a0.extract 0 (mn (a0.size : Int) 200).toNat = X at h3 ⊢
  exact made_l0 X (by omega) X.size 0 (by omega) (by simp) _ (by omega)
end Go.Proofs.Ythnakndpdfgapaa.Pure
