/- Bytes written as marks of two digits come back as they are, great digits or small; no condition. -/
import Derived.Test.YthnakndpdfgapaaLinkLaws
namespace Go.Proofs.Ythnakndpdfgapaa.Pure
set_option linter.unusedVariables false
set_option linter.unusedSimpArgs false
open Go.RowKit Go.Proofs.Ythnakndpdfgapaa.Pr Go.Proofs.YthnakndpdfgapaaW.PrintWords Go.Proofs.YthnakndpdfgapaaW.PrintLast

def digsOf (great : Bool) : ByteArray := if great then (⟨#[48, 49, 50, 51, 52, 53, 54, 55, 56, 57, 65, 66, 67, 68, 69, 70]⟩ : ByteArray) else (⟨#[48, 49, 50, 51, 52, 53, 54, 55, 56, 57, 97, 98, 99, 100, 101, 102]⟩ : ByteArray)
def dig (great : Bool) (n : Nat) : UInt8 := (digsOf great).data.toList.getD n 0
def mark (great : Bool) (c : UInt8) : List UInt8 := [37, dig great (c.toNat / 16), dig great (c.toNat % 16)]
def marks (great : Bool) (l : List UInt8) : List UInt8 := l.flatMap (mark great)
theorem dig_hex : ∀ (b : Bool) (n : Fin 16), hex (dig b n.val) = n.val ∧ 32 < (dig b n.val).toNat ∧ (dig b n.val) ≠ 58 := by decide +kernel
theorem dig_ext : ∀ (b : Bool) (n : Fin 16), (digsOf b).extract n.val (n.val + 1) = mkS [dig b n.val] := by decide +kernel
theorem and15 : ∀ c : Fin 256, Go.bits BinOp.and IntKind.u8 (c.val : Int) 15 = ((c.val % 16 : Nat) : Int) := by decide +kernel
theorem percent_marks (b : Bool) : ∀ l : List UInt8, percent (marks b l) = l
  | [] => by simp [marks, percent]
  | c :: t => by
    have hc := c.toNat_lt
    have d1 := dig_hex b ⟨c.toNat / 16, by omega⟩
    have d2 := dig_hex b ⟨c.toNat % 16, by omega⟩
    simp only at d1 d2
    have hm : marks b (c :: t) = 37 :: dig b (c.toNat / 16) :: dig b (c.toNat % 16) :: marks b t := by
      unfold marks; rw [List.flatMap_cons]; rfl
    rw [hm, percent, if_pos ⟨rfl, by rw [d1.1]; omega, by rw [d2.1]; omega⟩, d1.1, d2.1, percent_marks b t]
    congr 1
    apply UInt8.toNat_inj.1
    rw [u8_nat (by omega)]
    omega
theorem marks_big (b : Bool) (l : List UInt8) : ∀ x ∈ marks b l, 32 < x.toNat := by
  intro x hx
  unfold marks at hx
  obtain ⟨c, _, hc⟩ := List.mem_flatMap.1 hx
  have hlt := c.toNat_lt
  unfold mark at hc
  rcases List.mem_cons.1 hc with h | h
  · subst h; decide
  rcases List.mem_cons.1 h with h | h
  · subst h; exact (dig_hex b ⟨c.toNat / 16, by omega⟩).2.1
  · have := List.mem_singleton.1 h
    subst this; exact (dig_hex b ⟨c.toNat % 16, by omega⟩).2.1
theorem marks_len (b : Bool) (l : List UInt8) : (marks b l).length = 3 * l.length := by
  induction l with
  | nil => rfl
  | cons c t ih =>
    have hm : marks b (c :: t) = mark b c ++ marks b t := by unfold marks; rw [List.flatMap_cons]
    rw [hm, List.length_append, ih]
    simp [mark]
    omega
theorem marks_snoc (b : Bool) (l : List UInt8) (c : UInt8) : marks b (l ++ [c]) = marks b l ++ mark b c := by
  unfold marks
  simp
theorem js_source (r : List UInt8) (hr : ∀ c ∈ r, 32 < c.toNat) : source ([106, 97, 118, 97, 115, 99, 114, 105, 112, 116] ++ 58 :: r) = some (percent r) := by
  have hall : ∀ c ∈ [106, 97, 118, 97, 115, 99, 114, 105, 112, 116] ++ (58 : UInt8) :: r, 32 < c.toNat := by
    intro c hc
    rcases List.mem_append.1 hc with h | h
    · exact (by decide : ∀ c ∈ ([106, 97, 118, 97, 115, 99, 114, 105, 112, 116] : List UInt8), 32 < c.toNat) c h
    · rcases List.mem_cons.1 h with h | h
      · subst h; decide
      · exact hr c h
  have hs := strip_plain hall
  obtain ⟨e1, e2⟩ := bef_app (a := [106, 97, 118, 97, 115, 99, 114, 105, 112, 116]) (b := r) (by decide)
  have hsc : scheme ([106, 97, 118, 97, 115, 99, 114, 105, 112, 116] ++ 58 :: r) = some [106, 97, 118, 97, 115, 99, 114, 105, 112, 116] := by
    unfold scheme
    rw [hs, e1, if_pos (by rw [show okName [106, 97, 118, 97, 115, 99, 114, 105, 112, 116] = true by decide]; simp)]
    decide
  unfold source script
  rw [hsc, if_pos (by decide), hs, e2]
theorem mkS_app (a b : List UInt8) : mkS a ++ mkS b = mkS (a ++ b) := by
  unfold mkS
  apply ByteArray.ext
  simp
theorem marks_l0 (b : Bool) (X : ByteArray) (hX : X.size ≤ 200) : ∀ (d i : Nat), i + d = X.size → ∀ k, d < k →
    boltinglaw09_LinkMarks.l0 k X (digsOf b) (mkS (marks b (X.data.toList.take i))) (i : Int) = some true
  | 0, i, h, k, hk => by
    obtain ⟨k, rfl⟩ : ∃ m, k = m + 1 := ⟨k - 1, by omega⟩
    simp only [boltinglaw09_LinkMarks.l0]
    rw [List.take_of_length_le (by rw [← Lib.size_eq]; omega)]
    have hml := marks_len b X.data.toList
    rw [← Lib.size_eq] at hml
    have s1 : ((⟨#[106, 97, 118, 97, 115, 99, 114, 105, 112, 116, 58]⟩ : ByteArray) ++ mkS (marks b X.data.toList)).size = 11 + 3 * X.size := by
      rw [ByteArray.size_append, mkS_size, hml]; rfl
    rw [if_neg (by omega), if_pos (by rw [mkS_size]; omega), source_f _ (by omega)]
    simp only [Option.bind_some]
    rw [percent_f _ (by rw [mkS_size]; omega), fixed_true, mkS_list, percent_marks]
    rw [show ((⟨#[106, 97, 118, 97, 115, 99, 114, 105, 112, 116, 58]⟩ : ByteArray) ++ mkS (marks b X.data.toList)).data.toList = [106, 97, 118, 97, 115, 99, 114, 105, 112, 116] ++ 58 :: marks b X.data.toList by simp [mkS]]
    rw [js_source _ (marks_big b _), percent_marks]
    simp [mkS_data]
  | d + 1, i, h, k, hk => by
    obtain ⟨k, rfl⟩ : ∃ m, k = m + 1 := ⟨k - 1, by omega⟩
    obtain ⟨c, hc⟩ := at_some X (show i < X.size by omega)
    have hlt := c.toNat_lt
    have hds : (digsOf b).size = 16 := by cases b <;> rfl
    have hhi : (c.toNat : Int) / 16 = ((c.toNat / 16 : Nat) : Int) := by omega
    have hlo : Go.bits BinOp.and IntKind.u8 (c.toNat : Int) 15 = ((c.toNat % 16 : Nat) : Int) := and15 ⟨c.toNat, hlt⟩
    have h1 : (((c.toNat / 16 : Nat) : Int) + 1) % 256 = ((c.toNat / 16 + 1 : Nat) : Int) := by omega
    have h2 : (((c.toNat % 16 : Nat) : Int) + 1) % 256 = ((c.toNat % 16 + 1 : Nat) : Int) := by omega
    have x1 : (digsOf b).extract (c.toNat / 16) (c.toNat / 16 + 1) = mkS [dig b (c.toNat / 16)] := dig_ext b ⟨c.toNat / 16, by omega⟩
    have x2 : (digsOf b).extract (c.toNat % 16) (c.toNat % 16 + 1) = mkS [dig b (c.toNat % 16)] := dig_ext b ⟨c.toNat % 16, by omega⟩
    have hml := marks_len b (X.data.toList.take i)
    rw [List.length_take, ← Lib.size_eq] at hml
    simp only [boltinglaw09_LinkMarks.l0]
    rw [if_pos (by omega), if_pos (by omega), bt_c hc, hhi, hlo, h1, h2]
    simp only [Int.toNat_natCast]
    rw [x1, x2]
    rw [if_pos (by omega), if_pos (by omega), if_pos (by omega), if_pos (by rw [mkS_size]; simp), if_pos (by omega), if_pos (by omega), if_pos (by omega)]
    have e0 : (⟨#[37]⟩ : ByteArray) = mkS [37] := rfl
    rw [e0, mkS_app, mkS_app, mkS_app, if_pos (by rw [mkS_size, mkS_size]; simp), if_pos (by rw [mkS_size, mkS_size, hml]; simp; omega), wrap_succ (by omega) (by omega)]
    have := marks_l0 b X hX d (i + 1) (by omega) k (by omega)
    rw [take_succ' hc, marks_snoc] at this
    exact this
theorem LinkMarks : boltinglaw09_LinkMarks.Pure := by
  intro a0 a1 h0
  obtain ⟨h1, h2, h3⟩ := takeS a0 200 (by omega)
  obtain ⟨K, hK⟩ : ∃ K, 3000001 ≤ K := ⟨_, Nat.le_refl _⟩
  refine ⟨K + 1, ?_⟩
  unfold boltinglaw09_LinkMarks.f
  rw [if_pos h1, if_pos h2]
  generalize a0.extract 0 (mn (a0.size : Int) 200).toNat = X at h3 ⊢
  have hm := marks_l0 a1 X (by omega) X.size 0 (by omega) K (by omega)
  cases a1
  · rw [if_neg (by simp)]
    simp only [boltinglaw09_LinkMarks.j0]
    simpa [marks, mkS, digsOf] using hm
  · rw [if_pos rfl]
    simp only [boltinglaw09_LinkMarks.j0]
    simpa [marks, mkS, digsOf] using hm
end Go.Proofs.Ythnakndpdfgapaa.Pure
