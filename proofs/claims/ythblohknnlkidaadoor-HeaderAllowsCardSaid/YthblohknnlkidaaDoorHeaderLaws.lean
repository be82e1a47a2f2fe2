/- header's plain laws. -/
import Derived.Test.YthblohknnlkidaaDoorHeaderRef
import Derived.Test.YthblohknnlkidaaDoorPrx4
namespace Go.Proofs.YthblohknnlkidaaDoor.Pure
set_option linter.unusedVariables false
set_option linter.unusedSimpArgs false
open Go.RowKit Go.Proofs.YthblohknnlkidaaDoor.Pr Go.Proofs.YthblohknnlkidaaDoorW.PrintWords Go.Proofs.YthblohknnlkidaaDoorW.PrintLast

theorem allows_f (o r : Bool) (L : List (List UInt8)) (any twice : Bool) (n : ByteArray) (had : Int) (hL : L.length ≤ 100000) (hn : n.size ≤ 140737488351232) {k : Nat} (hk : 100001 ≤ k) (hk2 : n.size < k) :
    header_Allows.f k o r (SS L) any twice n had = some (mayL n.data.toList && (any || L.contains n.data.toList) && (decide (had ≤ 0) || twice)) := by
  unfold header_Allows.f
  rw [may_f n (by omega) hk2, contains_f L n hL hk]
  simp only [Option.bind_some]
  cases mayL n.data.toList <;> cases any <;> cases L.contains n.data.toList <;> by_cases h : had ≤ 0 <;> simp [h]
theorem equal_l0 (L : List (List UInt8)) (hL : L.length ≤ 100000) : ∀ (d i : Nat), i + d = L.length → ∀ k, d < k → boltingref02_Equal.l0 k (SS L) (SS L) (i : Int) = some true
  | 0, i, h, k, hk => by
    obtain ⟨k, rfl⟩ : ∃ m, k = m + 1 := ⟨k - 1, by omega⟩
    simp only [boltingref02_Equal.l0]
    rw [if_neg (by rw [SS_len]; omega)]
  | d + 1, i, h, k, hk => by
    obtain ⟨k, rfl⟩ : ∃ m, k = m + 1 := ⟨k - 1, by omega⟩
    simp only [boltingref02_Equal.l0]
    rw [SS_len, if_pos (by omega), if_pos (by omega), if_pos (by omega), if_pos trivial, wrap_succ (by omega) (by omega)]
    exact equal_l0 L hL d (i + 1) (by omega) k (by omega)
theorem equal_f (L : List (List UInt8)) (hL : L.length ≤ 100000) {k : Nat} (hk : 100001 ≤ k) : boltingref02_Equal.f k (SS L) (SS L) = some true := by
  unfold boltingref02_Equal.f
  rw [if_pos rfl]
  exact equal_l0 L hL L.length 0 (by omega) k (by omega)
theorem same_f (o r : Bool) (L : List (List UInt8)) (any twice : Bool) (hL : L.length ≤ 100000) {k : Nat} (hk : 100001 ≤ k) : boltingref15_Same.f k o r (SS L) any twice o r (SS L) any twice = some true := by
  unfold boltingref15_Same.f
  rw [if_pos (by simp), if_pos (by simp), if_pos (by simp), if_pos (by simp), equal_f L hL hk]
  rfl
set_option maxRecDepth 100000 in
theorem fixed_200 : boltinglaw15_fixed.f 200 = some true := by decide +kernel
theorem fixed_true {k : Nat} (hk : 200 ≤ k) : boltinglaw15_fixed.f k = some true := more (f := fun k => boltinglaw15_fixed.f k) boltinglaw15_fixed.mono hk fixed_200

/-! ### names are names -/
theorem stepV_may {g : Asked} (h : ∀ v ∈ g.names, mayL v = true) (v : List UInt8) : ∀ x ∈ (stepV g v).names, mayL x = true := by
  unfold stepV
  split
  · exact h
  · split
    · exact h
    · split
      · rename_i h1
        intro x hx
        rcases List.mem_append.1 hx with hx | hx
        · exact h x hx
        · rw [List.mem_singleton] at hx; subst hx
          simp at h1; exact h1.1
      · exact h
theorem foldV_may : ∀ (l : List (List UInt8)) (g : Asked), (∀ v ∈ g.names, mayL v = true) → ∀ x ∈ (l.foldl stepV g).names, mayL x = true
  | [], g, h => h
  | v :: l, g, h => foldV_may l _ (stepV_may h v)
theorem parse_may (P : List (List (List UInt8))) (rep : Bool) : ∀ x ∈ (parseG P rep).names, mayL x = true := by
  unfold parseG
  split
  · exact foldV_may _ _ (by simp)
  · simp
theorem stepV_count (g : Asked) (v : List UInt8) : (stepV g v).names.length ≤ g.names.length + 1 := by
  unfold stepV
  split
  · simp
  · split
    · simp
    · split <;> simp
theorem foldV_count : ∀ (l : List (List UInt8)) (g : Asked), (l.foldl stepV g).names.length ≤ g.names.length + l.length
  | [], g => Nat.le_refl _
  | v :: l, g => by
    have := foldV_count l (stepV g v)
    have := stepV_count g v
    simp only [List.foldl_cons, List.length_cons]; omega
theorem stepV_from {g : Asked} {p : List UInt8 → Prop} (h : ∀ v ∈ g.names, p v) {v : List UInt8} (hv : p v) : ∀ x ∈ (stepV g v).names, p x := by
  unfold stepV
  split
  · exact h
  · split
    · exact h
    · split
      · intro x hx
        rcases List.mem_append.1 hx with hx | hx
        · exact h x hx
        · rw [List.mem_singleton] at hx; subst hx; exact hv
      · exact h
theorem foldV_from {p : List UInt8 → Prop} : ∀ (l : List (List UInt8)) (g : Asked), (∀ v ∈ g.names, p v) → (∀ v ∈ l, p v) → ∀ x ∈ (l.foldl stepV g).names, p x
  | [], g, h, _ => h
  | v :: l, g, h, hl => foldV_from l _ (stepV_from h (hl v (by simp))) (fun x hx => hl x (by simp [hx]))
theorem parse_len (s : List UInt8) (rep : Bool) : (parseG (partsL s) rep).names.length ≤ s.length + 1 ∧ ∀ x ∈ (parseG (partsL s) rep).names, x.length ≤ s.length := by
  have hwd := partsL_words s
  have l2 := namedL_len (m := s.length + 1) typesN (fun d hd => (hwd d hd).1)
  have z2 : ∀ x ∈ (namedL (partsL s) typesN).1, x.length ≤ s.length := fun x hx => by
    obtain ⟨d, hd, hxd⟩ := namedL_mem hx
    exact (hwd d hd).2 x hxd
  unfold parseG
  split
  · refine ⟨?_, foldV_from _ _ (by simp) z2⟩
    have := foldV_count (namedL (partsL s) typesN).1 ⟨[], false, false⟩
    simp at this ⊢; omega
  · simp

/-! ### directives, of whatever words -/
def stepW (out : List (List (List UInt8))) : List (List UInt8) → List (List (List UInt8))
  | [] => out
  | w :: t => if hasName out (lower w) then out else out ++ [lower w :: t]
theorem stepP_W (out : List (List (List UInt8))) (p : List UInt8) : stepP out p = stepW out (words p) := by
  unfold stepP stepW
  split <;> simp_all
theorem foldP_W : ∀ (l : List (List UInt8)) (out : List (List (List UInt8))), l.foldl stepP out = (l.map words).foldl stepW out
  | [], out => rfl
  | p :: l, out => by
    rw [List.foldl_cons, stepP_W, foldP_W l, List.map_cons, List.foldl_cons]
theorem hasName_step {out : List (List (List UInt8))} {n : List UInt8} (h : hasName out n = true) (p : List UInt8) : hasName (stepP out p) n = true := by
  unfold stepP
  split
  · exact h
  · split
    · exact h
    · rw [hasName_snoc, h]; rfl
theorem hasName_fold {n : List UInt8} : ∀ (l : List (List UInt8)) (out : List (List (List UInt8))), hasName out n = true → hasName (l.foldl stepP out) n = true
  | [], out, h => h
  | p :: l, out, h => hasName_fold l _ (hasName_step h p)
/-- What a header's parts are: a name in small letters, each once; words without spaces. -/
def okPart (d : List (List UInt8)) : Prop := (∃ w t, d = w :: t ∧ lower w = w) ∧ ∀ x ∈ d, x ≠ [] ∧ ∀ c ∈ x, space c = false
theorem stepP_ok {out : List (List (List UInt8))} (h : ∀ d ∈ out, okPart d) (p : List UInt8) : ∀ d ∈ stepP out p, okPart d := by
  unfold stepP
  cases hw : words p with
  | nil => exact h
  | cons w t =>
    have hm : ∀ x ∈ w :: t, x ≠ [] ∧ ∀ c ∈ x, space c = false := fun x hx => by
      obtain ⟨h1, h2, _⟩ := words_mem (l := p) (x := x) (by rw [hw]; exact hx)
      exact ⟨h1, h2⟩
    dsimp only
    split
    · exact h
    · intro d hd
      rcases List.mem_append.1 hd with hd | hd
      · exact h d hd
      · rw [List.mem_singleton] at hd; subst hd
        refine ⟨⟨_, _, rfl, lower_lower w⟩, fun x hx => ?_⟩
        rcases List.mem_cons.1 hx with hx | hx
        · subst hx
          obtain ⟨h1, h2⟩ := hm w (by simp)
          exact ⟨lower_ne h1, lower_space h2⟩
        · exact hm x (by simp [hx])
theorem foldP_ok : ∀ (l : List (List UInt8)) (out : List (List (List UInt8))), (∀ d ∈ out, okPart d) → ∀ d ∈ l.foldl stepP out, okPart d
  | [], out, h => h
  | p :: l, out, h => foldP_ok l _ (stepP_ok h p)
theorem partsL_ok (s : List UInt8) : ∀ d ∈ partsL s, okPart d := foldP_ok _ _ (by simp)
def heads (out : List (List (List UInt8))) : List (List UInt8) := out.map fun d => d.headD []
theorem hasName_mem {out : List (List (List UInt8))} {n : List UInt8} : hasName out n = true ↔ n ∈ heads out := by
  unfold hasName heads
  rw [List.any_eq_true, List.mem_map]
  constructor
  · rintro ⟨x, hx, h⟩; exact ⟨x, hx, by simpa using h⟩
  · rintro ⟨x, hx, h⟩; exact ⟨x, hx, by simpa using h⟩
theorem stepP_once {out : List (List (List UInt8))} (h : (heads out).Nodup) (p : List UInt8) : (heads (stepP out p)).Nodup := by
  unfold stepP
  cases hw : words p with
  | nil => exact h
  | cons w t =>
    dsimp only
    split
    · exact h
    · rename_i hn
      have e : heads (out ++ [lower w :: t]) = heads out ++ [lower w] := by simp [heads]
      rw [e, List.nodup_append]
      refine ⟨h, by simp, ?_⟩
      intro a ha b hb
      rw [List.mem_singleton] at hb; subst hb
      intro e; subst e
      exact hn (hasName_mem.2 ha)
theorem foldP_once : ∀ (l : List (List UInt8)) (out : List (List (List UInt8))), (heads out).Nodup → (heads (l.foldl stepP out)).Nodup
  | [], out, h => h
  | p :: l, out, h => foldP_once l _ (stepP_once h p)
theorem partsL_once (s : List UInt8) : (heads (partsL s)).Nodup := foldP_once _ _ (by simp [heads])
end Go.Proofs.YthblohknnlkidaaDoor.Pure
