/- Whether any policy may have any name; no condition but the name's size. -/
import Derived.Test.YthblohknnlkidaaDoorHeaderRef2
import Derived.Test.YthblohknnlkidaaDoorPrx7
namespace Go.Proofs.YthblohknnlkidaaDoor.Pure
set_option linter.unusedVariables false
set_option linter.unusedSimpArgs false
open Go.RowKit Go.Proofs.YthblohknnlkidaaDoor.Pr Go.Proofs.YthblohknnlkidaaDoorW.PrintWords Go.Proofs.YthblohknnlkidaaDoorW.PrintLast

theorem HeaderAllows (o r : Bool) (l : List ByteArray) (any twice : Bool) (n : ByteArray) (had : Int) (hn : n.size ≤ 140737488351232) : ∃ k, boltinglaw15_HeaderAllows.f k o r l any twice n had = some true := by
  obtain ⟨K, hK⟩ : ∃ K, 3000001 + n.size ≤ K := ⟨_, Nat.le_refl _⟩
  refine ⟨K, ?_⟩
  have hm : mn (l.length : Int) 60 ≤ 60 ∧ 0 ≤ mn (l.length : Int) 60 ∧ mn (l.length : Int) 60 ≤ (l.length : Int) := by
    unfold mn
    split <;> omega
  unfold boltinglaw15_HeaderAllows.f
  rw [if_pos hm.2.1, if_pos hm.2.2, fixed_true (by omega)]
  have hl : (l.take (mn (l.length : Int) 60).toNat).length ≤ 60 := by rw [List.length_take]; omega
  generalize l.take (mn (l.length : Int) 60).toNat = X at hl ⊢
  rw [← SS_data X]
  have hx : (X.map fun s => s.data.toList).length ≤ 100000 := by rw [List.length_map]; omega
  simp only [Option.bind_some]
  rw [if_pos trivial, allows_f o r _ any twice n had hx hn (by omega) (by omega), ref_allows o r _ any twice n had hx hn (by omega) (by omega)]
  simp
end Go.Proofs.YthblohknnlkidaaDoor.Pure
