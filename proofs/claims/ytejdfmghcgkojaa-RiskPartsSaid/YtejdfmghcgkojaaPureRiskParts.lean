/- RiskParts of the document's chapter 10: it answers true whatever the input. -/
import Derived.Test.YtejdfmghcgkojaaRiskSafe
import Derived.Test.YtejdfmghcgkojaaPrx10
namespace Go.Proofs.Ytejdfmghcgkojaa.Pure
set_option linter.unusedVariables false
set_option linter.unusedSimpArgs false
open Go.RowKit Go.Proofs.Ytejdfmghcgkojaa.Pr Go.Proofs.YtejdfmghcgkojaaW.PrintWords Go.Proofs.YtejdfmghcgkojaaW.PrintLast

theorem mask_bound (x : Int) : 0 ≤ Go.bits .and .i64 x 65535 ∧ Go.bits .and .i64 x 65535 ≤ 65535 := by
  unfold Go.bits
  have h : ((BitVec.ofInt 64 x) &&& (BitVec.ofInt 64 65535)).toNat ≤ 65535 := by
    rw [BitVec.toNat_and]
    exact Nat.le_trans Nat.and_le_right (by decide)
  show 0 ≤ IntKind.i64.wrap (((BitVec.ofInt 64 x) &&& (BitVec.ofInt 64 65535)).toNat : Int) ∧ IntKind.i64.wrap (((BitVec.ofInt 64 x) &&& (BitVec.ofInt 64 65535)).toNat : Int) ≤ 65535
  obtain ⟨n, hn⟩ : ∃ n, ((BitVec.ofInt 64 x) &&& (BitVec.ofInt 64 65535)).toNat = n := ⟨_, rfl⟩
  rw [hn] at h ⊢
  rw [IntKind.wrap_i64]
  omega
theorem tmod_in (a : Int) (n : Nat) (ha : 0 ≤ a) (hn : 0 < n) : 0 ≤ Int.tmod a (n : Int) ∧ Int.tmod a (n : Int) < (n : Int) :=
  ⟨Int.tmod_nonneg _ ha, Int.tmod_lt_of_pos _ (by omega)⟩
theorem all_take {l : List S37} {p : S37 → Bool} (h : l.all p = true) (n : Nat) : (l.take n).all p = true := by
  rw [List.all_eq_true] at h ⊢
  exact fun x hx => h x (List.mem_of_mem_take hx)
theorem all_drop {l : List S37} {p : S37 → Bool} (h : l.all p = true) (n : Nat) : (l.drop n).all p = true := by
  rw [List.all_eq_true] at h ⊢
  exact fun x hx => h x (List.mem_of_mem_drop hx)
theorem row_cut {x : S37} (h : rowB x = true) (n : Nat) : rowB ⟨x.f0, x.f1, x.f2, x.f3, x.f4.take n⟩ = true := by
  unfold rowB at h ⊢
  show (if x.f1 = 0 then !mem unsafeL x.f2 && (x.f4.take n).all _ else true) = true
  by_cases h1 : x.f1 = 0
  · rw [if_pos h1] at h ⊢
    rw [Bool.and_eq_true] at h ⊢
    refine ⟨h.1, ?_⟩
    have := h.2
    rw [List.all_eq_true] at this ⊢
    exact fun a ha => this a (List.mem_of_mem_take ha)
  · rw [if_neg h1]
theorem parts_j1 (l : List S37) (hl : l.length ≤ 40) (hne : l ≠ []) (hf : ∀ x ∈ l, Fits x) (ha : ∀ x ∈ l, x.f4.length ≤ 1000) (hall : l.all rowB = true) (i n : Int) (b : Bool) (k : Nat) (hk : 1100100 ≤ k) : boltinglaw10_RiskParts.j1 k l i n b = some true := by
  obtain ⟨k, rfl⟩ : ∃ m, k = m + 1 := ⟨k - 1, by omega⟩
  have hk' : 1100000 ≤ k := by omega
  clear hk
  simp only [boltinglaw10_RiskParts.j1]
  cases b with
  | true =>
    rw [if_pos rfl, fixed_f (by omega)]; rfl
  | false =>
    have hpos : 0 < l.length := List.length_pos_iff.2 hne
    obtain ⟨m1, m2⟩ := mask_bound i
    obtain ⟨t1, t2⟩ := tmod_in _ l.length m1 hpos
    obtain ⟨at', hat⟩ : ∃ t, Int.tmod (Go.bits .and .i64 i 65535) (l.length : Int) = t := ⟨_, rfl⟩
    rw [hat] at t1 t2 ⊢
    obtain ⟨q, rfl⟩ := Int.eq_ofNat_of_zero_le t1
    obtain ⟨x, hx⟩ := get_some (show q < l.length by omega)
    have hm : x ∈ l := List.mem_of_getElem? hx
    have hxl := ha x hm
    rw [if_neg (by simp), if_neg (by omega), if_pos t1, if_pos t2, t37_at hx]
    have hw : wrap64 ((x.f4.length : Int) + 1) = ((x.f4.length + 1 : Nat) : Int) := by rw [wrap_succ (by omega) (by omega)]; omega
    rw [hw, if_neg (by omega)]
    obtain ⟨n1, n2⟩ := mask_bound n
    obtain ⟨u1, u2⟩ := tmod_in _ (x.f4.length + 1) n1 (by omega)
    obtain ⟨c, hc⟩ : ∃ t, Int.tmod (Go.bits .and .i64 n 65535) ((x.f4.length + 1 : Nat) : Int) = t := ⟨_, rfl⟩
    rw [hc] at u1 u2 ⊢
    rw [if_pos u1, if_pos (by omega), if_pos (by omega)]
    have hrow : rowB x = true := List.all_eq_true.1 hall x hm
    rw [safe_f (l.take (q : Int).toNat) (by rw [List.length_take]; omega) (fun y hy => hf y (List.mem_of_mem_take hy)) (fun y hy => ha y (List.mem_of_mem_take hy)) hk', all_take hall]
    simp only [Option.bind_some, if_true]
    rw [safe_f (l.drop (q : Int).toNat) (by rw [List.length_drop]; omega) (fun y hy => hf y (List.mem_of_mem_drop hy)) (fun y hy => ha y (List.mem_of_mem_drop hy)) hk', all_drop hall]
    simp only [Option.bind_some, if_true]
    rw [safe_f [⟨x.f0, x.f1, x.f2, x.f3, x.f4.take c.toNat⟩] (by simp) (fun y hy => by
      rw [List.mem_singleton] at hy; subst hy
      exact fun z hz => hf x hm z (List.mem_of_mem_take hz)) (fun y hy => by
      rw [List.mem_singleton] at hy; subst hy
      show (x.f4.take _).length ≤ 1000
      rw [List.length_take]; omega) hk']
    simp only [Option.bind_some, List.all_cons, List.all_nil, Bool.and_true]
    rw [row_cut hrow, if_pos rfl, fixed_f (by omega)]
    rfl
theorem parts_l0 (l : List S37) (hl : l.length ≤ 40) (hf : ∀ x ∈ l, Fits x) (ha : ∀ x ∈ l, x.f4.length ≤ 1000) (i n : Int) : ∀ (d j : Nat), j + d = l.length → ∀ k, 1100200 + d ≤ k → boltinglaw10_RiskParts.l0 k l i n ((l.take j).all rowB) (j : Int) = some true := by
  intro d
  induction d with
  | zero =>
    intro j h k hk
    obtain ⟨k, rfl⟩ : ∃ m, k = m + 1 := ⟨k - 1, by omega⟩
    have hk' : 1100100 ≤ k := by omega
    clear hk
    simp only [boltinglaw10_RiskParts.l0]
    rw [if_neg (by omega), List.take_of_length_le (by omega), safe_f l (by omega) hf ha (by omega)]
    simp only [Option.bind_some, bne_self_eq_false, Bool.false_eq_true, if_false]
    by_cases hz : (l.length : Int) = 0
    · rw [if_pos hz]
      obtain ⟨k, rfl⟩ : ∃ m, k = m + 1 := ⟨k - 1, by omega⟩
      simp only [boltinglaw10_RiskParts.j1]
      rw [if_pos trivial, fixed_f (by omega)]; rfl
    · rw [if_neg hz]
      cases hall : l.all rowB with
      | false =>
        obtain ⟨k, rfl⟩ : ∃ m, k = m + 1 := ⟨k - 1, by omega⟩
        simp only [boltinglaw10_RiskParts.j1]
        rw [if_pos (by rfl), fixed_f (by omega)]; rfl
      | true => exact parts_j1 l hl (fun e => hz (by rw [e]; rfl)) hf ha hall i n _ k hk'
  | succ d ih =>
    intro j h k hk
    obtain ⟨k, rfl⟩ : ∃ m, k = m + 1 := ⟨k - 1, by omega⟩
    have hk' : 1100200 + d ≤ k := by omega
    clear hk
    obtain ⟨x, hx⟩ := get_some (show j < l.length by omega)
    have hm : x ∈ l := List.mem_of_getElem? hx
    have hw : wrap64 ((j : Int) + 1) = ((j + 1 : Nat) : Int) := by rw [wrap_succ (by omega) (by omega)]; omega
    have ht : (l.take (j + 1)).all rowB = ((l.take j).all rowB && rowB x) := by
      rw [List.take_add_one, hx, List.all_append]
      simp
    have := ih (j + 1) (by omega) k hk'
    simp only [boltinglaw10_RiskParts.l0]
    rw [if_pos (by omega), hw]
    cases hall : (l.take j).all rowB with
    | true =>
      rw [if_pos rfl, if_pos (by omega), if_pos (by omega), if_pos (by omega)]
      have e : (l.take ((j + 1 : Nat) : Int).toNat).drop (j : Int).toNat = [x] := by
        rw [Int.toNat_natCast, Int.toNat_natCast, List.drop_take, drop_at hx, show j + 1 - j = 1 by omega]
        rfl
      rw [e, safe_f [x] (by simp) (fun y hy => by rw [List.mem_singleton] at hy; subst hy; exact hf _ hm) (fun y hy => by rw [List.mem_singleton] at hy; subst hy; exact ha _ hm) (by omega)]
      simp only [Option.bind_some, List.all_cons, List.all_nil, Bool.and_true]
      rw [ht, hall, Bool.true_and] at this
      exact this
    | false =>
      rw [if_neg (by simp)]
      rw [ht, hall, Bool.false_and] at this
      exact this
theorem RiskParts (l0 : List S37) (a1 a2 : Int)
    (hS : ∀ x ∈ l0, (Lit.int .i64 x.f0).wf = true ∧ (Lit.int .i64 x.f1).wf = true ∧ x.f2.size ≤ 140737488351232 ∧ x.f3.size ≤ 140737488351232 ∧ ∀ y ∈ x.f4, y.f0.size ≤ 140737488351232 ∧ y.f1.size ≤ 140737488351232)
    (hl : l0.length ≤ 9223372036854775807) (w1 : (Lit.int .i64 a1).wf = true) (w2 : (Lit.int .i64 a2).wf = true) : ∃ k, boltinglaw10_RiskParts.f k l0 a1 a2 = some true := by
  obtain ⟨k, hk⟩ : ∃ k, 1100300 ≤ k := ⟨_, Nat.le_refl _⟩
  refine ⟨k, ?_⟩
  unfold boltinglaw10_RiskParts.f
  rw [bound_f l0 hl (by omega)]
  simp only [Option.bind_some]
  have hlen := bnd_len l0
  have := parts_l0 (bnd40 l0) hlen (fun x hx => by
    obtain ⟨y, hy, rfl⟩ := bnd_mem hx
    exact cut8_fits (fun z hz => ((hS y hy).2.2.2.2 z hz).2)) (fun x hx => by
    obtain ⟨y, hy, rfl⟩ := bnd_mem hx
    have := cut8_len y
    omega) a1 a2 (bnd40 l0).length 0 (by omega) k (by omega)
  exact this
end Go.Proofs.Ytejdfmghcgkojaa.Pure
