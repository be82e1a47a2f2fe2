/- RunSafe: safe rows run nothing, and what runs nothing has no script, no handler, nothing to follow. Plain Lean. -/
import Derived.Test.YtakhldahohooiaaRunSafe
import Derived.Test.YtakhldahohooiaaPrx21
namespace Go.Proofs.Ytakhldahohooiaa.Pure
set_option linter.unusedVariables false
set_option linter.unusedSimpArgs false
open Go.RowKit Go.Proofs.Ytakhldahohooiaa.Pr Go.Proofs.YtakhldahohooiaaW.PrintWords Go.Proofs.YtakhldahohooiaaW.PrintLast Go.Proofs.YtakhldahohooiaaW.PrintMore

/-! ### is a row right: it ends -/
theorem row_l1 (ats : List S39) (hl : ats.length ≤ 8) (f0 f1 : Int) (f2 f3 : ByteArray) (i B : Nat) (hi : i < ats.length)
    (hB : ∀ k, B ≤ k → ∃ b, boltingref04_Row.l0 k ((i + 1 : Nat) : Int) f0 f1 f2 f3 ats = some b) (d j : Nat) : j + d = i → ∀ k, B + d + 1 ≤ k → ∃ b, boltingref04_Row.l1 k (i : Int) (j : Int) f0 f1 f2 f3 ats = some b := by
  induction d generalizing j with
  | zero =>
    intro h k hk
    obtain ⟨k, rfl⟩ : ∃ m, k = m + 1 := ⟨k - 1, by omega⟩
    simp only [boltingref04_Row.l1]
    rw [if_neg (by omega), wrap_succ (by omega) (by omega)]
    exact hB k (by omega)
  | succ d ih =>
    intro h k hk
    obtain ⟨k, rfl⟩ : ∃ m, k = m + 1 := ⟨k - 1, by omega⟩
    simp only [boltingref04_Row.l1]
    rw [if_pos (by omega), if_pos (by omega), if_pos (by omega), if_pos (by omega), if_pos (by omega), wrap_succ (by omega) (by omega)]
    split
    · exact ⟨_, rfl⟩
    · exact ih (j + 1) (by omega) k (by omega)
theorem row_l0 (ats : List S39) (hl : ats.length ≤ 8) (f0 f1 : Int) (f2 f3 : ByteArray) (d i : Nat) : i + d = ats.length → ∀ k, d * 12 + 1 ≤ k → ∃ b, boltingref04_Row.l0 k (i : Int) f0 f1 f2 f3 ats = some b := by
  induction d generalizing i with
  | zero =>
    intro h k hk
    obtain ⟨k, rfl⟩ : ∃ m, k = m + 1 := ⟨k - 1, by omega⟩
    simp only [boltingref04_Row.l0]
    rw [if_neg (by omega)]
    split
    · split <;> exact ⟨_, rfl⟩
    · exact ⟨_, rfl⟩
  | succ d ih =>
    intro h k hk
    obtain ⟨k, rfl⟩ : ∃ m, k = m + 1 := ⟨k - 1, by omega⟩
    simp only [boltingref04_Row.l0]
    rw [if_pos (by omega)]
    exact row_l1 ats hl f0 f1 f2 f3 i (d * 12 + 1) (by omega) (fun k hk => ih (i + 1) (by omega) k hk) i 0 (by omega) k (by omega)
theorem row_f (x : S34) (hl : x.f4.length ≤ 8) {k : Nat} (hk : 120 ≤ k) : ∃ b, boltingref04_Row.f k x.f0 x.f1 x.f2 x.f3 x.f4 = some b := by
  obtain ⟨k, rfl⟩ : ∃ m, k = m + 1 := ⟨k - 1, by omega⟩
  have hj : ∀ b, ∃ r, boltingref04_Row.j0 (k + 1) b x.f0 x.f1 x.f2 x.f3 x.f4 = some r := fun b => by
    simp only [boltingref04_Row.j0]
    cases b with
    | true => rw [if_pos rfl]; split <;> exact ⟨_, rfl⟩
    | false => rw [if_neg (by simp)]; exact row_l0 x.f4 hl x.f0 x.f1 x.f2 x.f3 x.f4.length 0 (by omega) k (by omega)
  unfold boltingref04_Row.f
  split
  · exact hj _
  · exact hj _
theorem right_l0 (l : List S34) (hl : l.length ≤ 40) (ha : ∀ x ∈ l, x.f4.length ≤ 8) (d i : Nat) : i + d = l.length → ∀ k, 2 * d + 200 ≤ k → ∃ b, boltingref04_Right.l0 k l (i : Int) = some b := by
  induction d generalizing i with
  | zero =>
    intro h k hk
    obtain ⟨k, rfl⟩ : ∃ m, k = m + 1 := ⟨k - 1, by omega⟩
    simp only [boltingref04_Right.l0]
    rw [if_neg (by omega)]
    exact ⟨_, rfl⟩
  | succ d ih =>
    intro h k hk
    obtain ⟨k, rfl⟩ : ∃ m, k = m + 2 := ⟨k - 2, by omega⟩
    obtain ⟨x, hx⟩ := get_some (show i < l.length by omega)
    have hj : ∀ y b, ∃ r, boltingref04_Right.j1 (k + 1) l (i : Int) y b = some r := fun y b => by
      have := ih (i + 1) (by omega) k (by omega)
      have hw : wrap64 ((i : Int) + 1) = ((i + 1 : Nat) : Int) := by rw [wrap_succ (by omega) (by omega)]; omega
      simp only [boltingref04_Right.j1]
      rw [hw]
      cases b with
      | true => rw [if_pos rfl]; exact ⟨_, rfl⟩
      | false =>
        rw [if_neg (by simp)]
        by_cases h0 : (i : Int) > 0
        · rw [if_pos h0, wrap_id (i := (i : Int) - 1) (by omega) (by omega), if_pos (by omega), if_pos (by omega)]
          split
          · exact ⟨_, rfl⟩
          · split
            · split
              · exact this
              · exact ⟨_, rfl⟩
            · exact this
        · rw [if_neg h0]; exact this
    obtain ⟨b, hb⟩ := row_f x (ha x (List.mem_of_getElem? hx)) (k := k + 1) (by omega)
    simp only [boltingref04_Right.l0]
    rw [if_pos (by omega), if_pos (by omega), t37_at hx, hb]
    simp only [Option.bind_some]
    split
    · split
      · exact hj _ _
      · split
        · exact hj _ _
        · exact hj _ _
    · exact hj _ _
theorem right_f (l : List S34) (hl : l.length ≤ 40) (ha : ∀ x ∈ l, x.f4.length ≤ 8) {k : Nat} (hk : 300 ≤ k) : ∃ b, boltingref04_Right.f k l = some b :=
  right_l0 l hl ha l.length 0 (by omega) k (by omega)

/-! ### where a tree ends -/
theorem end_l0 (l : List S34) (hl : l.length ≤ 1000) (i : Nat) (hi : i < l.length) (d j : Nat) : j + d = l.length → ∀ k, d < k → ∃ t : Nat, rows_End.l0 k l (i : Int) (j : Int) = some (t : Int) ∧ j ≤ t := by
  induction d generalizing j with
  | zero =>
    intro h k hk
    obtain ⟨k, rfl⟩ : ∃ m, k = m + 1 := ⟨k - 1, by omega⟩
    simp only [rows_End.l0]
    rw [if_neg (by omega)]
    exact ⟨j, rfl, Nat.le_refl _⟩
  | succ d ih =>
    intro h k hk
    obtain ⟨k, rfl⟩ : ∃ m, k = m + 1 := ⟨k - 1, by omega⟩
    simp only [rows_End.l0]
    rw [if_pos (by omega), if_pos (by omega), if_pos (by omega), if_pos (by omega), wrap_succ (by omega) (by omega)]
    split
    · obtain ⟨t, h1, h2⟩ := ih (j + 1) (by omega) k (by omega)
      exact ⟨t, h1, by omega⟩
    · exact ⟨j, rfl, Nat.le_refl _⟩
theorem end_f (l : List S34) (hl : l.length ≤ 1000) (i : Nat) (hi : i < l.length) {k : Nat} (hk : 1001 < k) : ∃ t : Nat, rows_End.f k l (i : Int) = some (t : Int) ∧ i < t := by
  unfold rows_End.f rows_is.f
  rw [if_pos (by omega)]
  simp only [Option.bind_some]
  rw [if_pos (by rw [decide_eq_true_eq]; omega), wrap_succ (by omega) (by omega)]
  obtain ⟨t, h1, h2⟩ := end_l0 l hl i hi (l.length - (i + 1)) (i + 1) (by omega) k (by omega)
  exact ⟨t, h1, by omega⟩
/-- Rows none of which is a script: no script runs. -/
theorem scripts_l0 (l : List S34) (hl : l.length ≤ 1000) (hq : ∀ x ∈ l, isS x = false) (d i : Nat) : l.length ≤ i + d → ∀ k, d + 1100 ≤ k → run_Scripts.l0 k l [] (i : Int) = some [] := by
  induction d generalizing i with
  | zero =>
    intro h k hk
    obtain ⟨k, rfl⟩ : ∃ m, k = m + 1 := ⟨k - 1, by omega⟩
    simp only [run_Scripts.l0]
    rw [if_neg (by omega)]
  | succ d ih =>
    intro h k hk
    obtain ⟨k, rfl⟩ : ∃ m, k = m + 1 := ⟨k - 1, by omega⟩
    by_cases hlt : i < l.length
    · obtain ⟨x, hx⟩ := get_some hlt
      have hs : (decide (x.f1 = 0) && decide (x.f2 = (⟨#[115, 99, 114, 105, 112, 116]⟩ : ByteArray))) = false := hq x (List.mem_of_getElem? hx)
      simp only [run_Scripts.l0]
      rw [if_pos (by omega), if_pos (by omega), t37_at hx, is_f x, is_f x, hs]
      simp only [Option.bind_some]
      split
      · obtain ⟨t, h1, h2⟩ := end_f l hl i hlt (k := k) (by omega)
        rw [h1]
        exact ih t (by omega) k (by omega)
      · rw [if_neg (by simp), wrap_succ (by omega) (by omega)]
        exact ih (i + 1) (by omega) k (by omega)
    · simp only [run_Scripts.l0]
      rw [if_neg (by omega)]
theorem scripts_f (l : List S34) (hl : l.length ≤ 1000) (hq : ∀ x ∈ l, isS x = false) {k : Nat} (hk : 2200 ≤ k) : run_Scripts.f k l = some [] :=
  scripts_l0 l hl hq l.length 0 (by omega) k (by omega)

/-! ### handlers -/
theorem value_no (ats : List S39) (hl : ats.length ≤ 1000) (nm : ByteArray) (hn : ∀ y ∈ ats, y.f0 ≠ nm) (d j : Nat) : j + d = ats.length → ∀ k, d < k → run_value.l0 k nm ats (ats.length : Int) (j : Int) = some (⟨#[]⟩, false) := by
  induction d generalizing j with
  | zero =>
    intro h k hk
    obtain ⟨k, rfl⟩ : ∃ m, k = m + 1 := ⟨k - 1, by omega⟩
    simp only [run_value.l0]
    rw [if_neg (by omega)]
  | succ d ih =>
    intro h k hk
    obtain ⟨k, rfl⟩ : ∃ m, k = m + 1 := ⟨k - 1, by omega⟩
    obtain ⟨a, ha⟩ := get_some (show j < ats.length by omega)
    simp only [run_value.l0]
    rw [if_pos (by omega), if_pos (by omega), if_pos (by omega), t30_at ha, wrap_succ (by omega) (by omega), if_neg (by rw [toList_dat, toList_dat]; exact fun e => hn a (List.mem_of_getElem? ha) (dat_inj e))]
    exact ih (j + 1) (by omega) k (by omega)
theorem handlerB_on (e : ByteArray) (h : e.toList ≠ []) : handlerB ((⟨#[111, 110]⟩ : ByteArray) ++ e) = true := by
  have hz : 0 < e.size := by
    rw [toList_dat] at h
    rw [← dat_len]
    exact List.length_pos_iff.2 h
  unfold handlerB
  rw [show ((⟨#[111, 110]⟩ : ByteArray) ++ e).size = 2 + e.size by rw [ByteArray.size_append]; rfl]
  have e1 : Lib.hasPrefix (((⟨#[111, 110]⟩ : ByteArray) ++ e).data.toList) [111, 110] = true := by
    rw [show ((⟨#[111, 110]⟩ : ByteArray) ++ e).data.toList = [111, 110] ++ dat e from dat_app _ _]
    rfl
  rw [e1]
  simp
  omega
theorem handler_quiet (x : S34) (e : ByteArray) (he : e.size ≤ 140737488351232) (hl : x.f4.length ≤ 1000) (hq : quietB x = true) {k : Nat} (hk : 1001 < k) : ∃ s, run_Handler.f k x.f0 x.f1 x.f2 x.f3 x.f4 e = some (s, false) := by
  unfold run_Handler.f
  split
  · exact ⟨_, rfl⟩
  · rename_i hne
    rw [if_pos (by omega)]
    unfold run_value.f
    by_cases h1 : x.f1 = 0
    · rw [if_pos h1]
      unfold quietB at hq
      rw [decide_eq_true h1] at hq
      simp only [Bool.not_true, Bool.false_or, Bool.and_eq_true] at hq
      have := value_no x.f4 hl ((⟨#[111, 110]⟩ : ByteArray) ++ e) (fun y hy e1 => by
        have h2 := List.all_eq_true.1 hq.2 y hy
        rw [e1, handlerB_on e hne] at h2
        cases h2) x.f4.length 0 (by omega) k (by omega)
      rw [show ((0 : Nat) : Int) = 0 from rfl] at this
      rw [this]
      exact ⟨⟨#[]⟩, rfl⟩
    · rw [if_neg h1]; exact ⟨⟨#[]⟩, rfl⟩
theorem quiet_parts {x : S34} (h : quietB x = true) : followB x = false ∧ isS x = false := by
  unfold quietB at h
  simp only [Bool.and_eq_true, Bool.not_eq_true'] at h
  exact h.1
theorem safe_loop (l : List S34) (hl : l.length ≤ 40) (e : ByteArray) (he : e.size ≤ 140737488351232) (hf : ∀ x ∈ l, Fits x) (ha : ∀ x ∈ l, x.f4.length ≤ 8) (hq : ∀ x ∈ l, quietB x = true) (d i : Nat) : i + d = l.length → ∀ k, d + 3000 ≤ k → boltinglaw19_RunSafe.l0 k l e (i : Int) = some true := by
  induction d generalizing i with
  | zero =>
    intro h k hk
    obtain ⟨k, rfl⟩ : ∃ m, k = m + 1 := ⟨k - 1, by omega⟩
    simp only [boltinglaw19_RunSafe.l0]
    rw [if_neg (by omega), scripts_f l (by omega) (fun x hx => (quiet_parts (hq x hx)).2) (by omega)]
    simp only [Option.bind_some]
    rw [if_pos (by simp), fixed_f (by omega)]
    rfl
  | succ d ih =>
    intro h k hk
    obtain ⟨k, rfl⟩ : ∃ m, k = m + 1 := ⟨k - 1, by omega⟩
    obtain ⟨x, hx⟩ := get_some (show i < l.length by omega)
    have hm : x ∈ l := List.mem_of_getElem? hx
    have hlen := ha x hm
    obtain ⟨s1, h1⟩ := handler_quiet x e he (by omega) (hq x hm) (k := k) (by omega)
    obtain ⟨s2, h2⟩ := follow_f x (hf x hm) (by omega) (k := k) (by omega)
    simp only [boltinglaw19_RunSafe.l0]
    rw [if_pos (by omega), if_pos (by omega), t37_at hx, h1, h2, (quiet_parts (hq x hm)).1]
    simp only [Option.bind_some]
    rw [if_neg (by simp), if_neg (by simp), wrap_succ (by omega) (by omega)]
    exact ih (i + 1) (by omega) k (by omega)
theorem RunSafe (l0 : List S34) (a1 : ByteArray)
    (hS : ∀ x ∈ l0, (Lit.int .i64 x.f0).wf = true ∧ (Lit.int .i64 x.f1).wf = true ∧ x.f2.size ≤ 140737488351232 ∧ x.f3.size ≤ 140737488351232 ∧ ∀ y ∈ x.f4, y.f0.size ≤ 140737488351232 ∧ y.f1.size ≤ 140737488351232)
    (hl : l0.length ≤ 9223372036854775807) (w1 : a1.size ≤ 140737488351232) : ∃ k, boltinglaw19_RunSafe.f k l0 a1 = some true := by
  obtain ⟨k, hk⟩ : ∃ k, 1100300 ≤ k := ⟨_, Nat.le_refl _⟩
  refine ⟨k, ?_⟩
  unfold boltinglaw19_RunSafe.f
  rw [bound_f l0 hl (by omega)]
  simp only [Option.bind_some]
  have hlen := bnd_len l0
  have hf : ∀ x ∈ bnd40 l0, Fits x := fun x hx => by
    obtain ⟨y, hy, rfl⟩ := bnd_mem hx
    exact cut8_fits (fun z hz => ((hS y hy).2.2.2.2 z hz).2)
  have hh : ∀ x ∈ bnd40 l0, ∀ y ∈ x.f4, y.f0.size ≤ 4000000000000000000 := fun x hx z hz => by
    obtain ⟨y, hy, rfl⟩ := bnd_mem hx
    have := ((hS y hy).2.2.2.2 z (List.mem_of_mem_take hz)).1
    omega
  have ha : ∀ x ∈ bnd40 l0, x.f4.length ≤ 8 := fun x hx => by
    obtain ⟨y, hy, rfl⟩ := bnd_mem hx
    exact cut8_len y
  obtain ⟨l, hL⟩ : ∃ l, bnd40 l0 = l := ⟨_, rfl⟩
  rw [hL] at hlen hf hh ha ⊢
  have ha' : ∀ x ∈ l, x.f4.length ≤ 1000 := fun x hx => by have := ha x hx; omega
  obtain ⟨b, hb⟩ := right_f l hlen ha (k := k) (by omega)
  have hn : run_Nothing.f k l = some (l.all quietB) := nothing_f l (by omega) hf hh ha' (by omega)
  have hn1 : run_Nothing.f (k - 1) l = some (l.all quietB) := nothing_f l (by omega) hf hh ha' (by omega)
  rw [hb]
  simp only [Option.bind_some]
  cases b with
  | false => rw [if_neg (by simp), fixed_f (by omega)]; rfl
  | true =>
    rw [if_pos rfl, safe_f l (by omega) hf ha' (by omega), hn]
    simp only [Option.bind_some]
    have hj : boltinglaw19_RunSafe.j0 k l a1 false = some true := by
      obtain ⟨m, rfl⟩ : ∃ m, k = m + 1 := ⟨k - 1, by omega⟩
      simp only [boltinglaw19_RunSafe.j0]
      rw [if_neg (by simp), show run_Nothing.f m l = some (l.all quietB) from hn1]
      simp only [Option.bind_some]
      cases hq : l.all quietB with
      | false => rw [if_neg (by simp), fixed_f (by omega)]; rfl
      | true =>
        rw [if_pos rfl]
        exact safe_loop l hlen a1 w1 hf ha (List.all_eq_true.1 hq) l.length 0 (by omega) m (by omega)
    cases hs : l.all rowB with
    | false => rw [if_neg (by simp)]; exact hj
    | true =>
      have hq : l.all quietB = true := List.all_eq_true.2 (fun x hx => safe_quiet (List.all_eq_true.1 hs x hx))
      rw [if_pos rfl, hq]
      exact hj
end Go.Proofs.Ytakhldahohooiaa.Pure
