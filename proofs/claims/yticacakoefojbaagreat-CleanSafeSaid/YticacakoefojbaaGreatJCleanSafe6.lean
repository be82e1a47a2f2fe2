import Derived.Test.YticacakoefojbaaGreatJCleanSafe5
import Derived.Test.YticacakoefojbaaGreatJCleanSafe4
import Derived.Test.YticacakoefojbaaGreatJCleanSafe1
import Derived.Test.YticacakoefojbaaGreatJCleanSafe2
import Derived.Test.YticacakoefojbaaGreatRows
import Derived.WalkKit
import Derived.ProofKit
import Derived.OpenShut
import Derived.ShutString
import Derived.ChangeOld
import Derived.Below
import Derived.SizedLaws
namespace Go.Proofs.YticacakoefojbaaGreat.Pure
set_option linter.unusedVariables false
set_option linter.unusedSimpArgs false
open Go.RowKit Go.Proofs.YticacakoefojbaaGreat.Pr Go.Proofs.YticacakoefojbaaGreat.Fo Go.Proofs.YticacakoefojbaaGreatW.PrintWords Go.Proofs.YticacakoefojbaaGreatW.PrintLast Go.Proofs.YticacakoefojbaaGreatW.PrintMore

structure Tidy (l : List Rw) : Prop where
  len : l.length ≤ 200
  few : ∀ x ∈ l, x.f4.length ≤ 50
  small : ∀ x ∈ l, VS x.f4
  txt : tsz l ≤ 4000000000000000000
structure Good (F : Fo) : Prop where
  leaf : F.Leaf
  fine : F.All Fine
  low : F.height ≤ 60
  few : F.size ≤ 200
  txt : tsz (flat 0 F) ≤ 4000000000000000000
theorem fine_dep (x : Rw) (d : Int) (h : Fine x) : Fine { x with f0 := d } := ⟨h.ok, h.few, h.small⟩
theorem fine_dep' (x : Rw) (d : Int) (h : Fine { x with f0 := d }) : Fine x := ⟨h.ok, h.few, h.small⟩
theorem Good.tidy {F : Fo} (h : Good F) : Tidy (flat 0 F) :=
  ⟨by rw [flat_len]; exact h.few, fun x hx => (flat_all fine_dep F 0 h.fine x hx).few, fun x hx => (flat_all fine_dep F 0 h.fine x hx).small, h.txt⟩
theorem Good.check {F : Fo} (h : Good F) : checkR (flat 0 F) = 0 := by
  have h1 : (flat 0 F).any deepB = false := by
    rw [List.any_eq_false]
    intro x hx
    have := flat_lt F 0 x hx
    have := h.low
    unfold deepB
    rw [decide_eq_true_eq]
    omega
  have h2 : rightB 0 (flat 0 F) = true := (right_iff _ _).2 (right_flat (fun x d g => g) F 0 (Int.le_refl _) h.leaf (all_imp (fun x g => g.ok) h.fine))
  unfold checkR
  rw [h1, h2]
  rfl
theorem check_forest {l : List Rw} (h : Tidy l) (hc : checkR l = 0) : ∃ F, l = flat 0 F ∧ Good F := by
  unfold checkR at hc
  split at hc
  · cases hc
  · rename_i hd
    split at hc
    · rename_i hr
      obtain ⟨F, e, hl, ha⟩ := parse ((right_iff _ _).1 hr)
      have hfine : F.All Fine := all_flat fine_dep' F 0 (fun x hx => by
        rw [← e] at hx
        have hok : rowB x = true := flat_all (P := fun x => rowB x = true) (fun x d g => g) F 0 ha x (by rw [← e]; exact hx)
        exact ⟨hok, h.few x hx, h.small x hx⟩)
      refine ⟨F, e, hl, hfine, ?_, ?_, by rw [← e]; exact h.txt⟩
      · refine height_of F 0 60 (fun x hx => ?_)
        rw [← e] at hx
        have : deepB x = false := by
          have := List.any_eq_false.1 (by simpa using hd) x hx
          simpa using this
        unfold deepB at this
        have := of_decide_eq_false this
        omega
      · have := h.len
        rw [e, flat_len] at this
        exact this
    · cases hc
theorem uniq_filter (p : Atr → Bool) : ∀ (l seen seen' : List Atr), (∀ b ∈ seen', b ∈ seen) → uniq seen l = true → uniq seen' (l.filter p) = true
  | [], _, _, _, _ => rfl
  | a :: t, seen, seen', hs, h => by
    have h' : (seen.all (fun b => !decide (a.f0 = b.f0)) && uniq (seen ++ [a]) t) = true := h
    rw [Bool.and_eq_true] at h'
    rw [List.filter_cons]
    split
    · show (seen'.all (fun b => !decide (a.f0 = b.f0)) && uniq (seen' ++ [a]) (t.filter p)) = true
      rw [Bool.and_eq_true]
      refine ⟨?_, uniq_filter p t _ _ (fun b hb => ?_) h'.2⟩
      · rw [List.all_eq_true] at h' ⊢
        exact fun b hb => h'.1 b (hs b hb)
      · rcases List.mem_append.1 hb with g | g
        · exact List.mem_append_left _ (hs b g)
        · exact List.mem_append_right _ g
    · exact uniq_filter p t _ _ (fun b hb => List.mem_append_left _ (hs b hb)) h'.2
theorem updC_f1 (c : Cf) (s : Bool) (x : Rw) : (updC c s x).f1 = x.f1 := by unfold updC; split <;> rfl
theorem updC_f2 (c : Cf) (s : Bool) (x : Rw) : (updC c s x).f2 = x.f2 := by unfold updC; split <;> rfl
theorem updC_f3 (c : Cf) (s : Bool) (x : Rw) : (updC c s x).f3 = x.f3 := by unfold updC; split <;> rfl
theorem keepA_len (c : Cf) (s : Bool) (n : ByteArray) (l : List Atr) : (keepA c s n l).length ≤ l.length := List.length_filter_le _ _
theorem updC_fine {c : Cf} {s : Bool} {x : Rw} (h : Fine x) : Fine (updC c s x) := by
  unfold updC
  split
  · rename_i h0
    have hne : ¬ (x.f1 = 1 ∨ x.f1 = 2) := by omega
    refine ⟨?_, Nat.le_trans (keepA_len c s x.f2 x.f4) h.few, fun a ha => h.small a (List.mem_filter.1 ha).1⟩
    have hok := h.ok
    rw [rowB_el hne] at hok
    rw [rowB_el (x := { x with f4 := keepA c s x.f2 x.f4 }) hne]
    simp only [Bool.and_eq_true] at hok ⊢
    exact ⟨hok.1, uniq_filter _ _ _ _ (fun b hb => hb) hok.2⟩
  · exact h
theorem tsz_keep (c : Cf) (s : Bool) : ∀ (F : Fo) (d e : Int), tsz (flat d (keepF (whatC c s) (updC c s) F)) ≤ tsz (flat e F)
  | .nil, d, e => Nat.le_refl _
  | .cons x k r, d, e => by
    rw [keepF, flat, tsz, tsz_app]
    split
    · have := tsz_keep c s r d e; omega
    · split
      · rw [flat_app, tsz_app]
        have h1 := tsz_keep c s k d (e + 1)
        have h2 := tsz_keep c s r d e
        omega
      · rw [flat, tsz, tsz_app]
        have h1 := tsz_keep c s k (d + 1) (e + 1)
        have h2 := tsz_keep c s r d e
        have h3 : (updC c s x).f3.size = x.f3.size := by rw [updC_f3]
        show (updC c s x).f3.size + _ ≤ x.f3.size + _
        omega
theorem Good.keep {F : Fo} (h : Good F) (c : Cf) (s : Bool) : Good (keepF (whatC c s) (updC c s) F) :=
  ⟨keep_leaf (updC_f1 c s) h.leaf, keep_all (fun x g _ _ => updC_fine g) h.fine, Nat.le_trans (keep_height _ _ F) h.low, Nat.le_trans (keep_size _ _ F) h.few, Nat.le_trans (tsz_keep c s F 0 0) h.txt⟩
theorem tsz_fold : ∀ (l out : List Rw), tsz (l.foldl nstep out) ≤ tsz out + tsz l
  | [], out => by simp [tsz]
  | x :: t, out => by
    have h1 := tsz_fold t (nstep out x)
    have h2 := nstep_tsz out x
    rw [List.foldl_cons, tsz]
    omega
theorem tsz_norm (l : List Rw) : tsz (normL l) ≤ tsz l := by
  have := tsz_fold l []
  rw [fold_norm'] at this
  simpa [tsz] using this
theorem Good.norm {F : Fo} (h : Good F) : Good (normF F) := by
  refine ⟨norm_leaf F h.leaf, norm_all (fun x b g h1 => ?_) h.fine, Nat.le_trans (norm_height F) h.low, Nat.le_trans (norm_size F) h.few, ?_⟩
  · refine ⟨?_, g.few, g.small⟩
    have hok := g.ok
    rw [rowB_text (.inl h1)] at hok
    rw [rowB_text (x := { x with f3 := b }) (.inl h1)]
    exact hok
  · rw [← normL_flat F 0 h.leaf]
    exact Nat.le_trans (tsz_norm _) h.txt
theorem Good.app {A B : Fo} (h : Good A) (g : Good B) (hs : A.size + B.size ≤ 200) (ht : tsz (flat 0 A) + tsz (flat 0 B) ≤ 4000000000000000000) : Good (A.app B) :=
  ⟨leaf_app h.leaf g.leaf, all_app h.fine g.fine, by rw [height_app]; have := h.low; have := g.low; omega, by rw [size_app]; exact hs, by rw [flat_app, tsz_app]; exact ht⟩
theorem okx_flat {F : Fo} (h : F.All Fine) (hs : F.height ≤ 200) : ∀ x ∈ flat 0 F, Okx x := fun x hx => by
  have h1 := flat_ge F 0 x hx
  have h2 := flat_lt F 0 x hx
  exact ⟨wrap_id (by omega) (by omega), (flat_all fine_dep F 0 h x hx).few⟩
theorem check_kk {c : Cf} (hf : Fit c) (ht : Text c) : config_Check.f c.al c.aal c.els c.rep c.ats c.per c.com c.dt = some (checkI c) := if_pos ⟨of_fit hf, of_text ht⟩
abbrev cleaned (c : Cf) (s : Bool) (F : Fo) : Fo := normF (keepF (whatC c s) (updC c s) F)
theorem Good.cleaned {F : Fo} (h : Good F) (c : Cf) (s : Bool) : Good (cleaned c s F) := (h.keep c s).norm
theorem rows_good {c : Cf} (hf : Fit c) (ht : Text c) (hc : checkI c = 0) (s : Bool) {F : Fo} (h : Good F) {k : Nat} (hk : 8000 < k) :
    clean_Rows.f k (flat 0 F) c.al c.aal c.els c.rep c.ats c.per c.com c.dt s = some (flat 0 (cleaned c s F), 0) := by
  have htd := h.tidy
  have hlow := h.low
  have hfew := h.few
  unfold clean_Rows.f
  rw [check_kk hf ht, Option.bind_some, if_pos hc, rows_check_f _ htd.len htd.few (by omega), Option.bind_some, if_pos h.check]
  obtain ⟨k', less', a1, _, _, _, _, a6⟩ := walk hf s (flat 0 F) htd.len F 0 [] [] 0 [] k h.leaf h.fine (by simp) (fun y hy => by cases hy) (Nat.zero_le _) (fun j u hj => by cases hj) (by simp) (by omega) (by simp) (Nat.zero_le _) (by omega)
  rw [show ((0 : Nat) : Int) = 0 from rfl] at a6
  rw [a6, show (0 : Int) - up [] 0 = 0 from rfl, List.nil_append]
  obtain ⟨k', rfl⟩ : ∃ q, k' = q + 1 := ⟨k' - 1, by omega⟩
  have hg := h.keep c s
  have hgt := hg.tidy
  simp only [clean_Rows.l0]
  rw [if_neg (by rw [flat_len]; omega), normal_f _ hgt.len (okx_flat hg.fine (by have := hg.low; omega)) hgt.txt (by omega), Option.bind_some, normL_flat _ _ hg.leaf]
def whyR (c : Cf) (l : List Rw) : Int := if checkI c = 0 then checkR l else checkI c
theorem rows_why {c : Cf} (hf : Fit c) (ht : Text c) (s : Bool) {l : List Rw} (h : Tidy l) (hw : whyR c l ≠ 0) {k : Nat} (hk : 8000 < k) :
    clean_Rows.f k l c.al c.aal c.els c.rep c.ats c.per c.com c.dt s = some ([], whyR c l) := by
  unfold whyR at hw ⊢
  unfold clean_Rows.f
  rw [check_kk hf ht, Option.bind_some]
  by_cases hc : checkI c = 0
  · rw [if_pos hc] at hw ⊢
    rw [if_pos hc, rows_check_f _ h.len h.few (by omega), Option.bind_some, if_neg hw]
  · rw [if_neg hc, if_neg hc]
theorem why_zero {c : Cf} {l : List Rw} (h : whyR c l = 0) : checkI c = 0 ∧ checkR l = 0 := by
  unfold whyR at h
  by_cases hc : checkI c = 0
  · rw [if_pos hc] at h; exact ⟨hc, h⟩
  · rw [if_neg hc] at h; exact absurd h hc

theorem attrs_same_l0 (l : List Atr) (hl : l.length ≤ 50) : ∀ (d i : Nat), i + d = l.length → ∀ k, d < k → boltingref04_Attrs.l0 k l l (i : Int) = some true
  | 0, i, h, k, hk => by
    obtain ⟨k, rfl⟩ : ∃ q, k = q + 1 := ⟨k - 1, by omega⟩
    simp only [boltingref04_Attrs.l0]
    rw [if_neg (by omega)]
  | d + 1, i, h, k, hk => by
    obtain ⟨k, rfl⟩ : ∃ q, k = q + 1 := ⟨k - 1, by omega⟩
    simp only [boltingref04_Attrs.l0]
    rw [if_pos (by omega), if_pos (by omega), if_pos (by omega), if_neg (by simp), wrap_succ (by omega) (by omega)]
    exact attrs_same_l0 l hl d (i + 1) (by omega) k (by omega)
theorem attrs_same (l : List Atr) (hl : l.length ≤ 50) {k : Nat} (hk : 60 < k) : boltingref04_Attrs.f k l l = some true := by
  unfold boltingref04_Attrs.f
  rw [if_pos rfl]
  exact attrs_same_l0 l hl l.length 0 (by omega) k (by omega)
theorem same_rows_l0 (l : List Rw) (hl : l.length ≤ 200) (hx : ∀ x ∈ l, x.f4.length ≤ 50) : ∀ (d i : Nat), i + d = l.length → ∀ k, 2 * d + 100 < k → boltingref04_Same.l0 k l l (i : Int) = some true
  | 0, i, h, k, hk => by
    obtain ⟨k, rfl⟩ : ∃ q, k = q + 1 := ⟨k - 1, by omega⟩
    simp only [boltingref04_Same.l0]
    rw [if_neg (by omega)]
  | d + 1, i, h, k, hk => by
    obtain ⟨k, rfl⟩ : ∃ q, k = q + 2 := ⟨k - 2, by omega⟩
    obtain ⟨x, h0⟩ := get_some (l := l) (show i < l.length by omega)
    simp only [boltingref04_Same.l0]
    rw [if_pos (by omega), if_pos (by omega), if_pos (by omega), rdR_at h0, if_pos trivial, if_pos trivial, if_pos trivial, if_pos trivial, attrs_same _ (hx x (List.mem_of_getElem? h0)) (by omega), Option.bind_some]
    simp only [boltingref04_Same.j1]
    rw [if_neg (by simp), wrap_succ (by omega) (by omega)]
    exact same_rows_l0 l hl hx d (i + 1) (by omega) k (by omega)
theorem same_rows (l : List Rw) (hl : l.length ≤ 200) (hx : ∀ x ∈ l, x.f4.length ≤ 50) {k : Nat} (hk : 600 < k) : boltingref04_Same.f k l l = some true := by
  unfold boltingref04_Same.f
  rw [if_pos rfl]
  exact same_rows_l0 l hl hx l.length 0 (by omega) k (by omega)

def safeX (x : Rw) : Bool := !decide (x.f1 = 0) || (!neverB x.f2 && x.f4.all fun a => !riskB x.f2 a.f0 a.f1)
theorem safe_l1 (l : List Rw) (i : Nat) (hi : i ≤ 200) (x : Rw) (hx : x.f4.length ≤ 50) (hv : VS x.f4) : ∀ (d j : Nat), j + d = x.f4.length → ∀ m k, k = m + d + 1 →
    risk_Safe.l1 k l (l.length : Int) (i : Int) x.f4 (x.f4.length : Int) (j : Int) x.f0 x.f1 x.f2 x.f3 x.f4 = if ((x.f4.drop j).all fun a => !riskB x.f2 a.f0 a.f1) = true then risk_Safe.l0 m l (l.length : Int) ((i : Int) + 1) else some false
  | 0, j, h, m, k, hk => by
    obtain rfl : k = m + 1 := hk
    simp only [risk_Safe.l1]
    rw [if_neg (by omega), List.drop_of_length_le (by omega), wrap_succ (by omega) (by omega)]; rfl
  | d + 1, j, h, m, k, hk => by
    obtain ⟨k, rfl⟩ : ∃ q, k = q + 1 := ⟨k - 1, by omega⟩
    obtain ⟨a, h0⟩ := get_some (l := x.f4) (show j < x.f4.length by omega)
    simp only [risk_Safe.l1]
    rw [if_pos (by omega), if_pos (by omega), if_pos (by omega), rdA_at h0, risk_f _ _ _ (hv a (List.mem_of_getElem? h0)), Option.bind_some, drop_at h0, List.all_cons, wrap_succ (by omega) (by omega)]
    cases riskB x.f2 a.f0 a.f1 with
    | true => rw [if_pos rfl]; rfl
    | false => rw [if_neg (by simp)]; exact safe_l1 l i hi x hx hv d (j + 1) (by omega) m k (by omega)
theorem safe_l0 (l : List Rw) (hl : Tidy l) : ∀ (d i : Nat), i + d = l.length → ∀ k, d * 60 < k → risk_Safe.l0 k l (l.length : Int) (i : Int) = some ((l.drop i).all safeX)
  | 0, i, h, k, hk => by
    obtain ⟨k, rfl⟩ : ∃ q, k = q + 1 := ⟨k - 1, by omega⟩
    simp only [risk_Safe.l0]
    rw [if_neg (by omega), List.drop_of_length_le (by omega)]; rfl
  | d + 1, i, h, k, hk => by
    obtain ⟨k, rfl⟩ : ∃ q, k = q + 1 := ⟨k - 1, by omega⟩
    obtain ⟨x, h0⟩ := get_some (l := l) (show i < l.length by omega)
    have hm := List.mem_of_getElem? h0
    have hk2 : (d + 1) * 60 = d * 60 + 60 := Nat.succ_mul _ _
    have hlen := hl.len
    have hfx := hl.few x hm
    simp only [risk_Safe.l0]
    rw [if_pos (by omega), if_pos (by omega), if_pos (by omega), rdR_at h0, drop_at h0, List.all_cons]
    unfold safeX
    by_cases h1 : x.f1 = 0
    · rw [if_pos h1, never_f, Option.bind_some, decide_eq_true h1]
      cases neverB x.f2 with
      | true => rw [if_pos rfl]; rfl
      | false =>
        rw [if_neg (by simp)]
        have := safe_l1 l i (by omega) x hfx (hl.small x hm) x.f4.length 0 (by omega) (k - x.f4.length - 1) k (by omega)
        rw [show ((0 : Nat) : Int) = 0 from rfl, List.drop_zero] at this
        rw [this]
        have ih := safe_l0 l hl d (i + 1) (by omega) (k - x.f4.length - 1) (by omega)
        rw [show ((i + 1 : Nat) : Int) = (i : Int) + 1 from rfl] at ih
        rw [ih]
        cases x.f4.all fun a => !riskB x.f2 a.f0 a.f1 with
        | true => rw [if_pos rfl]; rfl
        | false => rw [if_neg (by simp)]; rfl
    · rw [if_neg h1, decide_eq_false h1, wrap_succ (by omega) (by omega)]
      exact safe_l0 l hl d (i + 1) (by omega) k (by omega)
theorem safe_f (l : List Rw) (hl : Tidy l) {k : Nat} (hk : 13000 < k) : risk_Safe.f k l = some (l.all safeX) := by
  have hlen := hl.len
  have := safe_l0 l hl l.length 0 (by omega) k (by omega)
  exact this

def bndR (l : List Rw) : List Rw := (l.take 40).map fun x => { x with f4 := x.f4.take 8 }
theorem mn8 (n : Nat) : 0 ≤ mn (n : Int) 8 ∧ mn (n : Int) 8 ≤ (n : Int) ∧ (mn (n : Int) 8).toNat = min n 8 := by
  unfold mn; split <;> omega
theorem take_mn8 {α : Type} (l : List α) : l.take (mn (l.length : Int) 8).toNat = l.take 8 := by
  rw [(mn8 _).2.2]
  rcases Nat.le_total l.length 8 with h | h
  · rw [Nat.min_eq_left h, List.take_length, List.take_of_length_le h]
  · rw [Nat.min_eq_right h]
theorem bndr_l0 (l : List Rw) : ∀ (d i : Nat) (acc : List Rw), i + d = min l.length 40 → acc.length = i → ∀ k, d < k →
    boltinglaw13_bound.l0 k l acc (i : Int) = some (acc ++ ((l.drop i).take d).map fun x => { x with f4 := x.f4.take 8 })
  | 0, i, acc, h, ha, k, hk => by
    obtain ⟨k, rfl⟩ : ∃ q, k = q + 1 := ⟨k - 1, by omega⟩
    simp only [boltinglaw13_bound.l0]
    rw [List.take_zero, List.map_nil, List.append_nil]
    by_cases h1 : (i : Int) < (l.length : Int)
    · rw [if_pos h1, if_neg (by omega)]
    · rw [if_neg h1]
  | d + 1, i, acc, h, ha, k, hk => by
    obtain ⟨k, rfl⟩ : ∃ q, k = q + 1 := ⟨k - 1, by omega⟩
    obtain ⟨x, h0⟩ := get_some (l := l) (show i < l.length by omega)
    simp only [boltinglaw13_bound.l0]
    rw [if_pos (by omega), if_pos (by omega), if_pos (by omega), rdR_at h0, if_pos (mn8 _).1, if_pos (mn8 _).2.1, if_pos (by omega), take_mn8, wrap_succ (by omega) (by omega), drop_at h0, List.take_succ_cons, List.map_cons]
    have := bndr_l0 l d (i + 1) (acc ++ [{ x with f4 := x.f4.take 8 }]) (by omega) (by simp [ha]) k (by omega)
    rw [List.append_assoc] at this
    exact this
theorem bndr_f (l : List Rw) {k : Nat} (hk : 50 < k) : boltinglaw13_bound.f k l = some (bndR l) := by
  have := bndr_l0 l (min l.length 40) 0 [] (by omega) rfl k (by omega)
  unfold boltinglaw13_bound.f bndR
  rw [show ((0 : Nat) : Int) = 0 from rfl] at this
  rw [this, List.nil_append, List.drop_zero]
  congr 2
  rcases Nat.le_total l.length 40 with h | h
  · rw [Nat.min_eq_left h, List.take_length, List.take_of_length_le h]
  · rw [Nat.min_eq_right h]
def SizedR (l : List Rw) : Prop := ∀ x ∈ l, x.f3.size ≤ 140737488351232 ∧ VS x.f4
theorem tsz_le {M : Nat} : ∀ l : List Rw, (∀ x ∈ l, x.f3.size ≤ M) → tsz l ≤ l.length * M
  | [], _ => Nat.zero_le _
  | x :: t, h => by
    have h1 := tsz_le t (fun y hy => h y (List.mem_cons_of_mem _ hy))
    have h2 := h x (List.mem_cons_self ..)
    rw [tsz, List.length_cons, Nat.succ_mul]
    omega
theorem bndr_len (l : List Rw) : (bndR l).length ≤ 40 := by unfold bndR; rw [List.length_map]; exact List.length_take_le _ _
theorem bndr_mem {l : List Rw} {x : Rw} (h : x ∈ bndR l) : ∃ y ∈ l, x = { y with f4 := y.f4.take 8 } := by
  obtain ⟨y, hy, e⟩ := List.mem_map.1 h
  exact ⟨y, List.mem_of_mem_take hy, e.symm⟩
theorem bndr_tsz {l : List Rw} (h : SizedR l) : tsz (bndR l) ≤ 5629499534049280 := by
  have h1 := tsz_le (M := 140737488351232) (bndR l) (fun x hx => by
    obtain ⟨y, hy, rfl⟩ := bndr_mem hx
    exact (h y hy).1)
  have h2 := bndr_len l
  have h3 : (bndR l).length * 140737488351232 ≤ 40 * 140737488351232 := Nat.mul_le_mul_right _ h2
  omega
theorem bndr_tidy {l : List Rw} (h : SizedR l) : Tidy (bndR l) := by
  refine ⟨Nat.le_trans (bndr_len l) (by omega), fun x hx => ?_, fun x hx => ?_, Nat.le_trans (bndr_tsz h) (by omega)⟩
  · obtain ⟨y, hy, rfl⟩ := bndr_mem hx
    exact Nat.le_trans (List.length_take_le _ _) (by omega)
  · obtain ⟨y, hy, rfl⟩ := bndr_mem hx
    exact fun a ha => (h y hy).2 a (List.mem_of_mem_take ha)
end Go.Proofs.YticacakoefojbaaGreat.Pure
namespace Go.Proofs.YticacakoefojbaaGreat.Pr
open Go.RowKit Go.Proofs.YticacakoefojbaaGreatW.PrintWords Go.Proofs.YticacakoefojbaaGreatW.PrintLast Go.Proofs.YticacakoefojbaaGreatW.PrintMore
attribute [local go_sem] max2_int min2_int max_two min_two max_three min_three max_four min_four   -- for this text's walks alone
set_option linter.unusedVariables false
set_option linter.unusedSimpArgs false

attribute [local go_sem high] eqA45
mutual
def boltinglaw13_among.l0 : Nat → List (S45) → List (S45) → Int → Int → Option (Bool)
 | 0, _, _, _, _ => none
 | k + 1, x0, x1, x5, x6 => if x6 < (x1.length : Int) then (boltinglaw13_among.j1 k x0 x1 x5 x6 (decide (x5 < (x0.length : Int)))) else (boltinglaw13_among.j1 k x0 x1 x5 x6 false)
def boltinglaw13_among.j1 : Nat → List (S45) → List (S45) → Int → Int → Bool → Option (Bool)
 | 0, _, _, _, _, _ => none
 | k + 1, x0, x1, x5, x6, x16 => if x16 = true then (if 0 ≤ x5 then (if x5 < (x0.length : Int) then (if 0 ≤ x6 then (if x6 < (x1.length : Int) then (if ((((rd_T45 x0 x5).f0).toList) == (((rd_T45 x1 x6).f0).toList) && ((((rd_T45 x0 x5).f1).toList) == (((rd_T45 x1 x6).f1).toList))) = true then (boltinglaw13_among.l0 k x0 x1 (wrap64 (x5 + 1)) (wrap64 (x6 + 1))) else (boltinglaw13_among.l0 k x0 x1 x5 (wrap64 (x6 + 1)))) else (none)) else (none)) else (none)) else (none)) else (some (x5 == (x0.length : Int)))
end
def boltinglaw13_among.f (k : Nat) (l0 : List (S45)) (l1 : List (S45)) : Option (Bool) := boltinglaw13_among.l0 k l0 l1 0 0
end Go.Proofs.YticacakoefojbaaGreat.Pr
namespace Go.Proofs.YticacakoefojbaaGreat.Pure
set_option linter.unusedVariables false
set_option linter.unusedSimpArgs false
open Go.RowKit Go.Proofs.YticacakoefojbaaGreat.Pr Go.Proofs.YticacakoefojbaaGreat.Fo Go.Proofs.YticacakoefojbaaGreatW.PrintWords Go.Proofs.YticacakoefojbaaGreatW.PrintLast Go.Proofs.YticacakoefojbaaGreatW.PrintMore

def RowIn (x : Rw) : Prop := (Lit.int .i64 x.f0).wf = true ∧ (Lit.int .i64 x.f1).wf = true ∧ x.f2.size ≤ 140737488351232 ∧ x.f3.size ≤ 140737488351232 ∧ ∀ y ∈ x.f4, y.f0.size ≤ 140737488351232 ∧ y.f1.size ≤ 140737488351232
theorem sized_of {l : List Rw} (h : ∀ x ∈ l, RowIn x) : SizedR l := fun x hx => ⟨(h x hx).2.2.2.1, fun a ha => ((h x hx).2.2.2.2 a ha).2⟩
theorem bound_text {c : Cf} (h : Sized c) : Text (bound c) := by
  have hs : ∀ {l : List ByteArray}, (∀ x ∈ l, Short x) → ∀ x ∈ l.take 70, x.size ≤ 4000000000000000000 := fun hl x hx => by
    have : x.size ≤ 140737488351232 := hl x (List.mem_of_mem_take hx)
    omega
  refine ⟨fun l hl x hx => ?_, fun l hl x hx => ?_⟩
  · unfold rowsE at hl
    simp only [List.mem_cons, List.not_mem_nil, or_false] at hl
    rcases hl with rfl | rfl | rfl
    · exact hs h.els x hx
    · exact hs h.rep x hx
    · unfold namesOf at hx
      obtain ⟨p, hp, rfl⟩ := List.mem_map.1 hx
      obtain ⟨q, hq, rfl⟩ := List.mem_map.1 (show p ∈ (c.per.take 12).map cutP from hp)
      have : q.f0.size ≤ 140737488351232 := (h.per q (List.mem_of_mem_take hq)).1
      show q.f0.size ≤ _
      omega
  · unfold rowsA at hl
    rcases List.mem_cons.1 hl with rfl | hl
    · exact hs h.ats x hx
    · obtain ⟨p, hp, rfl⟩ := List.mem_map.1 hl
      obtain ⟨q, hq, rfl⟩ := List.mem_map.1 (show p ∈ (c.per.take 12).map cutP from hp)
      exact hs (h.per q (List.mem_of_mem_take hq)).2 x hx
theorem stays (c : Cf) (s : Bool) : TextStays (whatC c s) (updC c s) := fun x h => by
  have h1 : whatC c s x = 0 := by unfold whatC; rw [if_pos h]
  refine ⟨by rw [h1]; decide, by rw [h1]; decide, ?_⟩
  unfold updC
  rw [if_neg (by rw [h]; decide)]
theorem what_upd (c c' : Cf) (s s' : Bool) (x : Rw) : whatC c s (updC c' s' x) = whatC c s x := by
  unfold whatC
  rw [updC_f1, updC_f2]
theorem keepA_keepA (c c' : Cf) (s s' : Bool) (n : ByteArray) (l : List Atr) : keepA c s n (keepA c' s' n l) = l.filter fun a => (attrB c n a.f0 && !(s && riskB n a.f0 a.f1)) && (attrB c' n a.f0 && !(s' && riskB n a.f0 a.f1)) := by
  unfold keepA
  rw [List.filter_filter]
theorem upd_upd {c c' c3 : Cf} {s s' s3 : Bool} (h : ∀ n (a : Atr), ((attrB c n a.f0 && !(s && riskB n a.f0 a.f1)) && (attrB c' n a.f0 && !(s' && riskB n a.f0 a.f1))) = (attrB c3 n a.f0 && !(s3 && riskB n a.f0 a.f1))) (x : Rw) :
    updC c s (updC c' s' x) = updC c3 s3 x := by
  by_cases h0 : x.f1 = 0
  · have e1 : updC c' s' x = { x with f4 := keepA c' s' x.f2 x.f4 } := by unfold updC; rw [if_pos h0]
    have e2 : updC c3 s3 x = { x with f4 := keepA c3 s3 x.f2 x.f4 } := by unfold updC; rw [if_pos h0]
    rw [e1, e2]
    unfold updC
    rw [if_pos (show ({ x with f4 := keepA c' s' x.f2 x.f4 } : Rw).f1 = 0 from h0)]
    show ({ x with f4 := keepA c s x.f2 (keepA c' s' x.f2 x.f4) } : Rw) = _
    rw [keepA_keepA]
    congr 1
    unfold keepA
    exact List.filter_congr (fun a _ => h x.f2 a)
  · have e1 : updC c' s' x = x := by unfold updC; rw [if_neg h0]
    have e2 : updC c3 s3 x = x := by unfold updC; rw [if_neg h0]
    rw [e1, e2]
    unfold updC
    rw [if_neg h0]
theorem keep_again (c : Cf) (s : Bool) (F : Fo) : keepF (whatC c s) (updC c s) (keepF (whatC c s) (updC c s) F) = keepF (whatC c s) (updC c s) F := by
  refine keep_keep (P := fun _ => True) (fun x _ h => h) (fun x _ h => h) (fun x _ a b h => ?_) (fun x _ a b h g => ?_) (fun x _ a b h g => ⟨a, b, ?_⟩) (F := F) ?_
  · rw [what_upd] at h; exact h
  · rw [what_upd] at g; exact g
  · exact upd_upd (fun n y => by cases attrB c n y.f0 <;> cases s <;> cases riskB n y.f0 y.f1 <;> rfl) x
  · exact all_true F
where all_true : ∀ F : Fo, F.All fun _ => True
  | .nil => trivial
  | .cons x k r => ⟨trivial, all_true k, all_true r⟩
theorem cleaned_again (c : Cf) (s : Bool) (F : Fo) : cleaned c s (cleaned c s F) = cleaned c s F := by
  unfold cleaned
  rw [norm_keep_norm (stays c s), keep_again]
theorem kept_safe (c : Cf) : ∀ F : Fo, (keepF (whatC c true) (updC c true) F).All fun x => safeX x = true := by
  intro F
  refine keep_all (P := fun _ => True) (fun x _ a b => ?_) (keep_again.all_true F)
  unfold safeX
  by_cases h0 : x.f1 = 0
  · have hn : neverB x.f2 = false := by
      cases hh : neverB x.f2 with
      | false => rfl
      | true =>
        exfalso
        apply a
        unfold whatC
        rw [if_neg (by rw [h0]; decide), if_neg (by rw [h0]; decide), if_pos (by rw [hh]; rfl)]
    rw [updC_f2, hn]
    have e : updC c true x = { x with f4 := keepA c true x.f2 x.f4 } := by unfold updC; rw [if_pos h0]
    rw [e]
    show (!decide (x.f1 = 0) || (!false && (keepA c true x.f2 x.f4).all fun a => !riskB x.f2 a.f0 a.f1)) = true
    have : ((keepA c true x.f2 x.f4).all fun a => !riskB x.f2 a.f0 a.f1) = true := by
      rw [List.all_eq_true]
      intro y hy
      have := (List.mem_filter.1 hy).2
      rw [Bool.and_eq_true] at this
      simpa using this.2
    rw [this]
    simp
  · rw [updC_f1, decide_eq_false h0]; rfl
theorem safe_norm {F : Fo} (h : F.All fun x => safeX x = true) : (normF F).All fun x => safeX x = true :=
  norm_all (fun x b g h1 => by unfold safeX; rw [show (({ x with f3 := b } : Rw)).f1 = 1 from h1]; rfl) h
theorem safe_flat {F : Fo} (h : F.All fun x => safeX x = true) : (flat 0 F).all safeX = true := by
  rw [List.all_eq_true]
  exact flat_all (fun x d g => g) F 0 h
end Go.Proofs.YticacakoefojbaaGreat.Pure
namespace Go.Proofs.YticacakoefojbaaGreat
set_option linter.unusedVariables false
set_option linter.unusedSimpArgs false
open Go.RowKit Go.Proofs.YticacakoefojbaaGreat.Pr Go.Proofs.YticacakoefojbaaGreat.Pure Go.Proofs.YticacakoefojbaaGreat.Fo Go.Proofs.YticacakoefojbaaGreatW.PrintWords Go.Proofs.YticacakoefojbaaGreatW.PrintLast
theorem Pure.CleanSafe (l0 : List Rw) (c : Cf) (s : Bool) (hS : ∀ x ∈ l0, RowIn x) (hl : l0.length ≤ 9223372036854775807) (hz : Sized c) :
    ∃ k, boltinglaw13_CleanSafe.f k l0 c.al c.aal c.els c.rep c.ats c.per c.com c.dt s = some true := by
  obtain ⟨k, hk⟩ : ∃ k, 20000 ≤ k := ⟨_, Nat.le_refl _⟩
  refine ⟨k, ?_⟩
  have hT := bndr_tidy (sized_of hS)
  have hlen := bndr_len l0
  unfold boltinglaw13_CleanSafe.f
  rw [bndr_f l0 (by omega), Option.bind_some, bound_f c (by omega), Option.bind_some]
  have hf := bound_fit c
  have ht := bound_text hz
  obtain ⟨l, hL⟩ : ∃ l, bndR l0 = l := ⟨_, rfl⟩
  rw [hL] at hT hlen ⊢
  by_cases hw : whyR (bound c) l = 0
  · obtain ⟨hc, hr⟩ := why_zero hw
    obtain ⟨F, rfl, hG⟩ := check_forest hT hr
    have h1 := rows_good hf ht hc s hG (k := k) (by omega)
    have h2 := rows_good hf ht hc s (hG.cleaned (bound c) s) (k := k) (by omega)
    rw [cleaned_again] at h2
    have hg := hG.cleaned (bound c) s
    have htd := hg.tidy
    have hle : (flat 0 (cleaned (bound c) s F)).length ≤ (flat 0 F).length := by
      rw [flat_len, flat_len]
      exact Nat.le_trans (norm_size _) (keep_size _ _ F)
    have hsafe : s = true → (flat 0 (cleaned (bound c) s F)).all safeX = true := fun e => by
      subst e
      exact safe_flat (safe_norm (kept_safe (bound c) F))
    rw [show clean_Rows.f k (flat 0 F) c.al c.aal (bound c).els (bound c).rep (bound c).ats (bound c).per c.com c.dt s = some (flat 0 (cleaned (bound c) s F), 0) from h1]
    simp only [Option.bind_some]
    rw [if_pos trivial, show clean_Rows.f k (flat 0 (cleaned (bound c) s F)) c.al c.aal (bound c).els (bound c).rep (bound c).ats (bound c).per c.com c.dt s = some (flat 0 (cleaned (bound c) s F), 0) from h2]
    simp only [Option.bind_some]
    rw [if_pos trivial, same_rows _ htd.len htd.few (by omega), safe_f _ htd (by omega), rrows_check_f _ htd.len htd.few (by omega), hg.check]
    simp only [Option.bind_some]
    have hle' : ((flat 0 (cleaned (bound c) s F)).length : Int) ≤ ((flat 0 F).length : Int) := Int.ofNat_le.2 hle
    cases s with
    | true => rw [hsafe rfl]; simp [hle', boltinglaw13_fixed.f]
    | false => simp [hle', boltinglaw13_fixed.f]
  · have h1 := rows_why hf ht s hT hw (k := k) (by omega)
    rw [show clean_Rows.f k l c.al c.aal (bound c).els (bound c).rep (bound c).ats (bound c).per c.com c.dt s = some ([], whyR (bound c) l) from h1]
    simp only [Option.bind_some]
    rw [if_neg hw]
    rfl
end Go.Proofs.YticacakoefojbaaGreat
namespace Go.Proofs.YticacakoefojbaaGreat.cleanSafe
open Go.ChangeShapes Go.WideShapes Go.ChangeAt Go.RowKit
open Go.ChangeMaps (open_string shut_string)
set_option linter.unusedVariables false
set_option linter.unusedSimpArgs false
theorem own : ownKnob Tryz.prog.godebug = none := by kernel_rfl
theorem laidOut : laidOutB Tryz.prog = true := by kernel_rfl
set_option maxRecDepth 100000 in
theorem lifted (os : Os) (started : os.Started) (H : Type) (enc : TypeId × Value → H) :
    ReturnsInHanded {} Tryz.checked os 9 .any (Rows.cleanSafeSpec.pre6 enc Tryz.prog Tryz.f9 Rows.cleanSafeRow.domain false) (Rows.cleanSafeSpec.post enc Tryz.prog Tryz.f9 false true false false) := by
  refine returnsInHanded_of_change_sized (C := Tryz.checked) own started (by kernel_rfl) Tryz.func9
    (ChangeSpec.witness6 (enc := enc) (C := Tryz.checked) false ⟨#[], #[.slice none 0 0, .agg #[.bool false, .bool false, .slice none 0 0, .slice none 0 0, .slice none 0 0, .slice none 0 0, .bool false, .bool false], .bool false], []⟩ 8 (by kernel_rfl) (by kernel_rfl) (by kernel_rfl) (by kernel_rfl)) ?_
  intro W base args ds gs before hval0 hW hcnd hsz0 _
  have hsz : (DataW.weightsEach Tryz.prog (Tryz.f9.params.toList ++ Rows.cleanSafeSpec.plain.varTypes Tryz.prog) (ds ++ gs)).all (· ≤ reachBytes) = true := hsz0
  have hval : ∀ (j : Nat) t v, Tryz.f9.params[j]? = some t → args[j]? = some v → Value.okWide Tryz.prog W .any base t v := hval0
  have hW' := hW
  obtain ⟨p, q, hA0, hV, rfl, hfz, hnd⟩ := hW
  have hA : DataW.TrodAll enc Tryz.prog W 0 (fun _ => true) true Tryz.f9.params.toList args.toList ds p := hA0
  rw [Tryz.params9] at hA hval hsz
  obtain ⟨v0, vs0, d0, ds0, p0, q0, hargs, rfl, rfl, h0, r0⟩ := trodAll_cons hA
  obtain ⟨v1, vs1, d1, ds1, p1, q1, rfl, rfl, rfl, h1, r1⟩ := trodAll_cons r0
  obtain ⟨v2, vs2, d2, ds2, p2, q2, rfl, rfl, rfl, h2, r2⟩ := trodAll_cons r1
  obtain ⟨rfl, rfl, rfl⟩ := trodAll_nil r2
  obtain rfl : args = #[v0, v1, v2] := by cases args; simp_all
  obtain ⟨rfl, rfl⟩ := trodVars_none hV
  have k1 := h1
  have lt1 : ∀ x ∈ p1, x.block < W.heap.size := by obtain ⟨m, hm⟩ := k1; exact DataW.trod_lt m _ _ _ hm
  have k0 := h0
  have lt0 : ∀ x ∈ p0, x.block < W.heap.size := by obtain ⟨m, hm⟩ := k0; exact DataW.trod_lt m _ _ _ hm
  obtain ⟨sa0, sn0, sc0, rfl⟩ := okWide_slice Tryz.underlying22 (hval 0 22 v0 rfl rfl)
  obtain ⟨fu0, hf0⟩ := h0
  obtain ⟨A0, c0, l0, hv0, hc0, hm0, hr0, hS0⟩ := opensS_row Tryz.underlying22 (opensS_struct (fun x : Pr.S38 => (x.f0, x.f1, x.f2, x.f3, x.f4)) Tryz.underlying38 rfl (by kernel_rfl) (opensTail_cons rfl (opensS_int (by kernel_rfl) Tryz.underlying3) (opensTail_cons rfl (opensS_int (by kernel_rfl) Tryz.underlying3) (opensTail_cons rfl (opensS_string (by kernel_rfl) Tryz.underlying9) (opensTail_cons rfl (opensS_string (by kernel_rfl) Tryz.underlying9) (opensTail_last rfl (opensS_slice (by kernel_rfl) Tryz.underlying36 (opensS_struct (fun x : Pr.S45 => (x.f0, x.f1)) Tryz.underlying45 rfl (by kernel_rfl) (opensTail_cons rfl (opensS_string (by kernel_rfl) Tryz.underlying9) (opensTail_last rfl (opensS_string (by kernel_rfl) Tryz.underlying9))) (fun a => ⟨⟨a.1, a.2⟩, rfl⟩)))))))) (fun a => ⟨⟨a.1, a.2.1, a.2.2.1, a.2.2.2.1, a.2.2.2.2⟩, rfl⟩)) hf0 (fun n hn => by simpa using List.all_eq_true.1 hsz n (DataW.weights_mem_each (j := 0) rfl rfl n hn))
  obtain ⟨rfl, rfl, rfl⟩ : sa0 = A0 ∧ sn0 = l0.length ∧ sc0 = c0 := by simpa [Value.cells] using hv0
  obtain ⟨b1, A2_1, c2_1, A3_1, c3_1, A4_1, c4_1, A5_1, c5_1, rfl, ⟨x2_1, g2_1⟩, ⟨x3_1, g3_1⟩, ⟨x4_1, g4_1⟩, ⟨x5_1, g5_1⟩, z_1⟩ := open_conf (hval 1 32 v1 rfl rfl) h1 (fun n hn => by simpa using List.all_eq_true.1 hsz n (DataW.weights_mem_each (j := 1) rfl rfl n hn))
  obtain ⟨a2, rfl, rfl, rfl⟩ := open_bool Tryz.underlying4 (hval 2 4 v2 rfl rfl) h2
  clear hA0 hval0 hsz0 hsz
  obtain ⟨k, hk⟩ := Pure.CleanSafe l0 b1 a2 hS0 (Nat.le_trans hc0 (Nat.le_trans hm0 (by decide))) z_1
  refine (Pr.boltinglaw13_CleanSafe.calls k sa0 sc0 l0 b1.al b1.aal A2_1 c2_1 b1.els A3_1 c3_1 b1.rep A4_1 c4_1 b1.ats A5_1 c5_1 b1.per b1.com b1.dt a2 true W hr0 hc0 g2_1 x2_1 g3_1 x3_1 g4_1 x4_1 g5_1 x5_1 hk).mono fun e W' ⟨he, bel0⟩ => ?_
  have bel : Below W.heap.size W W' := by first | exact bel0 | exact below_of_drawn0 bel0
  subst he
  exact ⟨_, rfl, _, _, _, [], _, [], hW', trodAll_mk1 (shut_bool Tryz.underlying4 _), (trodAll_cons_mk (Below.trod laidOut (by kernel_rfl) (of_decide_eq_true (by kernel_rfl)) k0 bel lt0) (trodAll_cons_mk (Below.trod laidOut (by kernel_rfl) (of_decide_eq_true (by kernel_rfl)) k1 bel lt1) (trodAll_cons_mk (shut_bool Tryz.underlying4 _) trodAll_mk0))), rfl, bel.frame _, fun h => by cases h⟩
theorem over : Rows.cleanSafeRow.holds Tryz.pinned (OpenSpec.ofChange Rows.cleanSafeSpec) :=
  OpenClaim.holds_of_wide 9 Tryz.f9 rfl rfl rfl rfl rfl rfl rfl ⟨rfl, rfl, rfl, rfl, rfl⟩ rfl rfl rfl rfl rfl (by kernel_rfl) Tryz.func9 (by kernel_rfl)
    (of_decide_eq_true (by kernel_rfl)) (by unfold Func.isWrapper; first | (rw [if_pos (by decide +kernel)]; kernel_rfl) | (rw [if_neg (by decide +kernel)]; exact ⟨rfl, rfl⟩))
    (fun os started H enc _ => lifted os started H enc)
theorem proved : Rows.CleanSafeSaid := over
#print axioms proved
end Go.Proofs.YticacakoefojbaaGreat.cleanSafe
namespace Go.Proofs.YticacakoefojbaaGreat
theorem cleanSafe_holds : Rows.CleanSafeSaid := cleanSafe.proved
end Go.Proofs.YticacakoefojbaaGreat
