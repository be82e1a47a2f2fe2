/- boltingref18's loop: Pick. -/
import Derived.Test.YtldbplagenjooaaLoopRef2
namespace Go.Proofs.Ytldbplagenjooaa
set_option linter.unusedVariables false
set_option linter.unusedSimpArgs false
open Go.RowKit Go.Lib Go.Shelf Go.Maps Go.Proofs.YtldbplagenjooaaW.PrintWords Go.Proofs.YtldbplagenjooaaW.PrintLast

def pstep (k : Int) (a : Bool × ByteArray × List Tk) (x : Tk) : Bool × ByteArray × List Tk := if (!a.1 && decide (x.1 = k)) = true then (true, x.2, a.2.2) else (a.1, a.2.1, a.2.2 ++ [x])
/-- What the reference's Pick has behind the first tasks: found, its text, the others. -/
def pst (k : Int) (L : List Tk) : Bool × ByteArray × List Tk := L.foldl (pstep k) (false, ⟨#[]⟩, [])
theorem pst_snoc (k : Int) (L : List Tk) {i : Nat} (hi : i < L.length) : pst k (L.take (i + 1)) = pstep k (pst k (L.take i)) L[i] := by
  unfold pst
  rw [List.take_succ_eq_append_getElem hi, List.foldl_append]
  rfl
theorem pst_len (k : Int) (L : List Tk) : (pst k L).2.2.length ≤ L.length := by
  have : ∀ (M : List Tk) (a : Bool × ByteArray × List Tk), (M.foldl (pstep k) a).2.2.length ≤ a.2.2.length + M.length := by
    intro M
    induction M with
    | nil => intro a; simp
    | cons x M ih =>
      intro a
      rw [List.foldl_cons]
      refine Nat.le_trans (ih _) ?_
      unfold pstep
      split <;> (simp only [List.length_append, List.length_cons, List.length_nil]; omega)
  simpa [pst] using this L (false, ⟨#[]⟩, [])
theorem flatT_at : ∀ {L : List Tk} {i : Nat} (hi : i < L.length), (flatT L)[i * 2]? = some (.int .i64 L[i].1) ∧ (flatT L)[i * 2 + 1]? = some (.string L[i].2)
  | x :: L, 0, _ => ⟨rfl, rfl⟩
  | x :: L, i + 1, hi => by
    have ih := flatT_at (L := L) (i := i) (by simpa using hi)
    have e1 : (i + 1) * 2 = (i * 2) + 1 + 1 := by omega
    have e2 : (i + 1) * 2 + 1 = (i * 2 + 1) + 1 + 1 := by omega
    have e3 : flatT (x :: L) = .int .i64 x.1 :: .string x.2 :: flatT L := rfl
    rw [e2, e1, e3, List.getElem?_cons_succ, List.getElem?_cons_succ, List.getElem?_cons_succ, List.getElem?_cons_succ]
    simpa using ih
/-- The cells of a row of tasks. -/
theorem task_cells {w : World} {A : Option Addr} {c : Nat} {L : List Tk} (h : w.ownsRow 0 59 2 (.slice A L.length c) L.length (flatT L)) {i : Nat} (hi : i < L.length) :
    ∃ g, A = some ⟨g, 0, none⟩ ∧ w.cell? ⟨g, i * 2, none⟩ = some (.int .i64 L[i].1) ∧ w.cell? ⟨g, i * 2 + 1, none⟩ = some (.string L[i].2) := by
  rcases h.2 with ⟨_, h0⟩ | ⟨g, cap, cur, hv, _⟩
  · omega
  · cases hv
    have hc := h.cells (g := g) rfl
    have h1 := hc (i * 2) _ (flatT_at hi).1
    have h2 := hc (i * 2 + 1) _ (flatT_at hi).2
    rw [add_plain] at h1 h2
    exact ⟨g, rfl, h1, h2⟩
set_option maxHeartbeats 1000000 in
theorem r_pick_bad (w : World) (q : Nat) (k : Int) (hk : ¬ (0 ≤ k ∧ k < 8)) :
    Calls Try.prog 20 #[.pointer (some ⟨q, 0, none⟩), .int .i64 k] w fun e w' => e = .returned (.tuple #[.string ⟨#[]⟩, .int .i64 1]) ∧ w = w' := by
  by_cases h0 : k < 0
  · have h1 : decide (k < 0) = true := decide_eq_true h0
    clear hk
    go_enter Try.func20, Try.ntmps20
    go_wp2
    go_ret2
    exact ⟨rfl, rfl⟩
  · have h1 : decide (k < 0) = false := decide_eq_false h0
    have h2 : decide (7 < k) = true := decide_eq_true (by omega)
    clear hk
    go_enter Try.func20, Try.ntmps20
    go_wp2
    go_ret2
    exact ⟨rfl, rfl⟩
theorem two_new (w : World) (x y : Value) (t : TypeId) : ∀ j u, [x, y][j]? = some u → (w.alloc (.cells #[x, y] t)).cell? ((⟨w.heap.size, 0, none⟩ : Addr).add j) = some u := by
  intro j u hj
  match j, hj with
  | 0, hj => simp at hj; subst hj; simp [Addr.add]
  | 1, hj => simp at hj; subst hj; simp [Addr.add]
theorem two_one (x y : Value) (hx : x.oneCell' = true) (hy : y.oneCell' = true) : ∀ u ∈ [x, y], u.oneCell' = true := by
  intro u hu
  simp at hu
  rcases hu with rfl | rfl <;> assumption
/-- What Pick comes to. -/
def PickTo (w : World) (ok : Nat → Prop) (q : Nat) (k : Int) (L : List Tk) (S : List ByteArray) (e : Ending) (w' : World) : Prop :=
  ((S ≠ [] ∨ (pst k L).1 = false) ∧ e = .returned (.tuple #[.string ⟨#[]⟩, .int .i64 180]) ∧ Below w.heap.size w w') ∨
  (S = [] ∧ (pst k L).1 = true ∧ e = .returned (.tuple #[.string (pst k L).2.1, .int .i64 0]) ∧ refR q (pst k L).2.2 S w' (Wider ok w) ∧ Frame ok w w')
set_option maxHeartbeats 8000000 in
set_option maxRecDepth 100000 in
theorem r_pick {w : World} {ok : Nat → Prop} {q : Nat} {L : List Tk} {S : List ByteArray} {k : Int} (h0 : 0 ≤ k) (h8 : k < 8) (hL : L.length ≤ 1000000) (hS : S.length ≤ 1000000) (h : refR q L S w ok) :
    Calls Try.prog 20 #[.pointer (some ⟨q, 0, none⟩), .int .i64 k] w (PickTo w ok q k L S) := by
  obtain ⟨v1, v2, h⟩ := h
  obtain ⟨A1, d1, rfl, hd1⟩ := own_len h.row1
  obtain ⟨A2, d2, rfl, hd2⟩ := own_len h.row2
  obtain ⟨i0, hi, hz0, hz1, hz2⟩ := info_parts info_task
  have hql := blk_lt h.blk
  have h1 : decide (k < 0) = false := decide_eq_false (by omega)
  have h2 : decide (7 < k) = false := decide_eq_false (by omega)
  have HH := hid h
  clear h
  go_enter Try.func20, Try.ntmps20
  go_wp2
  go_loopw [6, 7, 8, 9] (fun o f s iv wr => ∃ (i : Nat) (A : Option Addr) (c : Nat) (fb : Bool) (sb : ByteArray) (ob : List Tk), iv = .int .i64 i ∧ i ≤ L.length ∧ f = .bool fb ∧ s = .string sb ∧ o = .slice A ob.length c ∧ pst k (L.take i) = (fb, sb, ob) ∧ wr.ownsRow w.heap.size 59 2 (.slice A ob.length c) ob.length (flatT ob) ∧ Below w.heap.size w wr) (fun _ _ _ iv _ => L.length - (intOf iv).toNat)
  case atStart =>
    refine ⟨0, some ⟨w.heap.size, 0, none⟩, 0, false, ⟨#[]⟩, [], rfl, by omega, rfl, rfl, rfl, rfl, ?_, (Below.refl _ w).alloc (Nat.le_refl _) _⟩
    exact ⟨rfl, .inr ⟨w.heap.size, 0, #[], rfl, Nat.le_refl _, blk_new w _, Nat.le_refl _, Nat.zero_le _, rfl, rfl⟩⟩
  case round =>
    obtain ⟨i, A, c, fb, sb, ob, rfl, hi', rfl, rfl, rfl, hp, hr, hb⟩ := hrel
    have e0 : wr.cell? ⟨q, 0, none⟩ = some (.slice A1 L.length d1) := pw_cell_below hb ((blk_cell HH.out.blk 0).trans rfl)
    have e1 : wr.cell? ⟨q, 1, none⟩ = some (.slice A2 S.length d2) := pw_cell_below hb ((blk_cell HH.out.blk 1).trans rfl)
    have hol : ob.length ≤ 1000000 := by
      have := pst_len k (L.take i)
      rw [hp, List.length_take] at this
      simp only at this
      omega
    have HP := hid hp
    have HR := hid hr
    have HB := hid hb
    clear hp hr hb
    by_cases hlt : i < L.length
    · obtain ⟨g, rfl, hc1, hc2⟩ := task_cells HH.out.row1 hlt
      have hn := pst_snoc k L hlt
      rw [HP.out] at hn
      obtain ⟨⟨xs, xt⟩, hx⟩ : ∃ x, L[i] = x := ⟨_, rfl⟩
      rw [hx] at hc1 hc2 hn
      have b1 : wr.cell? ⟨g, i * 2, none⟩ = some (.int .i64 xs) := pw_cell_below HB.out hc1
      have b2 : wr.cell? ⟨g, i * 2 + 1, none⟩ = some (.string xt) := pw_cell_below HB.out hc2
      have HN := hid hn
      have hrow : Hid ((wr.alloc (.cells #[.int .i64 xs, .string xt] 59)).ownsRow w.heap.size 59 2 (.slice A ob.length c) ob.length (flatT ob)) := hid (HR.out.alloc _)
      have hws := HB.out.size
      clear hn hx hc1 hc2
      cases fb with
      | true =>
        go_wp2_with (at_builtin; refine wpList_append_own_at _ rfl _ _ 46 rfl w.heap.size 59 i0 (.agg #[.int .i64 0, .string ByteArray.empty]) 2 24 Try.underlying46 hi hz0 hz1 hz2 rfl (by decide) _ _ _ rfl hrow.out ⟨wr.heap.size, 0, none⟩ 1 1 [.int .i64 xs, .string xt] rfl rfl (two_new _ _ _ _) (two_one _ _ rfl rfl) (by unfold maxLen; omega) (by omega) (by simp; omega) ?_)
        intro v' w2 hr hg _ hat
        obtain ⟨A', c', rfl, _⟩ := own_len hr
        have HR2 := hid hr
        have HB2 : Hid (Below w.heap.size w w2) := hid ((HB.out.alloc hws _).grown hg (by simp; omega) (fun j hj => own_base HR.out j hj))
        clear hr hg hat
        go_wp2
        go_roundw
        case rel => exact ⟨i + 1, A', c', true, sb, ob ++ [(xs, xt)], by go_num, by omega, rfl, rfl, by rw [List.length_append]; rfl, by rw [HN.out]; rfl, by rw [List.length_append, flatT_append]; exact HR2.out, HB2.out⟩
        case measure => simp [intOf]; omega
      | false =>
        by_cases hk : xs = k
        · subst hk
          go_wp2
          go_roundw
          case rel => exact ⟨i + 1, A, c, true, xt, ob, by go_num, by omega, rfl, rfl, rfl, by rw [HN.out]; unfold pstep; rw [if_pos (by simp)], HR.out, HB.out⟩
          case measure => simp [intOf]; omega
        · have hkd : decide (xs = k) = false := decide_eq_false hk
          have hkd2 : (xs == k) = false := beq_eq_false_iff_ne.2 hk
          have HK := hid hk
          clear hk
          go_wp2_with (at_builtin; refine wpList_append_own_at _ rfl _ _ 46 rfl w.heap.size 59 i0 (.agg #[.int .i64 0, .string ByteArray.empty]) 2 24 Try.underlying46 hi hz0 hz1 hz2 rfl (by decide) _ _ _ rfl hrow.out ⟨wr.heap.size, 0, none⟩ 1 1 [.int .i64 xs, .string xt] rfl rfl (two_new _ _ _ _) (two_one _ _ rfl rfl) (by unfold maxLen; omega) (by omega) (by simp; omega) ?_)
          intro v' w2 hr hg _ hat
          obtain ⟨A', c', rfl, _⟩ := own_len hr
          have HR2 := hid hr
          have HB2 : Hid (Below w.heap.size w w2) := hid ((HB.out.alloc hws _).grown hg (by simp; omega) (fun j hj => own_base HR.out j hj))
          clear hr hg hat
          go_wp2
          go_roundw
          case rel => exact ⟨i + 1, A', c', false, sb, ob ++ [(xs, xt)], by go_num, by omega, rfl, rfl, by rw [List.length_append]; rfl, by rw [HN.out]; unfold pstep; rw [if_neg (by simp [HK.out])], by rw [List.length_append, flatT_append]; exact HR2.out, HB2.out⟩
          case measure => simp [intOf]; omega
    · have hil : L.take i = L := by rw [show i = L.length by omega, List.take_length]
      have HP2 := hid (hil ▸ HP.out)
      have hqe : q < w.heap.size := hql
      have e2 : wr.heap[q]? = some (.cells #[.slice A1 L.length d1, .slice A2 S.length d2] 48 (0, 0)) := (HB.out.block q hql).trans HH.out.blk
      have f2 : wr.frozen? ⟨q, 0, none⟩ = false := blk_frozen e2 0
      have HE2 := hid e2
      clear hil e2
      cases fb with
      | false =>
        go_wp2
        go_ret2
        exact .inl ⟨.inr (by rw [HP2.out]), rfl, HB.out⟩
      | true =>
        cases S with
        | cons s S =>
          have hpos : decide ((0 : Int) < (S.length : Int) + 1) = true := decide_eq_true (by omega)
          go_wp2
          go_ret2
          exact .inl ⟨.inl (by simp), rfl, HB.out⟩
        | nil =>
          have hst := ref_put0 HH.out (Frame.of_below _ HB.out) (own_down HR.out (Nat.zero_le _)) (fun j hj => .inr (own_base HR.out j hj))
          have HST := hid hst
          clear hst
          go_wp2
          go_ret2
          refine .inr ⟨rfl, by rw [HP2.out], ?_, ?_, HST.out.2⟩
          · rw [HP2.out]; rfl
          · rw [HP2.out]; exact HST.out.1
end Go.Proofs.Ytldbplagenjooaa
