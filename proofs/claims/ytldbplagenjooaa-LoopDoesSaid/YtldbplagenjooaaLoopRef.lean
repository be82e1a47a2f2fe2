/- boltingref18's loop in memory; New, Post, Add, Next. -/
import Derived.Test.YtldbplagenjooaaLoopStar
namespace Go.Proofs.Ytldbplagenjooaa
set_option linter.unusedVariables false
set_option linter.unusedSimpArgs false
open Go.RowKit Go.Lib Go.Shelf Go.Maps Go.Proofs.YtldbplagenjooaaW.PrintWords Go.Proofs.YtldbplagenjooaaW.PrintLast

abbrev Tk := Int × ByteArray
def flatT (L : List Tk) : List Value := L.flatMap fun x => [.int .i64 x.1, .string x.2]
theorem flatT_append (L M : List Tk) : flatT (L ++ M) = flatT L ++ flatT M := by unfold flatT; rw [List.flatMap_append]
theorem flatT_len : ∀ L : List Tk, (flatT L).length = L.length * 2
  | [] => rfl
  | x :: L => by
    have := flatT_len L
    unfold flatT at this ⊢
    rw [List.flatMap_cons, List.length_append, this]
    simp; omega
structure RefIs (w : World) (ok : Nat → Prop) (q : Nat) (v1 v2 : Value) (L : List Tk) (S : List ByteArray) : Prop where
  okq : ok q
  blk : w.heap[q]? = some (.cells #[v1, v2] 48 (0, 0))
  row1 : w.ownsRow 0 59 2 v1 L.length (flatT L)
  ok1 : ∀ j, v1.ownBlock = some j → ok j
  row2 : w.ownsRow 0 9 1 v2 S.length (encS S)
  ok2 : ∀ j, v2.ownBlock = some j → ok j
def refR (q : Nat) (L : List Tk) (S : List ByteArray) : Res := fun w ok => ∃ v1 v2, RefIs w ok q v1 v2 L S
theorem isRes_ref (q : Nat) (L : List Tk) (S : List ByteArray) : IsRes (refR q L S) := by
  refine ⟨?_, ?_, ?_⟩
  · rintro w ok ok' ⟨v1, v2, h⟩ hk
    exact ⟨v1, v2, hk _ h.okq, h.blk, h.row1, fun j hj => hk j (h.ok1 j hj), h.row2, fun j hj => hk j (h.ok2 j hj)⟩
  · rintro w ok ⟨v1, v2, h⟩
    exact ⟨v1, v2, ⟨h.okq, blk_lt h.blk⟩, h.blk, h.row1, fun j hj => ⟨h.ok1 j hj, own_lt h.row1 j hj⟩, h.row2, fun j hj => ⟨h.ok2 j hj, own_lt h.row2 j hj⟩⟩
  · rintro w w' ok ⟨v1, v2, h⟩ hm
    exact ⟨v1, v2, h.okq, (hm q h.okq (blk_lt h.blk)).trans h.blk, own_move h.row1 (fun j hj => hm j (h.ok1 j hj) (own_lt h.row1 j hj)), h.ok1, own_move h.row2 (fun j hj => hm j (h.ok2 j hj) (own_lt h.row2 j hj)), h.ok2⟩
section
variable {w w2 : World} {ok : Nat → Prop} {q : Nat} {v1 v2 v' : Value} {L L' : List Tk} {S S' : List ByteArray}
theorem ref_put0 (h : RefIs w ok q v1 v2 L S) (hf : Frame (fun j => some j = v1.ownBlock) w w2) (hr : w2.ownsRow 0 59 2 v' L'.length (flatT L')) (hat : ∀ j, v'.ownBlock = some j → some j = v1.ownBlock ∨ w.heap.size ≤ j) :
    refR q L' S (w2.setCell ⟨q, 0, none⟩ v') (Wider ok w) ∧ Frame ok w (w2.setCell ⟨q, 0, none⟩ v') := by
  have hql := blk_lt h.blk
  have hq1 : ¬ (some q = v1.ownBlock) := own_ne h.row1 h.blk (by decide)
  have hq2 : w2.heap[q]? = some (.cells #[v1, v2] 48 (0, 0)) := (hf.block q hql hq1).trans h.blk
  have hqv : some q ≠ v'.ownBlock := own_ne hr hq2 (by decide)
  have h12 := own_type_ne h.row1 h.row2 (by decide)
  have old : ∀ j, j < w.heap.size → j ≠ q → ¬ (some j = v1.ownBlock) → (w2.setCell ⟨q, 0, none⟩ v').heap[j]? = w.heap[j]? := fun j hj hjq hj1 => (set_block hq2 0 v' j hjq).trans (hf.block j hj hj1)
  refine ⟨⟨v', v2, .inl h.okq, blk_set hq2 0 v', own_move hr (fun j hj => set_block hq2 0 v' j (fun e => hqv (by rw [hj, e]))), fun j hj => (hat j hj).elim (fun e => .inl (h.ok1 j e.symm)) .inr, own_move h.row2 (fun j hj => old j (own_lt h.row2 j hj) (fun e => own_ne h.row2 h.blk (by decide) (by rw [← e, hj])) (fun e => ?_)), fun j hj => .inl (h.ok2 j hj)⟩, ⟨hf.os, hf.tape, hf.output, by simpa using hf.size, fun i hi hn => old i hi (fun e => hn (e ▸ h.okq)) (fun e => hn (h.ok1 i e.symm))⟩⟩
  rcases h12 with g | g
  · rw [← e] at g; cases g
  · exact g (by rw [← e, hj])
theorem ref_put1 (h : RefIs w ok q v1 v2 L S) (hf : Frame (fun j => some j = v2.ownBlock) w w2) (hr : w2.ownsRow 0 9 1 v' S'.length (encS S')) (hat : ∀ j, v'.ownBlock = some j → some j = v2.ownBlock ∨ w.heap.size ≤ j) :
    refR q L S' (w2.setCell ⟨q, 1, none⟩ v') (Wider ok w) ∧ Frame ok w (w2.setCell ⟨q, 1, none⟩ v') := by
  have hql := blk_lt h.blk
  have hq1 : ¬ (some q = v2.ownBlock) := own_ne h.row2 h.blk (by decide)
  have hq2 : w2.heap[q]? = some (.cells #[v1, v2] 48 (0, 0)) := (hf.block q hql hq1).trans h.blk
  have hqv : some q ≠ v'.ownBlock := own_ne hr hq2 (by decide)
  have h12 := own_type_ne h.row1 h.row2 (by decide)
  have old : ∀ j, j < w.heap.size → j ≠ q → ¬ (some j = v2.ownBlock) → (w2.setCell ⟨q, 1, none⟩ v').heap[j]? = w.heap[j]? := fun j hj hjq hj1 => (set_block hq2 1 v' j hjq).trans (hf.block j hj hj1)
  refine ⟨⟨v1, v', .inl h.okq, blk_set hq2 1 v', own_move h.row1 (fun j hj => old j (own_lt h.row1 j hj) (fun e => own_ne h.row1 h.blk (by decide) (by rw [← e, hj])) (fun e => ?_)), fun j hj => .inl (h.ok1 j hj), own_move hr (fun j hj => set_block hq2 1 v' j (fun e => hqv (by rw [hj, e]))), fun j hj => (hat j hj).elim (fun e => .inl (h.ok2 j e.symm)) .inr⟩, ⟨hf.os, hf.tape, hf.output, by simpa using hf.size, fun i hi hn => old i hi (fun e => hn (e ▸ h.okq)) (fun e => hn (h.ok2 i e.symm))⟩⟩
  rcases h12 with g | g
  · rw [hj] at g; cases g
  · exact g (by rw [hj, e])
end
theorem info_task : (Try.prog.info? 59).map (fun i => (i.zero, i.size, i.bytes)) = some (some (.agg #[.int .i64 0, .string ByteArray.empty]), 2, 24) := by kernel_rfl
theorem ref_new (w : World) : refR w.heap.size [] [] (w.alloc (.cells #[nilS, nilS] 48)) (fun j => w.heap.size ≤ j) :=
  ⟨nilS, nilS, Nat.le_refl _, blk_new w _, own_nil _ _ _ _, fun j hj => by simp [Value.ownBlock] at hj, own_nil _ _ _ _, fun j hj => by simp [Value.ownBlock] at hj⟩
set_option maxHeartbeats 1000000 in
theorem r_new (w : World) : Calls Try.prog 17 #[] w fun e w' => (e = .returned (.pointer (some ⟨w.heap.size, 0, none⟩))) ∧ refR w.heap.size [] [] w' (fun j => w.heap.size ≤ j) ∧ Below w.heap.size w w' := by
  have HL := hid (ref_new w)
  go_enter Try.func17, Try.ntmps17
  go_wp2
  go_ret
  exact ⟨rfl, HL.out, (Below.refl _ w).alloc (Nat.le_refl _) _⟩
set_option maxHeartbeats 1000000 in
theorem r_post_bad (w : World) (q : Nat) (k : Int) (s : ByteArray) (hk : ¬ (0 ≤ k ∧ k < 8)) :
    Calls Try.prog 18 #[.pointer (some ⟨q, 0, none⟩), .int .i64 k, .string s] w fun e w' => e = .returned (.int .i64 1) ∧ w = w' := by
  by_cases h0 : k < 0
  · have h1 : decide (k < 0) = true := decide_eq_true h0
    clear hk
    go_enter Try.func18, Try.ntmps18
    go_wp2
    go_ret
    exact ⟨rfl, rfl⟩
  · have h1 : decide (k < 0) = false := decide_eq_false h0
    have h2 : decide (7 < k) = true := decide_eq_true (by omega)
    clear hk
    go_enter Try.func18, Try.ntmps18
    go_wp2
    go_ret
    exact ⟨rfl, rfl⟩
set_option maxHeartbeats 2000000 in
theorem r_post {w : World} {ok : Nat → Prop} {q : Nat} {L : List Tk} {S : List ByteArray} {k : Int} (s : ByteArray) (h0 : 0 ≤ k) (h8 : k < 8) (hL : L.length ≤ 1000000) (h : refR q L S w ok) :
    Calls Try.prog 18 #[.pointer (some ⟨q, 0, none⟩), .int .i64 k, .string s] w fun e w' => e = .returned (.int .i64 0) ∧ refR q (L ++ [(k, s)]) S w' (Wider ok w) ∧ Frame ok w w' := by
  obtain ⟨v1, v2, h⟩ := h
  obtain ⟨A, c, rfl, hc⟩ := own_len h.row1
  obtain ⟨A2, c2, rfl, hc2⟩ := own_len h.row2
  obtain ⟨i0, hi, hz0, hz1, hz2⟩ := info_parts info_task
  have hql := blk_lt h.blk
  have h1 : decide (k < 0) = false := decide_eq_false (by omega)
  have h2 : decide (7 < k) = false := decide_eq_false (by omega)
  have c0 : w.cell? ⟨q, 0, none⟩ = some (.slice A L.length c) := (blk_cell h.blk 0).trans rfl
  have hrow := h.row1.alloc (.cells #[.int .i64 k, .string s] 59)
  have key : Hid (∀ v' w2, w2.ownsRow 0 59 2 v' (L.length + 1) (flatT L ++ [.int .i64 k, .string s]) → (w.alloc (.cells #[.int .i64 k, .string s] 59)).grownBy w2 (Value.slice A L.length c).ownBlock → (v'.ownBlock = (Value.slice A L.length c).ownBlock ∨ v'.ownBlock = some (w.heap.size + 1)) →
      (w2.heap[q]? = some (.cells #[.slice A L.length c, .slice A2 S.length c2] 48 (0, 0))) ∧ refR q (L ++ [(k, s)]) S (w2.setCell ⟨q, 0, none⟩ v') (Wider ok w) ∧ Frame ok w (w2.setCell ⟨q, 0, none⟩ v')) := by
    apply hid
    intro v' w2 hr hg hat
    have hf : Frame (fun j => some j = (Value.slice A L.length c).ownBlock) w w2 := ⟨hg.os, hg.tape, hg.output, Nat.le_trans (by simp) hg.size, fun i hi hn => (hg.block i (by simp; omega) (fun e => hn e)).trans (Below.heap_alloc w _ i hi)⟩
    refine ⟨(hf.block q hql (own_ne h.row1 h.blk (by decide))).trans h.blk, ref_put0 h hf (by rw [List.length_append, flatT_append]; exact hr) (fun j hj => ?_)⟩
    rcases hat with e | e
    · exact .inl (by rw [← e, hj])
    · right
      rw [hj] at e
      have := Option.some.inj e
      omega
  clear h
  go_enter Try.func18, Try.ntmps18
  go_wp2_with (at_builtin; refine wpList_append_own_at _ rfl _ _ 46 rfl 0 59 i0 (.agg #[.int .i64 0, .string ByteArray.empty]) 2 24 Try.underlying46 hi hz0 hz1 hz2 rfl (by decide) _ _ _ rfl hrow ⟨w.heap.size, 0, none⟩ 1 1 [.int .i64 k, .string s] rfl rfl ?c1 ?c2 ?c3 ?c4 ?c5 ?_)
  case c1 =>
    intro j u hj
    match j, hj with
    | 0, hj => simp at hj; subst hj; simp [Addr.add]
    | 1, hj => simp at hj; subst hj; simp [Addr.add]
  case c2 => intro u hu; simp at hu; rcases hu with rfl | rfl <;> rfl
  case c3 => unfold maxLen; omega
  case c4 => omega
  case c5 => exact Nat.zero_le _
  intro v' w2 hr hg _ hat
  obtain ⟨A', c', rfl, _⟩ := own_len hr
  obtain ⟨hp2, hL, hF⟩ := key.out _ w2 hr hg hat
  have d2 : w2.cell? ⟨q, 0, none⟩ = some (.slice A L.length c) := (blk_cell hp2 0).trans rfl
  have f2 : w2.frozen? ⟨q, 0, none⟩ = false := blk_frozen hp2 0
  have HL := hid hL
  have HF := hid hF
  clear hL hF hr hg hat
  go_wp2
  go_ret
  exact ⟨rfl, HL.out, HF.out⟩
end Go.Proofs.Ytldbplagenjooaa
