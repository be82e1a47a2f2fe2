/- boltingref18's loop: Add, Next, Same. -/
import Derived.Test.YtldbplagenjooaaLoopRef
import Derived.Deep.QuietTactic
import Derived.BigQuiet
namespace Go.Proofs.Ytldbplagenjooaa
set_option linter.unusedVariables false
set_option linter.unusedSimpArgs false
open Go.RowKit Go.Lib Go.Shelf Go.Maps Go.Proofs.YtldbplagenjooaaW.PrintWords Go.Proofs.YtldbplagenjooaaW.PrintLast

set_option maxHeartbeats 1000000 in
theorem r_add {w : World} {ok : Nat → Prop} {q : Nat} {L : List Tk} {S : List ByteArray} (s : ByteArray) (hS : S.length ≤ 1000000) (h : refR q L S w ok) :
    Calls Try.prog 19 #[.pointer (some ⟨q, 0, none⟩), .string s] w fun e w' => e = .returned (.tuple #[]) ∧ refR q L (S ++ [s]) w' (Wider ok w) ∧ Frame ok w w' := by
  obtain ⟨v1, v2, h⟩ := h
  obtain ⟨A1, c1', rfl, hc1⟩ := own_len h.row1
  obtain ⟨A, c, rfl, hc⟩ := own_len h.row2
  obtain ⟨i0, hi, hz0, hz1, hz2⟩ := info_parts info_str
  have hql := blk_lt h.blk
  have c1 : w.cell? ⟨q, 1, none⟩ = some (.slice A S.length c) := (blk_cell h.blk 1).trans rfl
  have hrow := h.row2.alloc (.cells #[.string s] 9)
  have key : Hid (∀ v' w2, w2.ownsRow 0 9 1 v' (S.length + 1) (encS S ++ [.string s]) → (w.alloc (.cells #[.string s] 9)).grownBy w2 (Value.slice A S.length c).ownBlock → (v'.ownBlock = (Value.slice A S.length c).ownBlock ∨ v'.ownBlock = some (w.heap.size + 1)) →
      (w2.heap[q]? = some (.cells #[.slice A1 L.length c1', .slice A S.length c] 48 (0, 0))) ∧ refR q L (S ++ [s]) (w2.setCell ⟨q, 1, none⟩ v') (Wider ok w) ∧ Frame ok w (w2.setCell ⟨q, 1, none⟩ v')) := by
    apply hid
    intro v' w2 hr hg hat
    have hf : Frame (fun j => some j = (Value.slice A S.length c).ownBlock) w w2 := ⟨hg.os, hg.tape, hg.output, Nat.le_trans (by simp) hg.size, fun i hi hn => (hg.block i (by simp; omega) (fun e => hn e)).trans (Below.heap_alloc w _ i hi)⟩
    refine ⟨(hf.block q hql (own_ne h.row2 h.blk (by decide))).trans h.blk, ref_put1 h hf (by rw [List.length_append, encS, List.map_append]; exact hr) (fun j hj => ?_)⟩
    rcases hat with e | e
    · exact .inl (by rw [← e, hj])
    · right
      rw [hj] at e
      have := Option.some.inj e
      omega
  clear h
  go_enter Try.func19, Try.ntmps19
  go_wp2_with (at_builtin; refine wpList_append_own_at _ rfl _ _ 22 rfl 0 9 i0 (.string ByteArray.empty) 1 16 Try.underlying22 hi hz0 hz1 hz2 rfl (by decide) _ _ _ rfl hrow ⟨w.heap.size, 0, none⟩ 1 1 [.string s] rfl rfl ?c1 ?c2 ?c3 ?c4 ?c5 ?_)
  case c1 => exact cell_one_new _ _ _
  case c2 => intro u hu; simp at hu; subst hu; rfl
  case c3 => unfold maxLen; omega
  case c4 => omega
  case c5 => exact Nat.zero_le _
  intro v' w2 hr hg _ hat
  obtain ⟨A', c', rfl, _⟩ := own_len hr
  obtain ⟨hp2, hL, hF⟩ := key.out _ w2 hr hg hat
  have d2 : w2.cell? ⟨q, 1, none⟩ = some (.slice A S.length c) := (blk_cell hp2 1).trans rfl
  have f2 : w2.frozen? ⟨q, 1, none⟩ = false := blk_frozen hp2 1
  have HL := hid hL
  have HF := hid hF
  clear hL hF hr hg hat
  go_wp2
  refine bodyPost_end (results_none rfl _ _ _) rfl ?_
  exact ⟨rfl, HL.out, HF.out⟩
set_option maxHeartbeats 1000000 in
theorem r_next0 {w : World} {ok : Nat → Prop} {q : Nat} {L : List Tk} (h : refR q L [] w ok) :
    Calls Try.prog 21 #[.pointer (some ⟨q, 0, none⟩)] w fun e w' => e = .returned (.tuple #[.string ⟨#[]⟩, .bool false]) ∧ w = w' := by
  obtain ⟨v1, v2, h⟩ := h
  obtain ⟨A, c, rfl, hc⟩ := own_len h.row2
  have c1 : w.cell? ⟨q, 1, none⟩ = some (.slice A 0 c) := (blk_cell h.blk 1).trans rfl
  clear h
  go_enter Try.func21, Try.ntmps21
  go_wp2
  go_ret2
  exact ⟨rfl, rfl⟩
theorem cut_run {i : TypeInfo} (hi : Try.prog.info? 9 = some i) (hsz : i.size = 1) (A : Option Addr) (n c m : Nat) (hm : m ≤ n) (W : World) :
    (Instr.slice 22 (.slice A n c) (some (.int .i64 (m : Int))) none none).run Try.prog W = .ok (.slice (if c = m then A else A.map (·.add m)) (n - m) (c - m)) W := by
  have ht := Try.underlying22
  have hel : Try.prog.elem 22 = 9 := by simp [Program.elem, ht]
  have hu : Try.prog.underlying 22 = some (.slice (Try.prog.elem 22)) := by rw [hel]; exact ht
  rw [run_slice_l W 22 A n c hu .i64 (m : Int) (Int.natCast_nonneg _) (by omega), hel]
  simp [sizeOf, typeInfo, hi, hsz, sliced, Result.andThen]
theorem add_add (ad : Addr) (i j : Nat) : (ad.add i).add j = ad.add (i + j) := by
  unfold Addr.add
  by_cases h1 : i = 0 <;> by_cases h2 : j = 0 <;> simp [h1, h2, Nat.add_assoc]
set_option maxHeartbeats 2000000 in
theorem r_next {w : World} {ok : Nat → Prop} {q : Nat} {L : List Tk} {s : ByteArray} {S : List ByteArray} (hS : S.length ≤ 1000000) (h : refR q L (s :: S) w ok) :
    Calls Try.prog 21 #[.pointer (some ⟨q, 0, none⟩)] w fun e w' => e = .returned (.tuple #[.string s, .bool true]) ∧ refR q L S w' (Wider ok w) ∧ Frame ok w w' := by
  obtain ⟨v1, v2, h⟩ := h
  obtain ⟨A1, c1', rfl, hc1⟩ := own_len h.row1
  obtain ⟨A, c, rfl, hc⟩ := own_len h.row2
  obtain ⟨i0, hi, hz0, hz1, hz2⟩ := info_parts info_str
  have hrd := (row_reads h.row2).2.2
  have hql := blk_lt h.blk
  obtain ⟨ad, rfl, hcell⟩ := hrd.2.2 (by simp)
  have c1 : w.cell? ⟨q, 1, none⟩ = some (.slice (some ad) (S.length + 1) c) := (blk_cell h.blk 1).trans rfl
  have c0 : w.cell? ad = some (.string s) := by
    have := hcell 0 (by simp)
    simpa [Addr.add] using this
  have hcut := cut_run hi hz1 (some ad) (S.length + 1) c 1 (by omega)
  obtain ⟨ad', had, hcells⟩ : ∃ ad', (if c = 1 then some ad else (some ad).map (·.add 1)) = some ad' ∧ ∀ j, j < S.length → w.cell? (ad'.add j) = some (.string (S.getD j ByteArray.empty)) := by
    by_cases e : c = 1
    · refine ⟨ad, if_pos e, fun j hj => ?_⟩
      have : (s :: S).length ≤ c := hc
      rw [List.length_cons] at this
      omega
    · refine ⟨ad.add 1, if_neg e, fun j hj => ?_⟩
      have := hcell (j + 1) (by simpa using hj)
      rw [show ad.add (j + 1) = (ad.add 1).add j from by rw [add_add, Nat.add_comm]] at this
      exact this
  have hz : decide ((S.length : Int) + 1 = 0) = false := decide_eq_false (by omega)
  have hcut' : ∀ W, (Instr.slice 22 (.slice (some ad) (S.length + 1) c) (some (.int .i64 1)) none none).run Try.prog W = .ok (.slice (some ad') S.length (c - 1)) W := fun W => by
    have := hcut W
    rw [had] at this
    exact this
  have hnil : (w.alloc (.cells #[] 9)).ownsRow 0 9 1 (.slice (some ⟨w.heap.size, 0, none⟩) 0 0) 0 [] := ⟨rfl, .inr ⟨w.heap.size, 0, #[], rfl, Nat.zero_le _, blk_new w _, Nat.le_refl _, Nat.zero_le _, rfl, rfl⟩⟩
  have hnews : ∀ j u, (encS S)[j]? = some u → (w.alloc (.cells #[] 9)).cell? (ad'.add j) = some u := by
    intro j u hu
    have hj : j < S.length := by have := (List.getElem?_eq_some_iff.1 hu).1; simpa [encS] using this
    have h1 := hcells j hj
    have h2 : u = .string (S.getD j ByteArray.empty) := by
      rw [encS, List.getElem?_map, List.getElem?_eq_getElem hj] at hu
      rw [List.getD_eq_getElem?_getD, List.getElem?_eq_getElem hj]
      exact (Option.some.inj hu).symm
    rw [h2, ← h1]
    exact World.cell?_alloc_lt _ _ _ (World.block_lt_of_cell? w _ h1)
  have key : Hid (∀ v' w2, w2.ownsRow 0 9 1 v' S.length (encS S) → (w.alloc (.cells #[] 9)).grownBy w2 (some w.heap.size) → (v'.ownBlock = some w.heap.size ∨ v'.ownBlock = some (w.heap.size + 1)) →
      (w2.heap[q]? = some (.cells #[.slice A1 L.length c1', .slice (some ad) (S.length + 1) c] 48 (0, 0))) ∧ refR q L S (w2.setCell ⟨q, 1, none⟩ v') (Wider ok w) ∧ Frame ok w (w2.setCell ⟨q, 1, none⟩ v')) := by
    apply hid
    intro v' w2 hr hg hat
    have hf : Frame (fun j => some j = (Value.slice (some ad) (S.length + 1) c).ownBlock) w w2 := ⟨hg.os, hg.tape, hg.output, Nat.le_trans (by simp) hg.size, fun i hi hn => (hg.block i (by simp; omega) (fun e => by have := Option.some.inj e; omega)).trans (Below.heap_alloc w _ i hi)⟩
    refine ⟨(hf.block q hql (own_ne h.row2 h.blk (by decide))).trans h.blk, ref_put1 h hf hr (fun j hj => .inr ?_)⟩
    rcases hat with e | e <;> (rw [hj] at e; have := Option.some.inj e; omega)
  clear h hrd hcell had hcut hcells hc
  go_enter Try.func21, Try.ntmps21
  go_wp2_with (at_builtin; refine wpList_append_own_at _ rfl _ _ 22 rfl 0 9 i0 (.string ByteArray.empty) 1 16 Try.underlying22 hi hz0 hz1 hz2 rfl (by decide) _ _ _ rfl hnil ad' S.length (c - 1) (encS S) rfl ?c0 hnews ?c2 ?c3 ?c4 ?c5 ?_)
  case c0 => simp [encS]
  case c2 => intro u hu; simp [encS] at hu; obtain ⟨a, _, rfl⟩ := hu; rfl
  case c3 => unfold maxLen; omega
  case c4 => omega
  case c5 => exact Nat.zero_le _
  intro v' w2 hr hg _ hat
  obtain ⟨A', c', rfl, _⟩ := own_len hr
  obtain ⟨hp2, hL, hF⟩ := key.out _ w2 hr hg hat
  have d2 : w2.cell? ⟨q, 1, none⟩ = some (.slice (some ad) (S.length + 1) c) := (blk_cell hp2 1).trans rfl
  have f2 : w2.frozen? ⟨q, 1, none⟩ = false := blk_frozen hp2 1
  have HL := hid hL
  have HF := hid hF
  clear hL hF hr hg hat hnews
  go_wp2
  go_ret2
  exact ⟨rfl, HL.out, HF.out⟩
end Go.Proofs.Ytldbplagenjooaa
