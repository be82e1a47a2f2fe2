/- A loop beside a block of the call's own; tasks that are the numbers of their posting. -/
import Derived.Test.YtldbplagenjooaaLoopSrcs
namespace Go.Proofs.Ytldbplagenjooaa
set_option linter.unusedVariables false
set_option linter.unusedSimpArgs false
open Go.RowKit Go.Lib Go.Shelf Go.Maps Go.Proofs.YtldbplagenjooaaW.PrintWords Go.Proofs.YtldbplagenjooaaW.PrintLast

/-- As Own; and block x is none of the loop's. -/
structure OwnX (x : Nat) (w0 w : World) (p n : Nat) (T : Int → List ByteArray) (S : List ByteArray) : Prop where
  at_ : LoopAt w (fun j => w0.heap.size ≤ j ∧ j ≠ x) p n T S
  below : Below w0.heap.size w0 w
  lt : x < w.heap.size
  le : w0.heap.size ≤ x
theorem OwnX.own {x : Nat} {w0 w : World} {p n : Nat} {T : Int → List ByteArray} {S : List ByteArray} (h : OwnX x w0 w p n T S) : Own w0 w p n T S := ⟨h.at_.mono (fun j hj => hj.1), h.below⟩
theorem Own.beside {w0 w : World} {p n : Nat} {T : Int → List ByteArray} {S : List ByteArray} (h : Own w0 w p n T S) (o : Obj) : OwnX w.heap.size w0 (w.alloc o) p n T S :=
  ⟨(h.at_.bound.below ((Below.refl _ w).alloc (Nat.le_refl _) o)).mono (fun j hj => ⟨hj.1, by omega⟩), h.below.trans (((Below.refl _ w).alloc (Nat.le_refl _) o).mono h.below.size), by simp, h.below.size⟩
theorem OwnX.step {x : Nat} {w0 w w' : World} {p n n' : Nat} {T T' : Int → List ByteArray} {S S' : List ByteArray} (h : OwnX x w0 w p n T S) (h' : LoopAt w' (Wider (fun j => w0.heap.size ≤ j ∧ j ≠ x) w) p n' T' S') (hf : Frame (fun j => w0.heap.size ≤ j ∧ j ≠ x) w w') : OwnX x w0 w' p n' T' S' ∧ w'.heap[x]? = w.heap[x]? :=
  ⟨⟨h'.mono (fun j hj => hj.elim id (fun g => ⟨Nat.le_trans h.below.size g, by have := h.lt; omega⟩)), h.below.trans (hf.below h.below.size (fun j hj => hj.1)), Nat.lt_of_lt_of_le h.lt hf.size, h.le⟩, hf.block x h.lt (fun g => g.2 rfl)⟩
/-- A store into block x. -/
theorem OwnX.set {x : Nat} {w0 w : World} {p n : Nat} {T : Int → List ByteArray} {S : List ByteArray} (h : OwnX x w0 w p n T S) (i : Nat) (v : Value) : OwnX x w0 (w.setCell ⟨x, i, none⟩ v) p n T S :=
  ⟨h.at_.move (fun j hj _ => Below.heap_setCell w ⟨x, i, none⟩ v j hj.2), ⟨h.below.os, h.below.tape, h.below.output, by simpa using h.below.size, fun j hj => (Below.heap_setCell w ⟨x, i, none⟩ v j (by have := h.le; show j ≠ x; omega)).trans (h.below.block j hj)⟩, by simpa using h.lt, h.le⟩
theorem OwnX.drew {x : Nat} {w0 w : World} {p n : Nat} {T : Int → List ByteArray} {S : List ByteArray} (h : OwnX x w0 w p n T S) (m : Nat) : OwnX x w0 (w.drewN m) p n T S :=
  ⟨h.at_.below (pw_below_drewN (Below.refl _ _) m), pw_below_drewN h.below m, h.lt, h.le⟩
theorem x_pick {x : Nat} {w0 w : World} {p n : Nat} {T : Int → List ByteArray} {k : Int} {t : ByteArray} {ts : List ByteArray} (h : OwnX x w0 w p n T []) (ht : T k = t :: ts) (hn : n ≤ 1000000) (hl : ts.length ≤ 1000000) :
    Calls Try.prog 11 #[.pointer (some ⟨p, 0, none⟩), .int .i64 k] w fun e w' => e = .returned (.tuple #[.string t, .int .i64 0]) ∧ OwnX x w0 w' p (n + 1) (upd T k ts) [] ∧ w'.heap[x]? = w.heap[x]? := by
  have hk := empty_at h.own k (by rw [ht]; simp)
  cases ts with
  | nil => exact (pick_last hk.1 hk.2 ht h.at_).mono fun e w' ⟨he, hl, hf⟩ => ⟨he, (h.step (hl.more (Nat.le_succ _)) hf).1, (h.step (hl.more (Nat.le_succ _)) hf).2⟩
  | cons u ts => exact (pick_more hk.1 hk.2 hn (by rw [List.length_cons] at hl; omega) ht h.at_).mono fun e w' ⟨he, hl, hf⟩ => ⟨he, (h.step hl hf).1, (h.step hl hf).2⟩
/-! ### tasks by their numbers -/
def str (i : Nat) : ByteArray := strOfNums [(i : Int)]
def tasks (Q : Int → List Nat) : Int → List ByteArray := fun k => (Q k).map str
def updQ (Q : Int → List Nat) (k : Int) (l : List Nat) : Int → List Nat := fun j => if j = k then l else Q j
theorem tasks_upd (Q : Int → List Nat) (k : Int) (l : List Nat) : upd (tasks Q) k (l.map str) = tasks (updQ Q k l) := by
  funext j
  unfold upd tasks updQ
  split <;> rfl
theorem str_size (i : Nat) : (str i).size = 1 := rfl
theorem str_index {i : Nat} (h : i < 256) (W : World) : (Instr.index 9 (.string (str i)) (.int .i64 0)).run Try.prog W = .ok (.int .u8 (i : Int)) W := by
  have h1 : (UInt8.ofNat i).toNat = i := by rw [UInt8.toNat_ofNat']; omega
  have h2 : ((⟨#[UInt8.ofNat i]⟩ : ByteArray)[(0 : Int).toNat]?) = some (UInt8.ofNat i) := rfl
  simp [Instr.index, str, strOfNums, run_underlying Try.underlying9, go_sem]
  show (((UInt8.ofNat i).toNat : Nat) : Int) = i
  rw [h1]
/-- The numbers of source k's tasks that are still there, below n. -/
structure Posted (l : List Int) (n : Nat) (lst : List Int) (Q : Int → List Nat) : Prop where
  up : ∀ k, (Q k).Pairwise (· < ·)
  is : ∀ k, ∀ i ∈ Q k, i < n ∧ l.getD i 0 % 8 = k
  last : ∀ k : Int, ∀ i ∈ Q k, lst.getD k.toNat 0 ≤ (i : Int)
theorem updQ_self (Q : Int → List Nat) (k : Int) (l : List Nat) : updQ Q k l k = l := if_pos rfl
theorem updQ_ne {Q : Int → List Nat} {k j : Int} {l : List Nat} (h : j ≠ k) : updQ Q k l j = Q j := if_neg h
theorem posted_start (l : List Int) : Posted l 0 (List.replicate 8 0) (fun _ => []) := ⟨fun k => List.Pairwise.nil, fun k i hi => by simp at hi, fun k i hi => by simp at hi⟩
theorem getD_zero (k : Nat) : (List.replicate 8 (0 : Int)).getD k 0 = 0 := by
  rw [List.getD_eq_getElem?_getD, List.getElem?_replicate]
  split <;> rfl
theorem posted_step {l : List Int} {n : Nat} {Q : Int → List Nat} {k : Int} (h : Posted l n (List.replicate 8 0) Q) (hk : l.getD n 0 % 8 = k) : Posted l (n + 1) (List.replicate 8 0) (updQ Q k (Q k ++ [n])) := by
  refine ⟨fun j => ?_, fun j i hi => ?_, fun j i hi => by rw [getD_zero]; omega⟩
  · by_cases e : j = k
    · subst e
      rw [updQ_self, List.pairwise_append]
      refine ⟨h.up j, List.pairwise_singleton _ _, fun a ha b hb => ?_⟩
      rw [List.mem_singleton] at hb
      have := (h.is j a ha).1
      omega
    · rw [updQ_ne e]; exact h.up j
  · by_cases e : j = k
    · subst e
      rw [updQ_self, List.mem_append, List.mem_singleton] at hi
      rcases hi with hi | hi
      · have := h.is j i hi; exact ⟨by omega, this.2⟩
      · rw [hi]; exact ⟨by omega, hk⟩
    · rw [updQ_ne e] at hi
      have := h.is j i hi; exact ⟨by omega, this.2⟩
theorem posted_pick {l : List Int} {n : Nat} {lst : List Int} {Q : Int → List Nat} {kn i : Nat} {rest : List Nat} (h : Posted l n lst Q) (hq : Q (kn : Int) = i :: rest) (hlen : kn < lst.length) : Posted l n (lst.set kn ((i : Int) + 1)) (updQ Q kn rest) := by
  have hp := h.up kn
  rw [hq, List.pairwise_cons] at hp
  refine ⟨fun j => ?_, fun j a ha => ?_, fun j a ha => ?_⟩
  · by_cases e : j = kn
    · subst e; rw [updQ_self]; exact hp.2
    · rw [updQ_ne e]; exact h.up j
  · by_cases e : j = kn
    · subst e; rw [updQ_self] at ha; exact h.is kn a (by rw [hq]; exact List.mem_cons_of_mem _ ha)
    · rw [updQ_ne e] at ha; exact h.is j a ha
  · by_cases e : j = kn
    · subst e
      rw [updQ_self] at ha
      have := hp.1 a ha
      rw [Int.toNat_natCast, List.getD_eq_getElem?_getD, List.getElem?_set_self hlen]
      show (i : Int) + 1 ≤ a
      omega
    · rw [updQ_ne e] at ha
      have h1 := h.last j a ha
      have h2 := (h.is j a ha).2
      have h3 : j.toNat ≠ kn := by omega
      rw [List.getD_eq_getElem?_getD, List.getElem?_set_ne (by omega), ← List.getD_eq_getElem?_getD]
      exact h1
theorem tasks_len (Q : Int → List Nat) (k : Int) : (tasks Q k).length = (Q k).length := List.length_map _
end Go.Proofs.Ytldbplagenjooaa
