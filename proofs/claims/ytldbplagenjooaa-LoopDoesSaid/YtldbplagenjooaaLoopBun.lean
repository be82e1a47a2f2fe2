/- What LoopDoes holds: an operation, the loop, the document's loop; each apart from the others. -/
import Derived.Test.YtldbplagenjooaaLoopMatch
namespace Go.Proofs.Ytldbplagenjooaa
set_option linter.unusedVariables false
set_option linter.unusedSimpArgs false
open Go.RowKit Go.Lib Go.Shelf Go.Maps Go.Proofs.YtldbplagenjooaaW.PrintWords Go.Proofs.YtldbplagenjooaaW.PrintLast

def boxR (g : Nat) (cs : Array Value) : Res := fun w ok => ok g ∧ w.heap[g]? = some (.cells cs 45 (0, 0))
theorem isRes_box (g : Nat) (cs : Array Value) : IsRes (boxR g cs) := ⟨fun h hk => ⟨hk _ h.1, h.2⟩, fun h => ⟨⟨h.1, blk_lt h.2⟩, h.2⟩, fun h hm => ⟨h.1, (hm g h.1 (blk_lt h.2)).trans h.2⟩⟩
theorem star_map {A B C : Res} {w : World} {ok : Nat → Prop} (h : star A B w ok) (hm : ∀ ok, B w ok → C w ok) : star A C w ok := by
  obtain ⟨a, b, h1, h2, h3⟩ := h
  exact ⟨a, b, h1, hm _ h2, h3⟩
theorem star_right {A B C : Res} {w : World} {ok : Nat → Prop} (h : star A (star B C) w ok) : star A (star C B) w ok := star_map h (fun _ => star_comm)
theorem star_out {A B C : Res} {w : World} {ok : Nat → Prop} (h : star A (star B C) w ok) : star C (star A B) w ok := star_left (star_right h)
theorem star_in {A B C : Res} {w : World} {ok : Nat → Prop} (h : star C (star A B) w ok) : star A (star B C) w ok := star_right (star_left h)
theorem star_swap {A B C D : Res} {w : World} {ok : Nat → Prop} (h : star A (star B (star C D)) w ok) : star C (star B (star A D)) w ok :=
  star_map (star_left (star_map h (fun _ => star_left))) (fun _ => star_left)
theorem G.made {w0 w w' : World} {A' B : Res} (hB : IsRes B) (h : G w0 B w) (h1 : A' w' (fun j => w.heap.size ≤ j)) (h2 : Below w.heap.size w w') : G w0 (star A' B) w' :=
  ⟨⟨fun j => w.heap.size ≤ j, fun j => w0.heap.size ≤ j ∧ j < w.heap.size, h1, hB.move (hB.bound h.at_) (fun j hj _ => h2.block j hj.2), fun j g g2 => by omega, fun j hj => Nat.le_trans h.below.size hj, fun j hj => hj.1⟩, h.below.trans (h2.mono h.below.size)⟩
abbrev pairR (p n : Nat) (T : Int → List ByteArray) (S : List ByteArray) (q : Nat) (L : List Tk) (S' : List ByteArray) : Res := star (loopR p n T S) (refR q L S')
theorem isRes_pair (p n : Nat) (T : Int → List ByteArray) (S : List ByteArray) (q : Nat) (L : List Tk) (S' : List ByteArray) : IsRes (pairR p n T S q L S') := isRes_star (isRes_loop _ _ _ _) (isRes_ref _ _ _)
abbrev Bun (w0 w : World) (g : Nat) (cs : Array Value) (p n : Nat) (T : Int → List ByteArray) (S : List ByteArray) (q : Nat) (L : List Tk) (S' : List ByteArray) : Prop := G w0 (star (boxR g cs) (pairR p n T S q L S')) w
section
variable {w0 w w' : World} {g : Nat} {cs : Array Value} {p n n' : Nat} {T T' : Int → List ByteArray} {S S1 S' S1' : List ByteArray} {q : Nat} {L L' : List Tk} {f : FuncId} {args : Array Value} {P : Program} {E : Ending → Prop} {R : Ending → World → Prop}
theorem Bun.isRes : IsRes (star (boxR g cs) (pairR p n T S q L S')) := isRes_star (isRes_box _ _) (isRes_pair _ _ _ _ _ _ _)
theorem b_loop (h : Bun w0 w g cs p n T S q L S') (hc : ∀ ok, LoopAt w ok p n T S → Calls P f args w fun e w' => E e ∧ LoopAt w' (Wider ok w) p n' T' S1 ∧ Frame ok w w') : Calls P f args w fun e w' => E e ∧ Bun w0 w' g cs p n' T' S1 q L S' :=
  (G.step (isRes_loop p n T S) (isRes_loop p n' T' S1) (isRes_star (isRes_box g cs) (isRes_ref q L S')) (h.map fun _ => star_left) hc).mono fun e w' ⟨h1, h2⟩ => ⟨h1, h2.map fun _ => star_left⟩
theorem b_ref (h : Bun w0 w g cs p n T S q L S') (hc : ∀ ok, refR q L S' w ok → Calls P f args w fun e w' => E e ∧ refR q L' S1' w' (Wider ok w) ∧ Frame ok w w') : Calls P f args w fun e w' => E e ∧ Bun w0 w' g cs p n T S q L' S1' :=
  (G.step (isRes_ref q L S') (isRes_ref q L' S1') (isRes_star (isRes_box g cs) (isRes_loop p n T S)) (h.map fun _ => star_out) hc).mono fun e w' ⟨h1, h2⟩ => ⟨h1, h2.map fun _ => star_in⟩
theorem b_look (h : Bun w0 w g cs p n T S q L S') (hc : ∀ ok, LoopAt w ok p n T S → Calls P f args w R) : Calls P f args w R := G.look (A := loopR p n T S) (h.map fun _ => star_left) hc
theorem b_look_ref (h : Bun w0 w g cs p n T S q L S') (hc : ∀ ok, refR q L S' w ok → Calls P f args w R) : Calls P f args w R := G.look (A := refR q L S') (h.map fun _ => star_out) hc
theorem Bun.box (h : Bun w0 w g cs p n T S q L S') : w.heap[g]? = some (.cells cs 45 (0, 0)) := by
  obtain ⟨⟨a, b, h1, _⟩, _⟩ := h
  exact h1.2
theorem Bun.ref_blk (h : Bun w0 w g cs p n T S q L S') : ∃ v1 v2, w.heap[q]? = some (.cells #[v1, v2] 48 (0, 0)) ∧ (∃ A c, v1 = .slice A L.length c) ∧ ∃ A c, v2 = .slice A S'.length c := by
  obtain ⟨⟨a, b, _, ⟨_, _, _, ⟨v1, v2, hr⟩, _⟩, _⟩, _⟩ := h
  obtain ⟨A, c, e, _⟩ := own_len hr.row1
  obtain ⟨A2, c2, e2, _⟩ := own_len hr.row2
  exact ⟨v1, v2, hr.blk, ⟨A, c, e⟩, A2, c2, e2⟩
theorem Bun.later (h : Bun w0 w g cs p n T S q L S') (hb : Below w.heap.size w w') : Bun w0 w' g cs p n T S q L S' := G.later Bun.isRes h hb
theorem Bun.empty (h : Bun w0 w g cs p n T S q L S') (k : Int) (hk : ¬ (0 ≤ k ∧ k < 8)) : T k = [] := by
  obtain ⟨⟨a, b, _, ⟨_, _, hl, _⟩, _⟩, _⟩ := h
  exact hl.empty k hk
/-- A pick that takes a task. -/
theorem b_pick {k : Int} {t : ByteArray} {ts : List ByteArray} (h : Bun w0 w g cs p n T [] q L S') (ht : T k = t :: ts) (hn : n ≤ 1000000) (hl : ts.length ≤ 1000000) :
    Calls Try.prog 11 #[.pointer (some ⟨p, 0, none⟩), .int .i64 k] w fun e w' => e = .returned (.tuple #[.string t, .int .i64 0]) ∧ Bun w0 w' g cs p (n + 1) (upd T k ts) [] q L S' := by
  have hk : 0 ≤ k ∧ k < 8 := Decidable.byContradiction fun g => by
    have := h.empty k g
    rw [ht] at this
    cases this
  refine b_loop h (fun ok hlp => ?_)
  cases ts with
  | nil => exact (pick_last hk.1 hk.2 ht hlp).mono fun e w' ⟨he, h1, hf⟩ => ⟨he, h1.more (Nat.le_succ _), hf⟩
  | cons u ts => exact pick_more hk.1 hk.2 hn (by rw [List.length_cons] at hl; omega) ht hlp
/-- The document's pick. -/
theorem b_rpick0 {k : Int} (h : Bun w0 w g cs p n T S q L S') (h0 : 0 ≤ k) (h8 : k < 8) (hL : L.length ≤ 1000000) (hS : S'.length ≤ 1000000) (hn : S' ≠ [] ∨ (pst k L).1 = false) :
    Calls Try.prog 20 #[.pointer (some ⟨q, 0, none⟩), .int .i64 k] w fun e w' => e = .returned (.tuple #[.string ⟨#[]⟩, .int .i64 180]) ∧ Bun w0 w' g cs p n T S q L S' := by
  refine b_look_ref h (fun ok hr => (r_pick h0 h8 hL hS hr).mono fun e w' hp => ?_)
  rcases hp with ⟨_, he, hb⟩ | ⟨h1, h2, _⟩
  · exact ⟨he, h.later hb⟩
  · rcases hn with g | g
    · exact absurd h1 g
    · rw [h2] at g; cases g
theorem b_rpick {k : Int} (h : Bun w0 w g cs p n T S q L []) (h0 : 0 ≤ k) (h8 : k < 8) (hL : L.length ≤ 1000000) (hn : (pst k L).1 = true) :
    Calls Try.prog 20 #[.pointer (some ⟨q, 0, none⟩), .int .i64 k] w fun e w' => e = .returned (.tuple #[.string (pst k L).2.1, .int .i64 0]) ∧ Bun w0 w' g cs p n T S q (pst k L).2.2 [] := by
  refine b_ref h (fun ok hr => (r_pick h0 h8 hL (by simp) hr).mono fun e w' hp => ?_)
  rcases hp with ⟨h1, _⟩ | ⟨_, _, he, h3, h4⟩
  · rcases h1 with g | g
    · exact absurd rfl g
    · rw [hn] at g; cases g
  · exact ⟨he, h3, h4⟩
/-- A copy, beside all that there is. -/
theorem b_copy (h : Bun w0 w g cs p n T S q L S') (hn : n ≤ 1000000) (hT : ∀ k, (T k).length ≤ 1000000) (hS : S.length ≤ 1000000) :
    Calls Try.prog 14 #[.pointer (some ⟨p, 0, none⟩)] w fun e w' => ∃ c, e = .returned (.pointer (some ⟨c, 0, none⟩)) ∧ G w0 (star (loopR p n T S) (star (boxR g cs) (pairR c n T S q L S'))) w' :=
  (b_look h (fun ok hl => copy_calls hn hT hS hl)).mono fun e w' ⟨c, he, h1, h2⟩ => ⟨c, he, (G.made (A' := loopR c n T S) Bun.isRes h h1 h2).map fun _ => star_swap⟩
theorem b_old {B : Res} (hB : IsRes B) (h : G w0 (star (loopR p n T S) B) w) (hc : ∀ ok, LoopAt w ok p n T S → Calls P f args w fun e w' => E e ∧ LoopAt w' (Wider ok w) p n' T' S1 ∧ Frame ok w w') : Calls P f args w fun e w' => E e ∧ G w0 (star (loopR p n' T' S1) B) w' :=
  G.step (isRes_loop p n T S) (isRes_loop p n' T' S1) hB h hc
end
end Go.Proofs.Ytldbplagenjooaa
