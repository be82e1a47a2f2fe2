/- What a call owns, in parts that lie apart: one part turns, the others stay. -/
import Derived.Test.YtldbplagenjooaaLoopOwn
import Derived.Test.YtldbplagenjooaaLoopCopy
namespace Go.Proofs.Ytldbplagenjooaa
set_option linter.unusedVariables false
set_option linter.unusedSimpArgs false
open Go.RowKit Go.Lib Go.Shelf Go.Maps Go.Proofs.YtldbplagenjooaaW.PrintWords Go.Proofs.YtldbplagenjooaaW.PrintLast

abbrev Res := World → (Nat → Prop) → Prop
structure IsRes (A : Res) : Prop where
  mono : ∀ {w ok ok'}, A w ok → (∀ j, ok j → ok' j) → A w ok'
  bound : ∀ {w ok}, A w ok → A w (fun j => ok j ∧ j < w.heap.size)
  move : ∀ {w w' ok}, A w ok → (∀ j, ok j → j < w.heap.size → w'.heap[j]? = w.heap[j]?) → A w' ok
def star (A B : Res) : Res := fun w ok => ∃ a b, A w a ∧ B w b ∧ (∀ j, a j → b j → False) ∧ (∀ j, a j → ok j) ∧ (∀ j, b j → ok j)
def emp : Res := fun _ _ => True
theorem isRes_emp : IsRes emp := ⟨fun _ _ => trivial, fun _ => trivial, fun _ _ => trivial⟩
theorem isRes_star {A B : Res} (hA : IsRes A) (hB : IsRes B) : IsRes (star A B) := by
  refine ⟨?_, ?_, ?_⟩
  · rintro w ok ok' ⟨a, b, h1, h2, h3, h4, h5⟩ hk
    exact ⟨a, b, h1, h2, h3, fun j hj => hk j (h4 j hj), fun j hj => hk j (h5 j hj)⟩
  · rintro w ok ⟨a, b, h1, h2, h3, h4, h5⟩
    exact ⟨_, _, hA.bound h1, hB.bound h2, fun j h6 h7 => h3 j h6.1 h7.1, fun j hj => ⟨h4 j hj.1, hj.2⟩, fun j hj => ⟨h5 j hj.1, hj.2⟩⟩
  · rintro w w' ok ⟨a, b, h1, h2, h3, h4, h5⟩ hm
    exact ⟨a, b, hA.move h1 (fun j hj hl => hm j (h4 j hj) hl), hB.move h2 (fun j hj hl => hm j (h5 j hj) hl), h3, h4, h5⟩
theorem star_comm {A B : Res} {w : World} {ok : Nat → Prop} (h : star A B w ok) : star B A w ok := by
  obtain ⟨a, b, h1, h2, h3, h4, h5⟩ := h
  exact ⟨b, a, h2, h1, fun j x y => h3 j y x, h5, h4⟩
theorem star_left {A B C : Res} {w : World} {ok : Nat → Prop} (h : star A (star B C) w ok) : star B (star A C) w ok := by
  obtain ⟨a, bc, h1, ⟨b, c, h6, h7, h8, h9, h10⟩, h3, h4, h5⟩ := h
  exact ⟨b, fun j => a j ∨ c j, h6, ⟨a, c, h1, h7, fun j x y => h3 j x (h10 j y), fun j => .inl, fun j => .inr⟩, fun j x y => y.elim (fun y => h3 j y (h9 j x)) (h8 j x), fun j hj => h5 j (h9 j hj), fun j hj => hj.elim (h4 j) (fun g => h5 j (h10 j g))⟩
/-- What the call owns since w0. -/
structure G (w0 : World) (A : Res) (w : World) : Prop where
  at_ : A w (fun j => w0.heap.size ≤ j)
  below : Below w0.heap.size w0 w
theorem G.map {w0 w : World} {A B : Res} (h : G w0 A w) (hm : ∀ ok, A w ok → B w ok) : G w0 B w := ⟨hm _ h.at_, h.below⟩
theorem G.comm {w0 w : World} {A B : Res} (h : G w0 (star A B) w) : G w0 (star B A) w := h.map (fun _ => star_comm)
theorem G.left {w0 w : World} {A B C : Res} (h : G w0 (star A (star B C)) w) : G w0 (star B (star A C)) w := h.map (fun _ => star_left)
theorem G.later {w0 w w' : World} {A : Res} (hA : IsRes A) (h : G w0 A w) (hb : Below w.heap.size w w') : G w0 A w' := ⟨hA.move h.at_ (fun j _ hj => hb.block j hj), h.below.trans (hb.mono h.below.size)⟩
theorem G.drop {w0 w : World} {A B : Res} (hB : IsRes B) (h : G w0 (star A B) w) : G w0 B w := by
  obtain ⟨⟨a, b, h1, h2, h3, h4, h5⟩, hb⟩ := h
  exact ⟨hB.mono h2 h5, hb⟩
theorem G.one {w0 w : World} {A B : Res} (hA : IsRes A) (h : G w0 (star A B) w) : G w0 A w := h.comm.drop hA
/-- The first part turns. -/
theorem G.step {w0 w : World} {A A' B : Res} {f : FuncId} {args : Array Value} {P : Program} {E : Ending → Prop} (hA : IsRes A) (hA' : IsRes A') (hB : IsRes B) (h : G w0 (star A B) w)
    (hc : ∀ ok, A w ok → Calls P f args w fun e w' => E e ∧ A' w' (Wider ok w) ∧ Frame ok w w') : Calls P f args w fun e w' => E e ∧ G w0 (star A' B) w' := by
  obtain ⟨⟨a, b, h1, h2, h3, h4, h5⟩, hb⟩ := h
  refine (hc _ (hA.bound h1)).mono ?_
  rintro e w' ⟨he, h6, h7⟩
  refine ⟨he, ⟨Wider (fun j => a j ∧ j < w.heap.size) w, fun j => b j ∧ j < w.heap.size, h6, hB.move (hB.bound h2) (fun j hj _ => h7.block j hj.2 (fun g => h3 j g.1 hj.1)), ?_, ?_, fun j hj => h5 j hj.1⟩, hb.trans (h7.below hb.size (fun j hj => h4 j hj.1))⟩
  · rintro j (g | g) g2
    · exact h3 j g.1 g2.1
    · omega
  · rintro j (g | g)
    · exact h4 j g.1
    · exact Nat.le_trans hb.size g
/-- Something new is made, beside what there is. -/
theorem G.make {w0 w : World} {A' B : Res} {f : FuncId} {args : Array Value} {P : Program} {E : Ending → Prop} (hA' : IsRes A') (hB : IsRes B) (h : G w0 B w)
    (hc : Calls P f args w fun e w' => E e ∧ A' w' (fun j => w.heap.size ≤ j) ∧ Below w.heap.size w w') : Calls P f args w fun e w' => E e ∧ G w0 (star A' B) w' := by
  refine hc.mono ?_
  rintro e w' ⟨he, h1, h2⟩
  refine ⟨he, ⟨fun j => w.heap.size ≤ j, fun j => w0.heap.size ≤ j ∧ j < w.heap.size, h1, hB.move (hB.bound h.at_) (fun j hj _ => h2.block j hj.2), fun j g g2 => by omega, fun j hj => Nat.le_trans h.below.size hj, fun j hj => hj.1⟩, h.below.trans (h2.mono h.below.size)⟩
/-- A part tells something; nothing turns. -/
theorem G.look {w0 w : World} {A B : Res} {f : FuncId} {args : Array Value} {P : Program} {R : Ending → World → Prop} (h : G w0 (star A B) w) (hc : ∀ ok, A w ok → Calls P f args w R) : Calls P f args w R := by
  obtain ⟨⟨a, b, h1, h2, h3, h4, h5⟩, hb⟩ := h
  exact hc a h1
def loopR (p n : Nat) (T : Int → List ByteArray) (S : List ByteArray) : Res := fun w ok => LoopAt w ok p n T S
theorem isRes_loop (p n : Nat) (T : Int → List ByteArray) (S : List ByteArray) : IsRes (loopR p n T S) := ⟨fun h hk => LoopAt.mono h hk, fun h => LoopAt.bound h, fun h hm => LoopAt.move h hm⟩
end Go.Proofs.Ytldbplagenjooaa
