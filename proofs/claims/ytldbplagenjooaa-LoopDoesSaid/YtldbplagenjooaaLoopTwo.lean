/- Two loops beside one another: what is done to the one leaves the other. -/
import Derived.Test.YtldbplagenjooaaLoopOwn
import Derived.Test.YtldbplagenjooaaLoopCopy
namespace Go.Proofs.Ytldbplagenjooaa
set_option linter.unusedVariables false
set_option linter.unusedSimpArgs false
open Go.RowKit Go.Lib Go.Shelf Go.Maps Go.Proofs.YtldbplagenjooaaW.PrintWords Go.Proofs.YtldbplagenjooaaW.PrintLast

structure TwoOf (okl okc : Nat → Prop) (w0 w : World) (p n : Nat) (T : Int → List ByteArray) (S : List ByteArray) (q m : Nat) (U : Int → List ByteArray) (V : List ByteArray) : Prop where
  one : LoopAt w okl p n T S
  two : LoopAt w okc q m U V
  apart : ∀ j, okl j → okc j → False
  base1 : ∀ j, okl j → w0.heap.size ≤ j ∧ j < w.heap.size
  base2 : ∀ j, okc j → w0.heap.size ≤ j ∧ j < w.heap.size
  below : Below w0.heap.size w0 w
def Two (w0 w : World) (p n : Nat) (T : Int → List ByteArray) (S : List ByteArray) (q m : Nat) (U : Int → List ByteArray) (V : List ByteArray) : Prop := ∃ okl okc, TwoOf okl okc w0 w p n T S q m U V
section
variable {w0 w w' : World} {p n n' q m : Nat} {T T' U : Int → List ByteArray} {S S' V : List ByteArray} {okl okc : Nat → Prop}
theorem Two.symm (h : Two w0 w p n T S q m U V) : Two w0 w q m U V p n T S := by
  obtain ⟨okl, okc, h⟩ := h
  exact ⟨okc, okl, ⟨h.two, h.one, fun j a b => h.apart j b a, h.base2, h.base1, h.below⟩⟩
theorem TwoOf.step (h : TwoOf okl okc w0 w p n T S q m U V) (h' : LoopAt w' (Wider okl w) p n' T' S') (hf : Frame okl w w') : Two w0 w' p n' T' S' q m U V := by
  have hs := h.below.size
  refine ⟨fun j => Wider okl w j ∧ j < w'.heap.size, okc, ⟨h'.bound, h.two.frame hf (fun j hj _ hl => h.apart j hl hj), ?_, ?_, ?_, h.below.trans (hf.below hs (fun j hj => (h.base1 j hj).1))⟩⟩
  · rintro j ⟨h1 | h1, _⟩ h2
    · exact h.apart j h1 h2
    · have := (h.base2 j h2).2; omega
  · rintro j ⟨h1 | h1, h2⟩
    · exact ⟨(h.base1 j h1).1, h2⟩
    · exact ⟨by omega, h2⟩
  · exact fun j hj => ⟨(h.base2 j hj).1, Nat.lt_of_lt_of_le (h.base2 j hj).2 hf.size⟩
theorem Two.later (h : Two w0 w p n T S q m U V) (hb : Below w.heap.size w w') : Two w0 w' p n T S q m U V := by
  obtain ⟨okl, okc, h⟩ := h
  exact ⟨okl, okc, ⟨h.one.below hb, h.two.below hb, h.apart, fun j hj => ⟨(h.base1 j hj).1, Nat.lt_of_lt_of_le (h.base1 j hj).2 hb.size⟩, fun j hj => ⟨(h.base2 j hj).1, Nat.lt_of_lt_of_le (h.base2 j hj).2 hb.size⟩, h.below.trans (hb.mono h.below.size)⟩⟩
theorem Two.below (h : Two w0 w p n T S q m U V) : Below w0.heap.size w0 w := by
  obtain ⟨okl, okc, h⟩ := h
  exact h.below
theorem Two.more (h : Two w0 w p n T S q m U V) (hn : n ≤ n') : Two w0 w p n' T S q m U V := by
  obtain ⟨okl, okc, h⟩ := h
  exact ⟨okl, okc, { h with one := h.one.more hn }⟩
theorem Two.empty (h : Two w0 w p n T S q m U V) (k : Int) (hk : ¬ (0 ≤ k ∧ k < 8)) : T k = [] := by
  obtain ⟨okl, okc, h⟩ := h
  exact h.one.empty k hk
/-- The second one alone. -/
theorem Two.own2 (h : Two w0 w p n T S q m U V) : Own w0 w q m U V := by
  obtain ⟨okl, okc, h⟩ := h
  exact ⟨h.two.mono (fun j hj => (h.base2 j hj).1), h.below⟩
/-- A copy. -/
theorem t_copy (h : Own w0 w p n T S) (hn : n ≤ 1000000) (hT : ∀ k, (T k).length ≤ 1000000) (hS : S.length ≤ 1000000) :
    Calls Try.prog 14 #[.pointer (some ⟨p, 0, none⟩)] w fun e w' => ∃ q, e = .returned (.pointer (some ⟨q, 0, none⟩)) ∧ Two w0 w' p n T S q n T S :=
  (copy_calls hn hT hS h.at_).mono fun e w' ⟨q, he, hl, hb⟩ => ⟨q, he, fun j => w0.heap.size ≤ j ∧ j < w.heap.size, fun j => w.heap.size ≤ j ∧ j < w'.heap.size, ⟨h.at_.bound.below hb, hl.bound, fun j h1 h2 => by omega, fun j hj => ⟨hj.1, Nat.lt_of_lt_of_le hj.2 hb.size⟩, fun j hj => ⟨Nat.le_trans h.below.size hj.1, hj.2⟩, h.below.trans (hb.mono h.below.size)⟩⟩
theorem t_post (h : Two w0 w p n T S q m U V) {k : Int} (s : ByteArray) (h0 : 0 ≤ k) (h8 : k < 8) (hn : n ≤ 1000000) (hl1 : (T k).length ≤ 1000000) :
    Calls Try.prog 9 #[.pointer (some ⟨p, 0, none⟩), .int .i64 k, .string s] w fun e w' => e = .returned (.int .i64 0) ∧ Two w0 w' p (n + 1) (upd T k (T k ++ [s])) S q m U V := by
  obtain ⟨okl, okc, h⟩ := h
  exact (post_calls s h0 h8 hn hl1 h.one).mono fun e w' ⟨he, hl, hf⟩ => ⟨he, h.step hl hf⟩
theorem t_small (h : Two w0 w p n T S q m U V) (s : ByteArray) (hS : S.length ≤ 1000000) :
    Calls Try.prog 10 #[.pointer (some ⟨p, 0, none⟩), .string s] w fun e w' => e = .returned (.tuple #[]) ∧ Two w0 w' p n T (S ++ [s]) q m U V := by
  obtain ⟨okl, okc, h⟩ := h
  exact (small_calls s hS h.one).mono fun e w' ⟨he, hl, hf⟩ => ⟨he, h.step hl hf⟩
theorem t_next {s : ByteArray} (h : Two w0 w p n T (s :: S) q m U V) (hS : S.length ≤ 1000000) :
    Calls Try.prog 12 #[.pointer (some ⟨p, 0, none⟩)] w fun e w' => e = .returned (.tuple #[.string s, .bool true]) ∧ Two w0 w' p n T S q m U V := by
  obtain ⟨okl, okc, h⟩ := h
  exact (next_some hS h.one).mono fun e w' ⟨he, hl, hf⟩ => ⟨he, h.step hl hf⟩
theorem t_next0 (h : Two w0 w p n T [] q m U V) :
    Calls Try.prog 12 #[.pointer (some ⟨p, 0, none⟩)] w fun e w' => e = .returned (.tuple #[.string ⟨#[]⟩, .bool false]) ∧ w = w' := by
  obtain ⟨okl, okc, h⟩ := h
  exact next_none h.one
theorem t_pick0 (h : Two w0 w p n T S q m U V) {k : Int} (h0 : 0 ≤ k) (h8 : k < 8) (hS : S.length ≤ 1000000) (hn : S ≠ [] ∨ T k = []) :
    Calls Try.prog 11 #[.pointer (some ⟨p, 0, none⟩), .int .i64 k] w fun e w' => e = .returned (.tuple #[.string ⟨#[]⟩, .int .i64 180]) ∧ w = w' := by
  obtain ⟨okl, okc, h⟩ := h
  exact pick_none h0 h8 hS hn h.one
theorem t_pick {k : Int} {t : ByteArray} {ts : List ByteArray} (h : Two w0 w p n T [] q m U V) (ht : T k = t :: ts) (hn : n ≤ 1000000) (hl : ts.length ≤ 1000000) :
    Calls Try.prog 11 #[.pointer (some ⟨p, 0, none⟩), .int .i64 k] w fun e w' => e = .returned (.tuple #[.string t, .int .i64 0]) ∧ Two w0 w' p (n + 1) (upd T k ts) [] q m U V := by
  have hk : 0 ≤ k ∧ k < 8 := Decidable.byContradiction fun g => by
    have := h.empty k g
    rw [ht] at this
    cases this
  obtain ⟨okl, okc, h⟩ := h
  cases ts with
  | nil => exact (pick_last hk.1 hk.2 ht h.one).mono fun e w' ⟨he, hl, hf⟩ => ⟨he, (h.step hl hf).more (Nat.le_succ _)⟩
  | cons u ts => exact (pick_more hk.1 hk.2 hn (by rw [List.length_cons] at hl; omega) ht h.one).mono fun e w' ⟨he, hl, hf⟩ => ⟨he, h.step hl hf⟩
theorem t_waits (h : Two w0 w p n T S q m U V) (hT : ∀ k, (T k).length ≤ 1000000) :
    Calls Try.prog 15 #[.pointer (some ⟨p, 0, none⟩)] w fun e w' => e = .returned (.tuple #[.int .i64 (sumT T), .int .i64 S.length]) ∧ Two w0 w' p n T S q m U V := by
  obtain ⟨okl, okc, h⟩ := h
  exact (waits_calls hT h.one).mono fun e w' ⟨he, hb⟩ => ⟨he, Two.later ⟨okl, okc, h⟩ hb⟩
end
/-! ### how many tasks there are -/
theorem sumT_upd (T : Int → List ByteArray) (k : Int) (l : List ByteArray) (h0 : 0 ≤ k) (h8 : k < 8) : sumT (upd T k l) + (T k).length = sumT T + l.length := by
  have hs : k = 0 ∨ k = 1 ∨ k = 2 ∨ k = 3 ∨ k = 4 ∨ k = 5 ∨ k = 6 ∨ k = 7 := by omega
  unfold sumT upd
  rcases hs with rfl | rfl | rfl | rfl | rfl | rfl | rfl | rfl <;> simp <;> omega
theorem sumT_nil {T : Int → List ByteArray} (h : ∀ k, 0 ≤ k → k < 8 → T k = []) : sumT T = 0 := by
  unfold sumT
  simp [h 0 (by decide) (by decide), h 1 (by decide) (by decide), h 2 (by decide) (by decide), h 3 (by decide) (by decide), h 4 (by decide) (by decide), h 5 (by decide) (by decide), h 6 (by decide) (by decide), h 7 (by decide) (by decide)]
theorem le_sumT (T : Int → List ByteArray) {k : Int} (h0 : 0 ≤ k) (h8 : k < 8) : (T k).length ≤ sumT T := by
  have := sumT_upd T k [] h0 h8
  simp at this
  omega
end Go.Proofs.Ytldbplagenjooaa
