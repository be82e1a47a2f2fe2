/- A loop that a call has made itself: the contracts of its methods, in one word; boltinglaw18.fixed. -/
import Derived.Test.YtldbplagenjooaaLoopPost
namespace Go.Proofs.Ytldbplagenjooaa
set_option linter.unusedVariables false
set_option linter.unusedSimpArgs false
open Go.RowKit Go.Lib Go.Shelf Go.Maps Go.Proofs.YtldbplagenjooaaW.PrintWords Go.Proofs.YtldbplagenjooaaW.PrintLast

/-- Since w0 a loop has been made, and nothing that was there has turned. -/
structure Own (w0 w : World) (p n : Nat) (T : Int → List ByteArray) (S : List ByteArray) : Prop where
  at_ : LoopAt w (fun j => w0.heap.size ≤ j) p n T S
  below : Below w0.heap.size w0 w
theorem Own.step {w0 w w' : World} {p n n' : Nat} {T T' : Int → List ByteArray} {S S' : List ByteArray} (h : Own w0 w p n T S) (h' : LoopAt w' (Wider (fun j => w0.heap.size ≤ j) w) p n' T' S') (hf : Frame (fun j => w0.heap.size ≤ j) w w') : Own w0 w' p n' T' S' :=
  ⟨h'.mono (fun j hj => hj.elim id (fun g => Nat.le_trans h.below.size g)), h.below.trans (hf.below h.below.size (fun j hj => hj))⟩
theorem Own.later {w0 w w' : World} {p n : Nat} {T : Int → List ByteArray} {S : List ByteArray} (h : Own w0 w p n T S) (hb : Below w.heap.size w w') : Own w0 w' p n T S :=
  ⟨h.at_.below hb, h.below.trans (hb.mono h.below.size)⟩
theorem Own.more {w0 w : World} {p n n' : Nat} {T : Int → List ByteArray} {S : List ByteArray} (h : Own w0 w p n T S) (hn : n ≤ n') : Own w0 w p n' T S := ⟨h.at_.more hn, h.below⟩
theorem Own.drewN {w0 w : World} {p n : Nat} {T : Int → List ByteArray} {S : List ByteArray} (h : Own w0 w p n T S) (m : Nat) : Own w0 (w.drewN m) p n T S := h.later (pw_below_drewN (Below.refl _ _) m)
section
variable {w0 w : World} {p n : Nat} {T : Int → List ByteArray} {S : List ByteArray}
theorem o_new (w : World) : Calls Try.prog 8 #[] w fun e w' => ∃ p, e = .returned (.pointer (some ⟨p, 0, none⟩)) ∧ Own w w' p 0 (fun _ => []) [] := (new_calls w).mono fun e w' ⟨p, he, hl, hb⟩ => ⟨p, he, hl, hb⟩
theorem o_post (h : Own w0 w p n T S) {k : Int} (s : ByteArray) (h0 : 0 ≤ k) (h8 : k < 8) (hn : n ≤ 1000000) (hl1 : (T k).length ≤ 1000000) :
    Calls Try.prog 9 #[.pointer (some ⟨p, 0, none⟩), .int .i64 k, .string s] w fun e w' => e = .returned (.int .i64 0) ∧ Own w0 w' p (n + 1) (upd T k (T k ++ [s])) S :=
  (post_calls s h0 h8 hn hl1 h.at_).mono fun e w' ⟨he, hl, hf⟩ => ⟨he, h.step hl hf⟩
theorem o_small (h : Own w0 w p n T S) (s : ByteArray) (hS : S.length ≤ 1000000) :
    Calls Try.prog 10 #[.pointer (some ⟨p, 0, none⟩), .string s] w fun e w' => e = .returned (.tuple #[]) ∧ Own w0 w' p n T (S ++ [s]) :=
  (small_calls s hS h.at_).mono fun e w' ⟨he, hl, hf⟩ => ⟨he, h.step hl hf⟩
theorem o_next {s : ByteArray} (h : Own w0 w p n T (s :: S)) (hS : S.length ≤ 1000000) :
    Calls Try.prog 12 #[.pointer (some ⟨p, 0, none⟩)] w fun e w' => e = .returned (.tuple #[.string s, .bool true]) ∧ Own w0 w' p n T S :=
  (next_some hS h.at_).mono fun e w' ⟨he, hl, hf⟩ => ⟨he, h.step hl hf⟩
theorem o_next0 (h : Own w0 w p n T []) :
    Calls Try.prog 12 #[.pointer (some ⟨p, 0, none⟩)] w fun e w' => e = .returned (.tuple #[.string ⟨#[]⟩, .bool false]) ∧ w = w' := next_none h.at_
theorem o_pick0 (h : Own w0 w p n T S) {k : Int} (h0 : 0 ≤ k) (h8 : k < 8) (hS : S.length ≤ 1000000) (hn : S ≠ [] ∨ T k = []) :
    Calls Try.prog 11 #[.pointer (some ⟨p, 0, none⟩), .int .i64 k] w fun e w' => e = .returned (.tuple #[.string ⟨#[]⟩, .int .i64 180]) ∧ w = w' := pick_none h0 h8 hS hn h.at_
theorem o_pick {k : Int} {t : ByteArray} {ts : List ByteArray} (h : Own w0 w p n T []) (ht : T k = t :: ts) (hn : n ≤ 1000000) (hl : ts.length ≤ 1000000) :
    Calls Try.prog 11 #[.pointer (some ⟨p, 0, none⟩), .int .i64 k] w fun e w' => e = .returned (.tuple #[.string t, .int .i64 0]) ∧ Own w0 w' p (n + 1) (upd T k ts) [] := by
  have hk : 0 ≤ k ∧ k < 8 := Decidable.byContradiction fun g => by
    have := h.at_.empty k g
    rw [ht] at this
    cases this
  cases ts with
  | nil => exact (pick_last hk.1 hk.2 ht h.at_).mono fun e w' ⟨he, hl, hf⟩ => ⟨he, (h.step hl hf).more (Nat.le_succ _)⟩
  | cons u ts => exact (pick_more hk.1 hk.2 hn (by rw [List.length_cons] at hl; omega) ht h.at_).mono fun e w' ⟨he, hl, hf⟩ => ⟨he, h.step hl hf⟩
end
set_option maxHeartbeats 4000000 in
set_option maxRecDepth 100000 in
theorem fixed_calls (w : World) : Calls Try.prog 13 #[] w fun e w' => e = .returned (.bool true) ∧ Below w.heap.size w w' := by
  go_enter Try.func13, Try.ntmps13
  go_wp2_with fail
  refine (o_new _).mono ?_
  rintro e w1 ⟨p, rfl, h1⟩
  have H1 := hid h1
  clear h1
  go_wp2_with fail
  refine (o_post H1.out _ (by decide) (by decide) (by decide) (by decide)).mono ?_
  rintro e w2 ⟨rfl, h2⟩
  have H2 := hid h2
  clear h2 H1
  go_wp2_with fail
  refine (o_small H2.out _ (by decide)).mono ?_
  rintro e w3 ⟨rfl, h3⟩
  have H3 := hid h3
  clear h3 H2
  go_wp2_with fail
  refine (o_pick0 H3.out (by decide) (by decide) (by decide) (.inl (by simp))).mono ?_
  rintro e w4 ⟨rfl, rfl⟩
  go_wp2_with fail
  refine (o_next H3.out (by decide)).mono ?_
  rintro e w5 ⟨rfl, h5⟩
  have H5 := hid h5
  clear h5 H3
  go_wp2_with fail
  refine (o_pick H5.out (t := ⟨#[97]⟩) (ts := []) rfl (by decide) (by decide)).mono ?_
  rintro e w6 ⟨rfl, h6⟩
  have H6 := hid h6
  clear h6 H5
  go_wp2_with fail
  refine (o_pick0 H6.out (by decide) (by decide) (by decide) (.inr rfl)).mono ?_
  rintro e w7 ⟨rfl, rfl⟩
  go_wp2_with fail
  refine (o_next0 H6.out).mono ?_
  rintro e w8 ⟨rfl, rfl⟩
  go_wp2_with fail
  refine (post_bad _ p 8 _ (by decide)).mono ?_
  rintro e w9 ⟨rfl, rfl⟩
  go_wp2_with fail
  refine (pick_bad _ p (-1) (by decide)).mono ?_
  rintro e w10 ⟨rfl, rfl⟩
  go_wp2
  go_ret
  exact ⟨rfl, H6.out.below⟩
end Go.Proofs.Ytldbplagenjooaa
