/- loop.New, Small, Next: their contracts. -/
import Derived.Test.YtldbplagenjooaaLoop
import Derived.RegionTactic
namespace Go.Proofs.Ytldbplagenjooaa
set_option linter.unusedVariables false
set_option linter.unusedSimpArgs false
open Go.RowKit Go.Lib Go.Shelf Go.Maps Go.Proofs.YtldbplagenjooaaW.PrintWords

theorem keyLit (k : Int) : WideAt.IsKeyLit (key k) := trivial
theorem loop_new (w : World) : LoopAt ((w.alloc (.map #[] 0)).alloc (.cells #[.map (some w.heap.size), nilS] 52)) (fun j => w.heap.size ≤ j) (w.heap.size + 1) 0 (fun _ => []) [] := by
  refine ⟨w.heap.size, nilS, .map [], fun _ => nilS, ?_⟩
  refine ⟨Nat.le_succ _, Nat.le_refl _, ?_, ?_, fun k => atKey_of_not_has rfl _, fun k => rfl, fun k hk => absurd rfl hk, fun k => own_nil _ _ _ _, fun k j hj => by simp [Value.ownBlock] at hj, fun k k' _ j hj => by simp [Value.ownBlock] at hj, own_nil _ _ _ _, fun j hj => by simp [Value.ownBlock] at hj, fun k j hj => by simp [Value.ownBlock] at hj⟩
  · have := heap_alloc_new (w.alloc (.map #[] 0)) (.cells #[.map (some w.heap.size), nilS] 52)
    rw [show (w.alloc (.map #[] 0)).heap.size = w.heap.size + 1 by simp] at this
    exact this
  · exact (World.ownsMap_made w Try.prog 3 Rv).alloc _
set_option maxHeartbeats 1000000 in
theorem new_calls (w : World) : Calls Try.prog 8 #[] w fun e w' => ∃ p, e = .returned (.pointer (some ⟨p, 0, none⟩)) ∧ LoopAt w' (fun j => w.heap.size ≤ j) p 0 (fun _ => []) [] ∧ Below w.heap.size w w' := by
  have hmm := @run_makeMap Try.prog
  have HL := hid (loop_new w)
  go_enter Try.func8, Try.ntmps8
  go_wp2
  go_ret
  exact ⟨_, rfl, HL.out, ((Below.refl _ w).alloc (Nat.le_refl _) _).alloc (by simp) _⟩

theorem set_block {w : World} {p : Nat} {cs : Array Value} {t : TypeId} (h : w.heap[p]? = some (.cells cs t (0, 0))) (i : Nat) (u : Value) : ∀ j, j ≠ p → (w.setCell ⟨p, i, none⟩ u).heap[j]? = w.heap[j]? := fun j hj => Below.heap_setCell w ⟨p, i, none⟩ u j hj
/-- The small ones are a new row: in a world that has turned in their block alone. -/
theorem small_stored {w w2 : World} {ok : Nat → Prop} {p n b : Nat} {A : Option Addr} {m c : Nat} {D : DataW Value} {fn : Int → Value} {T : Int → List ByteArray} {S S' : List ByteArray} {v' : Value}
    (h : LoopIs w ok p n b (.slice A m c) D fn T S) (hf : Frame (fun j => some j = (Value.slice A m c).ownBlock) w w2) (hr : w2.ownsRow 0 9 1 v' S'.length (encS S')) (hat : ∀ j, v'.ownBlock = some j → some j = (Value.slice A m c).ownBlock ∨ w.heap.size ≤ j) :
    LoopAt (w2.setCell ⟨p, 1, none⟩ v') (Wider ok w) p n T S' ∧ Frame ok w (w2.setCell ⟨p, 1, none⟩ v') := by
  have hpl := blk_lt h.blk
  have hpS : ¬ (some p = (Value.slice A m c).ownBlock) := own_ne h.srow h.blk (by decide)
  have hbS : ¬ (some b = (Value.slice A m c).ownBlock) := fun e => by
    obtain ⟨cells, hc⟩ := own_typed h.srow b e.symm
    obtain ⟨es, clock, hb, _⟩ := h.map
    rw [hb] at hc
    cases hc
  have hbp : b ≠ p := fun e => by
    obtain ⟨es, clock, hb, _⟩ := h.map
    rw [e, h.blk] at hb
    cases hb
  have hp2 : w2.heap[p]? = some (.cells #[.map (some b), .slice A m c] 52 (0, 0)) := (hf.block p hpl hpS).trans h.blk
  have hpv : some p ≠ v'.ownBlock := own_ne hr hp2 (by decide)
  have old : ∀ j, j < w.heap.size → j ≠ p → ¬ (some j = (Value.slice A m c).ownBlock) → (w2.setCell ⟨p, 1, none⟩ v').heap[j]? = w.heap[j]? := fun j hj hjp hjs => (set_block hp2 1 v' j hjp).trans (hf.block j hj hjs)
  have fnp : ∀ k j, (fn k).ownBlock = some j → j ≠ p := fun k j hj e => by
    subst e
    exact own_ne (h.row k) h.blk (by decide) hj.symm
  refine ⟨⟨b, v', D, fn, ?_⟩, ⟨?_, ?_, ?_, ?_, ?_⟩⟩
  · refine ⟨.inl h.okp, .inl h.okb, blk_set hp2 1 v', map_move h.map (old b h.map.lt hbp hbS), h.at_, h.has, h.rng, fun k => own_move (h.row k) (fun j hj => old j (own_lt (h.row k) j hj) (fnp k j hj) (fun e => h.sap k j e.symm hj)), fun k j hj => .inl (h.rok k j hj), h.apart,
      own_move hr (fun j hj => set_block hp2 1 v' j (fun e => hpv (by rw [hj, e]))), fun j hj => (hat j hj).elim (fun e => .inl (h.sok j e.symm)) .inr, fun k j hj hk => (hat j hj).elim (fun e => h.sap k j e.symm hk) (fun e => by have := own_lt (h.row k) j hk; omega)⟩
  · exact hf.os
  · exact hf.tape
  · exact hf.output
  · simpa using hf.size
  · exact fun i hi hn => old i hi (fun e => hn (e ▸ h.okp)) (fun e => hn (h.sok i e.symm))
set_option maxHeartbeats 1000000 in
theorem small_calls {w : World} {ok : Nat → Prop} {p n : Nat} {T : Int → List ByteArray} {S : List ByteArray} (s : ByteArray) (hS : S.length ≤ 1000000) (h : LoopAt w ok p n T S) :
    Calls Try.prog 10 #[.pointer (some ⟨p, 0, none⟩), .string s] w fun e w' => e = .returned (.tuple #[]) ∧ LoopAt w' (Wider ok w) p n T (S ++ [s]) ∧ Frame ok w w' := by
  obtain ⟨b, vS, D, fn, h⟩ := h
  obtain ⟨A, c, rfl, hc⟩ := own_len h.srow
  obtain ⟨i0, hi, hz0, hz1, hz2⟩ := info_parts info_str
  have hpl := blk_lt h.blk
  have c1 : w.cell? ⟨p, 1, none⟩ = some (.slice A S.length c) := (blk_cell h.blk 1).trans rfl
  have hrow := h.srow.alloc (.cells #[.string s] 9)
  have key : ∀ v' w2, w2.ownsRow 0 9 1 v' (S.length + 1) (encS S ++ [.string s]) → (w.alloc (.cells #[.string s] 9)).grownBy w2 (Value.slice A S.length c).ownBlock → (v'.ownBlock = (Value.slice A S.length c).ownBlock ∨ v'.ownBlock = some (w.heap.size + 1)) →
      (w2.heap[p]? = some (.cells #[.map (some b), .slice A S.length c] 52 (0, 0))) ∧ LoopAt (w2.setCell ⟨p, 1, none⟩ v') (Wider ok w) p n T (S ++ [s]) ∧ Frame ok w (w2.setCell ⟨p, 1, none⟩ v') := by
    intro v' w2 hr hg hat
    have hf : Frame (fun j => some j = (Value.slice A S.length c).ownBlock) w w2 := ⟨hg.os, hg.tape, hg.output, Nat.le_trans (by simp) hg.size, fun i hi hn => (hg.block i (by simp; omega) (fun e => hn e)).trans (Below.heap_alloc w _ i hi)⟩
    refine ⟨(hf.block p hpl (own_ne h.srow h.blk (by decide))).trans h.blk, small_stored h hf (by rw [List.length_append, encS, List.map_append]; exact hr) (fun j hj => ?_)⟩
    rcases hat with e | e
    · exact .inl (by rw [← e, hj])
    · right
      rw [hj] at e
      have := Option.some.inj e
      omega
  have HK := hid key
  have HH := hid h
  clear key h
  go_enter Try.func10, Try.ntmps10
  go_wp2_with (at_builtin; refine wpList_append_own_at _ rfl _ _ 22 rfl 0 9 i0 (.string ByteArray.empty) 1 16 Try.underlying22 hi hz0 hz1 hz2 rfl (by decide) _ _ _ rfl hrow ⟨w.heap.size, 0, none⟩ 1 1 [.string s] rfl rfl ?c1 ?c2 ?c3 ?c4 ?c5 ?_)
  case c1 => exact cell_one_new _ _ _
  case c2 => intro u hu; simp at hu; subst hu; rfl
  case c3 => unfold maxLen; omega
  case c4 => omega
  case c5 => exact Nat.zero_le _
  intro v' w2 hr hg _ hat
  obtain ⟨A', c', rfl, _⟩ := own_len hr
  obtain ⟨hp2, hL, hF⟩ := HK.out _ w2 hr hg hat
  have c2 : w2.cell? ⟨p, 1, none⟩ = some (.slice A S.length c) := (blk_cell hp2 1).trans rfl
  have f2 : w2.frozen? ⟨p, 1, none⟩ = false := blk_frozen hp2 1
  have HL := hid hL
  have HF := hid hF
  clear hL hF hr hg hat
  go_wp2
  refine bodyPost_end (results_none rfl _ _ _) rfl ?_
  exact ⟨rfl, HL.out, HF.out⟩

theorem own_down {w : World} {base base' : Nat} {e : TypeId} {size n : Nat} {v : Value} {xs : List Value} (h : w.ownsRow base e size v n xs) (hb : base' ≤ base) : w.ownsRow base' e size v n xs := by
  obtain ⟨h0, h1⟩ := h
  refine ⟨h0, ?_⟩
  rcases h1 with h1 | ⟨g, cap, cur, hv, hg, h2⟩
  · exact .inl h1
  · exact .inr ⟨g, cap, cur, hv, Nat.le_trans hb hg, h2⟩
/-- slices.Clone of a list of texts, wherever it lies. -/
theorem clone_reads {A : Option Addr} {c : Nat} {xs : List ByteArray} {w : World} (h : ReadsOf Value.string ByteArray.empty w A xs.length xs) (hl : xs.length ≤ 1000000) :
    Calls Try.prog 24 #[.slice A xs.length c] w fun e w' => ∃ v, e = .returned v ∧ w'.ownsRow w.heap.size 9 1 v xs.length (encS xs) ∧ Below w.heap.size w w' := by
  rcases Nat.eq_zero_or_pos xs.length with h0 | h0
  · obtain rfl := List.eq_nil_of_length_eq_zero h0
    cases A with
    | none =>
      refine (Try.slices_Clone_string_nil 0 c w).mono ?_
      rintro e w1 ⟨rfl, rfl⟩
      exact ⟨_, rfl, own_nil _ _ _ _, Below.refl _ _⟩
    | some a =>
      refine (Try.slices_Clone_string_zero a c w).mono ?_
      rintro e w1 ⟨v', rfl, ho, _, hb⟩
      exact ⟨_, rfl, ho, hb⟩
  · obtain ⟨ad, rfl, hcell⟩ := h.2.2 h0
    obtain ⟨bk, of, sp⟩ := ad
    have hsp : sp = none := by
      have := hcell 0 h0
      cases sp with
      | none => rfl
      | some x =>
        simp [World.cell?, Addr.add] at this
        split at this <;> cases this
    subst hsp
    refine (Try.slices_Clone_string bk of xs.length c xs w (Nat.le_refl _) (by omega) (fun j hj => ?_)).mono ?_
    · have := hcell j hj
      unfold Addr.add at this
      split at this
      · rename_i hj0; subst hj0; simpa using this
      · exact this
    · rintro e w1 ⟨v', rfl, ho, _, hb⟩
      rw [List.take_length] at ho
      exact ⟨_, rfl, ho, hb⟩
theorem row_reads {w : World} {A : Option Addr} {m c : Nat} {xs : List ByteArray} (h : w.ownsRow 0 9 1 (.slice A m c) xs.length (encS xs)) : m = xs.length ∧ xs.length ≤ c ∧ ReadsOf Value.string ByteArray.empty w A xs.length xs := by
  obtain ⟨A', c', hv, hl, hr⟩ := own_reads_of_le (enc := Value.string) (d := ByteArray.empty) h
  cases hv
  exact ⟨rfl, hl, hr⟩
set_option maxHeartbeats 1000000 in
theorem next_none {w : World} {ok : Nat → Prop} {p n : Nat} {T : Int → List ByteArray} (h : LoopAt w ok p n T []) :
    Calls Try.prog 12 #[.pointer (some ⟨p, 0, none⟩)] w fun e w' => e = .returned (.tuple #[.string ⟨#[]⟩, .bool false]) ∧ w = w' := by
  obtain ⟨b, vS, D, fn, h⟩ := h
  obtain ⟨A, c, rfl, hc⟩ := own_len h.srow
  have c1 : w.cell? ⟨p, 1, none⟩ = some (.slice A 0 c) := (blk_cell h.blk 1).trans rfl
  clear h
  go_enter Try.func12, Try.ntmps12
  go_wp2
  go_ret2
  exact ⟨rfl, rfl⟩
set_option maxHeartbeats 1000000 in
theorem next_some {w : World} {ok : Nat → Prop} {p n : Nat} {T : Int → List ByteArray} {s : ByteArray} {S : List ByteArray} (hS : S.length ≤ 1000000) (h : LoopAt w ok p n T (s :: S)) :
    Calls Try.prog 12 #[.pointer (some ⟨p, 0, none⟩)] w fun e w' => e = .returned (.tuple #[.string s, .bool true]) ∧ LoopAt w' (Wider ok w) p n T S ∧ Frame ok w w' := by
  obtain ⟨b, vS, D, fn, h⟩ := h
  obtain ⟨A, c, rfl, hc⟩ := own_len h.srow
  have hrd := (row_reads h.srow).2.2
  have hlen : (s :: S).length = S.length + 1 := rfl
  obtain ⟨i0, hi, hz0, hz1, hz2⟩ := info_parts info_str
  obtain ⟨A', hcut, hrd', hle⟩ := print_drop_of (P := Try.prog) Value.string ByteArray.empty 22 9 .i64 Try.underlying22 hi hz1 A c (s :: S) 1 (by omega) (by simp; omega) hc
  have hA := hrd' w hrd
  have hdl : ((s :: S).drop (1 : Int).toNat).length = S.length := rfl
  have hd : (s :: S).drop (1 : Int).toNat = S := rfl
  rw [hd] at hA hcut hle
  have c1 : w.cell? ⟨p, 1, none⟩ = some (.slice A (S.length + 1) c) := (blk_cell h.blk 1).trans rfl
  obtain ⟨ad, rfl, hcell⟩ := hrd.2.2 (by simp)
  have c0 : w.cell? ad = some (.string s) := by
    have := hcell 0 (by simp)
    simpa [Addr.add] using this
  have hcl := clone_reads (c := c - 1) hA hS
  have key : Hid (Calls Try.prog 24 #[.slice A' S.length (c - 1)] w fun e w2 => ∃ A2 c2, e = .returned (.slice A2 S.length c2) ∧ w2.cell? ⟨p, 1, none⟩ = some (.slice (some ad) (S.length + 1) c) ∧ w2.frozen? ⟨p, 1, none⟩ = false ∧
      Hid (LoopAt (w2.setCell ⟨p, 1, none⟩ (.slice A2 S.length c2)) (Wider ok w) p n T S ∧ Frame ok w (w2.setCell ⟨p, 1, none⟩ (.slice A2 S.length c2)))) := by
    apply hid
    refine hcl.mono ?_
    rintro e w2 ⟨v, rfl, ho, hb⟩
    obtain ⟨A2, c2, rfl, _⟩ := own_len ho
    have hp2 : w2.heap[p]? = some (.cells #[.map (some b), .slice (some ad) (S.length + 1) c] 52 (0, 0)) := (hb.block p (blk_lt h.blk)).trans h.blk
    exact ⟨A2, c2, rfl, (blk_cell hp2 1).trans rfl, blk_frozen hp2 1, hid (small_stored h (Frame.of_below _ hb) (own_down ho (Nat.zero_le _)) (fun j hj => .inr (own_base ho j hj)))⟩
  have hcut' := hcut w
  have e1 : (s :: S).length = S.length + 1 := rfl
  rw [e1] at hcut'
  have hz : decide ((S.length : Int) + 1 = 0) = false := decide_eq_false (by omega)
  clear h hrd hrd' hA hcl hcell hcut hdl hd hlen e1 hle
  go_enter Try.func12, Try.ntmps12
  go_wp2_with (go_at_call 24; refine key.out.mono ?_; rintro e w2 ⟨A2, c2, rfl, d1, f1, HL⟩)
  go_ret2
  exact ⟨rfl, HL.out.1, HL.out.2⟩
end Go.Proofs.Ytldbplagenjooaa
