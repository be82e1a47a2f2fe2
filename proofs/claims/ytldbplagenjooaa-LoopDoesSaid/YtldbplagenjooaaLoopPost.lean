/- loop.Post: its contracts. -/
import Derived.Test.YtldbplagenjooaaLoopPick
namespace Go.Proofs.Ytldbplagenjooaa
set_option linter.unusedVariables false
set_option linter.unusedSimpArgs false
open Go.RowKit Go.Lib Go.Shelf Go.Maps Go.Proofs.YtldbplagenjooaaW.PrintWords Go.Proofs.YtldbplagenjooaaW.PrintLast

theorem append_run {P : Program} {a : Act} {oi : Oper} {w w2 : World} {v u v' : Value} (s x : Operand) (t : TypeId) (ho : oi.op = .call { callee := .builtin .append, args := #[s, x], argTypes := #[t, t] }) (hs : a.eval s = v) (hx : a.eval x = u)
    (hrun : (Builtin.append_ #[t, t] oi.type #[v, u]).run P w = .ok v' w2) : (execOp a.eval oi).run P w = .ok (.value v') w2 := by
  unfold execOp
  simp only [ho, resolve, invoke, builtin, Sem.run_bind, Sem.run_pure, Result.andThen_ok, List.map_toArray, List.map_cons, List.map_nil, hs, hx, hrun]
set_option maxHeartbeats 1000000 in
theorem post_bad (w : World) (p : Nat) (k : Int) (s : ByteArray) (hk : ¬ (0 ≤ k ∧ k < 8)) :
    Calls Try.prog 9 #[.pointer (some ⟨p, 0, none⟩), .int .i64 k, .string s] w fun e w' => e = .returned (.int .i64 1) ∧ w = w' := by
  by_cases h0 : k < 0
  · have h1 : decide (k < 0) = true := decide_eq_true h0
    clear hk
    go_enter Try.func9, Try.ntmps9
    go_wp2
    go_ret
    exact ⟨rfl, rfl⟩
  · have h1 : decide (k < 0) = false := decide_eq_false h0
    have h2 : decide (8 ≤ k) = true := decide_eq_true (by omega)
    clear hk
    go_enter Try.func9, Try.ntmps9
    go_wp2
    go_ret
    exact ⟨rfl, rfl⟩
set_option maxHeartbeats 4000000 in
theorem post_calls {w : World} {ok : Nat → Prop} {p n : Nat} {T : Int → List ByteArray} {S : List ByteArray} {k : Int} (s : ByteArray) (h0 : 0 ≤ k) (h8 : k < 8) (hn : n ≤ 1000000) (hl1 : (T k).length ≤ 1000000) (h : LoopAt w ok p n T S) :
    Calls Try.prog 9 #[.pointer (some ⟨p, 0, none⟩), .int .i64 k, .string s] w fun e w' => e = .returned (.int .i64 0) ∧ LoopAt w' (Wider ok w) p (n + 1) (upd T k (T k ++ [s])) S ∧ Frame ok w w' := by
  have mixed : Try.prog.follows Departure.mixedOrders = true := by kernel_rfl
  obtain ⟨b, vS, D, fn, h⟩ := h
  obtain ⟨i0, hi, hz0, hz1, hz2⟩ := info_parts info_str
  obtain ⟨A, c, hf, hc⟩ := own_len (h.row k)
  have hlook : Hid (∀ w' : World, w'.ownsMap Try.prog 3 Rv b n D → (Instr.lookup 50 (.map (some b)) (.int .i64 k) false).run Try.prog w' = .ok (.slice A (T k).length c) w') := by
    apply hid
    intro w' hm
    have := look_at hm h.at_ (wf_small h0 h8)
    rw [hf] at this
    exact this
  have hr := h.row k
  rw [hf] at hr
  have hkey := keyOf_int_mk Try.underlying3 (wf_small h0 h8)
  have c0 : w.cell? ⟨p, 0, none⟩ = some (.map (some b)) := (blk_cell h.blk 0).trans rfl
  have h1 : decide (k < 0) = false := decide_eq_false (by omega)
  have h2 : decide (8 ≤ k) = false := decide_eq_false (by omega)
  have HM0 := hid h.map
  have HOW : Hid ((w.drew.alloc (.cells #[.string s] 9)).ownsRow 0 9 1 (.slice A (T k).length c) (T k).length (encS (T k))) := hid (hr.alloc (.cells #[.string s] 9))
  have stay : Hid (∀ w2 v', w2.ownsRow 0 9 1 v' ((T k).length + 1) (encS (T k) ++ [.string s]) → (w.drew.alloc (.cells #[.string s] 9)).grownBy w2 (Value.slice A (T k).length c).ownBlock → w2.cell? ⟨p, 0, none⟩ = some (.map (some b)) ∧ w2.ownsMap Try.prog 3 Rv b n D) := by
    apply hid
    intro w2 v' ho hg
    have hpl := blk_lt h.blk
    have hbl := h.map.lt
    have e1 : w2.heap[p]? = some (.cells #[.map (some b), vS] 52 (0, 0)) := (hg.block p (by simp; omega) (own_ne hr h.blk (by decide))).trans ((Below.heap_alloc w.drew _ p hpl).trans h.blk)
    exact ⟨(blk_cell e1 0).trans rfl, map_move h.map ((hg.block b (by simp; omega) (fun e => own_map_ne h.map hr b e.symm rfl)).trans (Below.heap_alloc w.drew _ b hbl))⟩
  have key : Hid (∀ w2 v' w1, w2.ownsRow 0 9 1 v' ((T k).length + 1) (encS (T k) ++ [.string s]) → (w.drew.alloc (.cells #[.string s] 9)).grownBy w2 (Value.slice A (T k).length c).ownBlock → (v'.ownBlock = (Value.slice A (T k).length c).ownBlock ∨ v'.ownBlock = some (w.drew.alloc (.cells #[.string s] 9)).heap.size) →
      w1.ownsMap Try.prog 3 Rv b (n + 1) (D.put (key k) (.held v')) → w2.mapTurned w1 b → LoopAt w1 (Wider ok w) p (n + 1) (upd T k (T k ++ [s])) S ∧ Frame ok w w1) := by
    apply hid
    intro w2 v' w1 ho hg hat hm ht1
    have hbl := h.map.lt
    have hf1 : Frame (fun j => j = b ∨ some j = (fn k).ownBlock) w w2 := ⟨hg.os, hg.tape, hg.output, Nat.le_trans (by simp) hg.size, fun i hi hn => (hg.block i (by simp; omega) (fun e => hn (.inr (by rw [hf]; exact e)))).trans (Below.heap_alloc w.drew _ i hi)⟩
    have hF := hf1.trans (turned_frame ht1 _ (.inl (.inl rfl)))
    have hv : ∀ j, v'.ownBlock = some j → some j = (fn k).ownBlock ∨ w.heap.size ≤ j := fun j hj => by
      rcases hat with e | e
      · exact .inl (by rw [hf, ← e, hj])
      · right
        rw [hj] at e
        have := Option.some.inj e
        simp at this
        omega
    refine map_stored h hF hm (h.put_at k v') (h.put_has k v' (by simp)) (fun _ => ⟨h0, h8⟩) ?_ hv
    have e1 : encS (T k ++ [s]) = encS (T k) ++ [.string s] := by simp [encS]
    rw [List.length_append, e1]
    exact own_move ho (fun j hj => ht1.grown.block j (own_lt ho j hj) (fun e => by
      have e2 := Option.some.inj e
      subst e2
      rcases hv j hj with g | g
      · exact own_map_ne h.map (h.row k) j g.symm rfl
      · omega))
  clear hf h hr hc
  go_enter Try.func9, Try.ntmps9
  go_upto_region 3 with fail
  refine start_ (n := 15) (S := fun w' => w'.cell? ⟨p, 0, none⟩ = some (.map (some b)) ∧ w'.ownsMap Try.prog 3 Rv b n D) (ds := [14]) #[false, false, false, false, false, false, false, false, false, false, false, false, false, false, false] mixed rfl rfl ⟨c0, HM0.out⟩ (fun hHeld => ?_)
  refine pure_ (i := 0) (N := (some 13)) (v := ?_) (a' := ?_) #[true, false, false, false, false, false, false, false, false, false, false, false, false, false, false] rfl rfl (by kernel_rfl) (fun _ _ _ h => h) (Or.inl ⟨by rfl, ?_⟩) ?_ ?_
  rotate_left
  · intro w'
    go_simp
    first | done | with_reducible rfl | rfl
  rotate_left
  · simp only [Act.put, List.setIfInBounds_toArray, List.set_cons_zero, List.set_cons_succ]
    rfl
  refine pure_ (i := 1) (N := (some 14)) (v := ?_) (a' := ?_) #[true, true, false, false, false, false, false, false, false, false, false, false, false, false, false] rfl rfl (by kernel_rfl) (fun _ _ _ h => h) (Or.inl ⟨by rfl, ?_⟩) ?_ ?_
  rotate_left
  · intro w'
    go_simp
    first | done | with_reducible rfl | rfl
  rotate_left
  · simp only [Act.put, List.setIfInBounds_toArray, List.set_cons_zero, List.set_cons_succ]
    rfl
  refine pure_ (i := 2) (N := (some 15)) (v := ?_) (a' := ?_) #[true, true, true, false, false, false, false, false, false, false, false, false, false, false, false] rfl rfl (by kernel_rfl) (fun _ _ _ h => h) (Or.inl ⟨by rfl, ?_⟩) ?_ ?_
  rotate_left
  · intro w'
    go_simp
    first | done | with_reducible rfl | rfl
  rotate_left
  · simp only [Act.put, List.setIfInBounds_toArray, List.set_cons_zero, List.set_cons_succ]
    rfl
  refine take_ (i := 3) (N := (some 16)) (v := ?_) (a' := ?_) #[true, true, true, true, false, false, false, false, false, false, false, false, false, false, false] rfl rfl (by kernel_rfl) (fun _ _ _ h => h) (Or.inl ⟨by rfl, ?_⟩) hHeld ?_ ?_
  rotate_left
  · rintro w' ⟨s0, s1⟩
    go_simp
    first | done | with_reducible rfl | rfl
  rotate_left
  · simp only [Act.put, List.setIfInBounds_toArray, List.set_cons_zero, List.set_cons_succ]
    rfl
  refine pure_ (i := 4) (N := (some 17)) (v := ?_) (a' := ?_) #[true, true, true, true, true, false, false, false, false, false, false, false, false, false, false] rfl rfl (by kernel_rfl) (fun _ _ _ h => h) (Or.inl ⟨by rfl, ?_⟩) ?_ ?_
  rotate_left
  · intro w'
    go_simp
    first | done | with_reducible rfl | rfl
  rotate_left
  · simp only [Act.put, List.setIfInBounds_toArray, List.set_cons_zero, List.set_cons_succ]
    rfl
  refine pure_ (i := 5) (N := (some 18)) (v := ?_) (a' := ?_) #[true, true, true, true, true, true, false, false, false, false, false, false, false, false, false] rfl rfl (by kernel_rfl) (fun _ _ _ h => h) (Or.inl ⟨by rfl, ?_⟩) ?_ ?_
  rotate_left
  · intro w'
    go_simp
    first | done | with_reducible rfl | rfl
  rotate_left
  · simp only [Act.put, List.setIfInBounds_toArray, List.set_cons_zero, List.set_cons_succ]
    rfl
  refine pure_ (i := 6) (N := (some 19)) (v := ?_) (a' := ?_) #[true, true, true, true, true, true, true, false, false, false, false, false, false, false, false] rfl rfl (by kernel_rfl) (fun _ _ _ h => h) (Or.inl ⟨by rfl, ?_⟩) ?_ ?_
  rotate_left
  · intro w'
    go_simp
    first | done | with_reducible rfl | rfl
  rotate_left
  · simp only [Act.put, List.setIfInBounds_toArray, List.set_cons_zero, List.set_cons_succ]
    rfl
  refine pure_ (i := 7) (N := (some 20)) (v := ?_) (a' := ?_) #[true, true, true, true, true, true, true, true, false, false, false, false, false, false, false] rfl rfl (by kernel_rfl) (fun _ _ _ h => h) (Or.inl ⟨by rfl, ?_⟩) ?_ ?_
  rotate_left
  · intro w'
    go_simp
    first | done | with_reducible rfl | rfl
  rotate_left
  · simp only [Act.put, List.setIfInBounds_toArray, List.set_cons_zero, List.set_cons_succ]
    rfl
  refine take_ (i := 8) (N := (some 21)) (v := ?_) (a' := ?_) #[true, true, true, true, true, true, true, true, true, false, false, false, false, false, false] rfl rfl (by kernel_rfl) (fun _ _ _ h => h) (Or.inl ⟨by rfl, ?_⟩) hHeld ?_ ?_
  rotate_left
  · rintro w' ⟨s0, s1⟩
    go_simp
    first | done | with_reducible rfl | rfl
  rotate_left
  · simp only [Act.put, List.setIfInBounds_toArray, List.set_cons_zero, List.set_cons_succ]
    rfl
  refine pure_ (i := 9) (N := (some 22)) (v := ?_) (a' := ?_) #[true, true, true, true, true, true, true, true, true, true, false, false, false, false, false] rfl rfl (by kernel_rfl) (fun _ _ _ h => h) (Or.inl ⟨by rfl, ?_⟩) ?_ ?_
  rotate_left
  · intro w'
    go_simp
    first | done | with_reducible rfl | rfl
  rotate_left
  · simp only [Act.put, List.setIfInBounds_toArray, List.set_cons_zero, List.set_cons_succ]
    rfl
  refine take_ (i := 10) (N := (some 23)) (v := ?_) (a' := ?_) #[true, true, true, true, true, true, true, true, true, true, true, false, false, false, false] rfl rfl (by kernel_rfl) (fun _ _ _ h => h) (Or.inl ⟨by rfl, ?_⟩) hHeld ?_ ?_
  rotate_left
  · rintro w' ⟨s0, s1⟩
    have hlk := hlook.out w' s1
    go_simp
    first | done | with_reducible rfl | rfl
  rotate_left
  · simp only [Act.put, List.setIfInBounds_toArray, List.set_cons_zero, List.set_cons_succ]
    rfl
  refine pure_ (i := 11) (N := (some 24)) (v := ?_) (a' := ?_) #[true, true, true, true, true, true, true, true, true, true, true, true, false, false, false] rfl rfl (by kernel_rfl) (fun _ _ _ h => h) (Or.inl ⟨by rfl, ?_⟩) ?_ ?_
  rotate_left
  · intro w'
    go_simp
    first | done | with_reducible rfl | rfl
  rotate_left
  · simp only [Act.put, List.setIfInBounds_toArray, List.set_cons_zero, List.set_cons_succ]
    rfl
  refine one_ (i := 12) (N := (some 25)) #[true, true, true, true, true, true, true, true, true, true, true, true, true, false, false] rfl rfl (by kernel_rfl) (by decide) (fun K hK => ?_)
  refine value_ (v := .slice (some ⟨w.heap.size, 0, none⟩) 1 1) (w1 := w.drew.alloc (.cells #[.string s] 9)) (by rfl) rfl (by go_simp; first | done | rfl) ?_
  refine hK.out _ _ ⟨(World.cell?_alloc_lt _ _ _ (World.block_lt_of_cell? w _ c0)).trans c0, (HM0.out.alloc _ : (w.drew.alloc _).ownsMap _ _ _ _ _ _)⟩ (fun hHeld => ?_)
  clear hK K
  refine norm_ (a' := ?_) ?_ ?_
  rotate_left
  · show Act.put _ (some 25) _ = _
    simp only [Act.put, List.setIfInBounds_toArray, List.set_cons_zero, List.set_cons_succ]
    rfl
  refine one_ (i := 13) (N := (some 26)) #[true, true, true, true, true, true, true, true, true, true, true, true, true, true, false] rfl rfl (by kernel_rfl) (by decide) (fun K hK => ?_)
  obtain ⟨v', w2, hrun, ho, hg, _, hat⟩ := run_append_own_at (P := Try.prog) (w.drew.alloc (.cells #[.string s] 9)) 0 22 22 9 i0 (.string ByteArray.empty) 1 16 Try.underlying22 hi hz0 hz1 hz2 rfl (by decide) (.slice A (T k).length c) (T k).length (encS (T k)) HOW.out ⟨w.heap.size, 0, none⟩ 1 1 [.string s] rfl (cell_one_new w.drew _ _) (by intro u hu; simp at hu; subst hu; rfl) (by unfold maxLen; omega) (by omega) (Nat.zero_le _)
  obtain ⟨A3, c3, rfl, _⟩ := own_len ho
  obtain ⟨hp2, hm2⟩ := stay.out w2 _ ho hg
  have HM := hid hm2
  have HO := hid ho
  have HG := hid hg
  have HA := hid hat
  clear ho hg hat hm2
  refine value_ (v := .slice A3 ((T k).length + 1) c3) (w1 := w2) (by rfl) rfl (append_run _ _ _ rfl rfl rfl hrun) ?_
  clear hrun
  refine hK.out _ _ ⟨hp2, HM.out⟩ (fun hHeld => ?_)
  clear hK K
  refine norm_ (a' := ?_) ?_ ?_
  rotate_left
  · show Act.put _ (some 26) _ = _
    simp only [Act.put, List.setIfInBounds_toArray, List.set_cons_zero, List.set_cons_succ]
    rfl
  refine last_ (i := 14) (N := none) #[true, true, true, true, true, true, true, true, true, true, true, true, true, true, true] rfl rfl (by kernel_rfl) (by decide) (fun K hK => ?_)
  obtain ⟨w1, hrun, hm1, ht1⟩ := HM.out.store (t := 50) (e := 22) law_key Try.underlying50 (by unfold maxLen; omega) (val := .slice A3 ((T k).length + 1) c3) hkey rfl
  have HR := hid (key.out w2 _ w1 HO.out HG.out HA.out hm1 ht1)
  clear hm1 ht1
  refine skip_ (w1 := w1) (by rfl) rfl ?_ ?_
  · go_simp
    first | done | rfl
  clear hrun
  refine hK.out _ _ ?_
  clear hK K
  refine done_ (by kernel_rfl) ?_
  go_wp2
  go_ret
  exact ⟨rfl, HR.out.1, HR.out.2⟩
end Go.Proofs.Ytldbplagenjooaa
