/- loop.Pick: its contracts. -/
import Derived.Test.YtldbplagenjooaaLoopOps
import Derived.Test.YtldbplagenjooaaWLast
import Derived.Test.YtldbplagenjooaaWTab
namespace Go.Proofs.Ytldbplagenjooaa
set_option linter.unusedVariables false
set_option linter.unusedSimpArgs false
open Go.RowKit Go.Lib Go.Shelf Go.Maps Go.Proofs.YtldbplagenjooaaW.PrintWords Go.Proofs.YtldbplagenjooaaW.PrintLast

theorem own_map_ne {w : World} {b n : Nat} {D : DataW Value} {R : Value → Option (DataW Value × List MemPlace)} {P : Program} {k : TypeId} (h : w.ownsMap P k R b n D) {base : Nat} {e : TypeId} {size m : Nat} {v : Value} {xs : List Value} (hr : w.ownsRow base e size v m xs) : ∀ j, v.ownBlock = some j → j ≠ b := by
  rintro j hj rfl
  obtain ⟨cells, hc⟩ := own_typed hr j hj
  obtain ⟨es, clock, hb, _⟩ := h
  rw [hb] at hc
  cases hc
/-- A source's tasks are another row, and the map holds it: in a world that has turned in the map and in the row that was there alone. -/
theorem map_stored {w w2 : World} {ok : Nat → Prop} {p n n' b : Nat} {vS : Value} {D D' : DataW Value} {fn : Int → Value} {T : Int → List ByteArray} {S : List ByteArray} {k : Int} {l : List ByteArray} {v : Value}
    (h : LoopIs w ok p n b vS D fn T S) (hf : Frame (fun j => j = b ∨ some j = (fn k).ownBlock) w w2) (hm : w2.ownsMap Try.prog 3 Rv b n' D')
    (hat : ∀ j, D'.atKey (key j) (.held nilS) = .held (updV fn k v j)) (hhas : ∀ j, Maps.has D' (key j) = decide (upd T k l j ≠ [])) (hk : l ≠ [] → 0 ≤ k ∧ k < 8)
    (hr : w2.ownsRow 0 9 1 v l.length (encS l)) (hv : ∀ j, v.ownBlock = some j → some j = (fn k).ownBlock ∨ w.heap.size ≤ j) :
    LoopAt w2 (Wider ok w) p n' (upd T k l) S ∧ Frame ok w w2 := by
  have hpb : p ≠ b := fun e => by
    obtain ⟨es, clock, hb, _⟩ := h.map
    rw [← e, h.blk] at hb
    cases hb
  have hpk : ¬ (some p = (fn k).ownBlock) := own_ne (h.row k) h.blk (by decide)
  have old : ∀ j, j < w.heap.size → j ≠ b → ¬ (some j = (fn k).ownBlock) → w2.heap[j]? = w.heap[j]? := fun j hj h1 h2 => hf.block j hj (fun g => g.elim h1 h2)
  refine ⟨⟨b, vS, D', updV fn k v, ?_⟩, hf.mono (fun j hj => hj.elim (fun e => e ▸ h.okb) (fun e => h.rok k j e.symm))⟩
  refine ⟨.inl h.okp, .inl h.okb, (old p (blk_lt h.blk) hpb hpk).trans h.blk, hm, hat, hhas, ?_, ?_, ?_, ?_, ?_, fun j hj => .inl (h.sok j hj), ?_⟩
  · intro j hj
    by_cases e : j = k
    · subst e; rw [upd_self] at hj; exact hk hj
    · rw [upd_ne e] at hj; exact h.rng j hj
  · intro j
    by_cases e : j = k
    · subst e; rw [upd_self, updV_self]; exact hr
    · rw [upd_ne e, updV_ne e]
      exact own_move (h.row j) (fun i hi => old i (own_lt (h.row j) i hi) (own_map_ne h.map (h.row j) i hi) (fun g => h.apart j k e i hi g.symm))
  · intro j i hi
    by_cases e : j = k
    · subst e
      rw [updV_self] at hi
      exact (hv i hi).elim (fun g => .inl (h.rok j i g.symm)) .inr
    · rw [updV_ne e] at hi; exact .inl (h.rok j i hi)
  · intro j j' hne i hi hi'
    by_cases e : j = k
    · subst e
      rw [updV_self] at hi
      rw [updV_ne (Ne.symm hne)] at hi'
      rcases hv i hi with g | g
      · exact h.apart j j' hne i g.symm hi'
      · have := own_lt (h.row j') i hi'; omega
    · rw [updV_ne e] at hi
      by_cases e' : j' = k
      · subst e'
        rw [updV_self] at hi'
        rcases hv i hi' with g | g
        · exact h.apart j j' hne i hi g.symm
        · have := own_lt (h.row j) i hi; omega
      · rw [updV_ne e'] at hi'
        exact h.apart j j' hne i hi hi'
  · exact own_move h.srow (fun i hi => old i (own_lt h.srow i hi) (own_map_ne h.map h.srow i hi) (fun g => h.sap k i hi g.symm))
  · intro j i hi hi'
    by_cases e : j = k
    · subst e
      rw [updV_self] at hi'
      rcases hv i hi' with g | g
      · exact h.sap j i hi g.symm
      · have := own_lt h.srow i hi; omega
    · rw [updV_ne e] at hi'; exact h.sap j i hi hi'
section
variable {w : World} {ok : Nat → Prop} {p n b : Nat} {vS : Value} {D : DataW Value} {fn : Int → Value} {T : Int → List ByteArray} {S : List ByteArray}
theorem LoopIs.put_at (h : LoopIs w ok p n b vS D fn T S) (k : Int) (v : Value) (j : Int) : (D.put (key k) (.held v)).atKey (key j) (.held nilS) = .held (updV fn k v j) := by
  by_cases e : j = k
  · subst e; rw [updV_self]; exact atKey_put_same h.map.isMap (keyLit j) _ _
  · rw [updV_ne e, atKey_put_other (fun g => e (by injection g))]; exact h.at_ j
theorem LoopIs.put_has (h : LoopIs w ok p n b vS D fn T S) (k : Int) (v : Value) {l : List ByteArray} (hl : l ≠ []) (j : Int) : Maps.has (D.put (key k) (.held v)) (key j) = decide (upd T k l j ≠ []) := by
  by_cases e : j = k
  · subst e; rw [upd_self, has_put_same h.map.isMap (keyLit j)]; exact (decide_eq_true hl).symm
  · rw [upd_ne e, has_put_other (fun g => e (by injection g))]; exact h.has j
theorem LoopIs.del_at (h : LoopIs w ok p n b vS D fn T S) (k : Int) (j : Int) : (D.del (key k)).atKey (key j) (.held nilS) = .held (updV fn k nilS j) := by
  by_cases e : j = k
  · subst e; rw [updV_self]; exact atKey_del_same _
  · rw [updV_ne e, atKey_del_other (fun g => e (by injection g))]; exact h.at_ j
theorem LoopIs.del_has (h : LoopIs w ok p n b vS D fn T S) (k : Int) (j : Int) : Maps.has (D.del (key k)) (key j) = decide (upd T k [] j ≠ []) := by
  by_cases e : j = k
  · subst e; rw [upd_self, has_del_same]; rfl
  · rw [upd_ne e, has_del_other (fun g => e (by injection g))]; exact h.has j
end
set_option maxHeartbeats 1000000 in
theorem pick_bad (w : World) (p : Nat) (k : Int) (hk : ¬ (0 ≤ k ∧ k < 8)) :
    Calls Try.prog 11 #[.pointer (some ⟨p, 0, none⟩), .int .i64 k] w fun e w' => e = .returned (.tuple #[.string ⟨#[]⟩, .int .i64 1]) ∧ w = w' := by
  by_cases h0 : k < 0
  · have h1 : decide (k < 0) = true := decide_eq_true h0
    clear hk
    go_enter Try.func11, Try.ntmps11
    go_wp2
    go_ret2
    exact ⟨rfl, rfl⟩
  · have h1 : decide (k < 0) = false := decide_eq_false h0
    have h2 : decide (8 ≤ k) = true := decide_eq_true (by omega)
    clear hk
    go_enter Try.func11, Try.ntmps11
    go_wp2
    go_ret2
    exact ⟨rfl, rfl⟩
theorem wf_small {k : Int} (h0 : 0 ≤ k) (h1 : k < 8) : (Lit.int .i64 k).wf = true := by
  simp [Lit.wf, IntKind.min, IntKind.max, IntKind.signed, IntKind.bits]; omega
set_option maxHeartbeats 1000000 in
theorem pick_none {w : World} {ok : Nat → Prop} {p n : Nat} {T : Int → List ByteArray} {S : List ByteArray} {k : Int} (h0 : 0 ≤ k) (h8 : k < 8) (hS : S.length ≤ 1000000) (hn : S ≠ [] ∨ T k = []) (h : LoopAt w ok p n T S) :
    Calls Try.prog 11 #[.pointer (some ⟨p, 0, none⟩), .int .i64 k] w fun e w' => e = .returned (.tuple #[.string ⟨#[]⟩, .int .i64 180]) ∧ w = w' := by
  obtain ⟨b, vS, D, fn, h⟩ := h
  obtain ⟨A, c, rfl, hc⟩ := own_len h.srow
  have hl := look_at h.map h.at_ (wf_small h0 h8)
  obtain ⟨A2, c2, hf, hc2⟩ := own_len (h.row k)
  rw [hf] at hl
  have c0 : w.cell? ⟨p, 0, none⟩ = some (.map (some b)) := (blk_cell h.blk 0).trans rfl
  have c1 : w.cell? ⟨p, 1, none⟩ = some (.slice A S.length c) := (blk_cell h.blk 1).trans rfl
  have h1 : decide (k < 0) = false := decide_eq_false (by omega)
  have h2 : decide (8 ≤ k) = false := decide_eq_false (by omega)
  clear hf h
  by_cases hs : S = []
  · subst hs
    have ht : T k = [] := hn.elim (fun g => absurd rfl g) id
    rw [ht] at hl
    clear hn ht hc2
    go_enter Try.func11, Try.ntmps11
    go_wp2
    go_ret2
    exact ⟨rfl, rfl⟩
  · have hp : 0 < S.length := List.length_pos_iff.2 hs
    have h3 : decide (0 < (S.length : Int)) = true := decide_eq_true (by omega)
    clear hn hc2 hs
    go_enter Try.func11, Try.ntmps11
    go_wp2
    go_ret2
    exact ⟨rfl, rfl⟩

theorem turned_frame {w w' : World} {b : Nat} (h : w.mapTurned w' b) (ok : Nat → Prop) (hb : ok b) : Frame ok w w' := Frame.of_grown h.grown (fun j hj => by cases hj; exact .inl hb)
set_option maxHeartbeats 1000000 in
theorem pick_last {w : World} {ok : Nat → Prop} {p n : Nat} {T : Int → List ByteArray} {k : Int} {t : ByteArray} (h0 : 0 ≤ k) (h8 : k < 8) (ht : T k = [t]) (h : LoopAt w ok p n T []) :
    Calls Try.prog 11 #[.pointer (some ⟨p, 0, none⟩), .int .i64 k] w fun e w' => e = .returned (.tuple #[.string t, .int .i64 0]) ∧ LoopAt w' (Wider ok w) p n (upd T k []) [] ∧ Frame ok w w' := by
  obtain ⟨b, vS, D, fn, h⟩ := h
  obtain ⟨A, c, rfl, hc⟩ := own_len h.srow
  have hl := look_at h.map h.at_ (wf_small h0 h8)
  have hr := h.row k
  rw [ht] at hr
  obtain ⟨A2, c2, hf, hc2⟩ := own_len hr
  rw [hf] at hl hr
  have hrd := (row_reads hr).2.2
  obtain ⟨ad, rfl, hcell⟩ := hrd.2.2 (by simp)
  have ca : w.cell? ad = some (.string t) := by
    have := hcell 0 (by simp)
    simpa [Addr.add] using this
  have hadb : ad.block ≠ b := own_map_ne h.map hr ad.block rfl
  have hadl : ad.block < w.heap.size := World.block_lt_of_cell? w ad ca
  have c0 : w.cell? ⟨p, 0, none⟩ = some (.map (some b)) := (blk_cell h.blk 0).trans rfl
  have c1 : w.cell? ⟨p, 1, none⟩ = some (.slice A 0 c) := (blk_cell h.blk 1).trans rfl
  have h1 : decide (k < 0) = false := decide_eq_false (by omega)
  have h2 : decide (8 ≤ k) = false := decide_eq_false (by omega)
  have hmap := h.map
  have hkey := keyOf_int_mk Try.underlying3 (wf_small h0 h8)
  have key : Hid (∀ w1, w1.ownsMap Try.prog 3 Rv b n (D.del (key k)) → w.mapTurned w1 b → w1.cell? ad = some (.string t) ∧ Hid (LoopAt w1 (Wider ok w) p n (upd T k []) [] ∧ Frame ok w w1)) := by
    apply hid
    intro w1 hm ht1
    have hg := ht1.grown
    refine ⟨?_, hid (map_stored h (turned_frame ht1 _ (.inl rfl)) hm (h.del_at k) (h.del_has k) (fun g => absurd rfl g) (own_nil _ _ _ _) (fun j hj => by simp [Value.ownBlock] at hj))⟩
    rw [World.cell?_of_block (hg.block ad.block hadl (by simpa using hadb))]
    exact ca
  clear hf h hcell hrd hr ht hc2 hadb hadl
  go_enter Try.func11, Try.ntmps11
  go_wp2_with (first
    | (at_delete; refine wpList_delete_own _ rfl _ _ 50 3 rfl 22 law_key Try.underlying50 _ b n D rfl hmap _ _ rfl hkey ?_; intro w1 hm1 ht1; obtain ⟨ca1, HL⟩ := key.out w1 hm1 ht1; clear hm1 ht1)
    | go_in)
  go_ret2
  exact ⟨rfl, HL.out.1, HL.out.2⟩
set_option maxHeartbeats 4000000 in
theorem pick_more {w : World} {ok : Nat → Prop} {p n : Nat} {T : Int → List ByteArray} {k : Int} {t u : ByteArray} {ts : List ByteArray} (h0 : 0 ≤ k) (h8 : k < 8) (hn : n ≤ 1000000) (hl1 : ts.length < 1000000) (ht : T k = t :: u :: ts) (h : LoopAt w ok p n T []) :
    Calls Try.prog 11 #[.pointer (some ⟨p, 0, none⟩), .int .i64 k] w fun e w' => e = .returned (.tuple #[.string t, .int .i64 0]) ∧ LoopAt w' (Wider ok w) p (n + 1) (upd T k (u :: ts)) [] ∧ Frame ok w w' := by
  have mixed : Try.prog.follows Departure.mixedOrders = true := by kernel_rfl
  obtain ⟨b, vS, D, fn, h⟩ := h
  obtain ⟨A, c, rfl, hc⟩ := own_len h.srow
  have hl := look_at h.map h.at_ (wf_small h0 h8)
  have hr := h.row k
  rw [ht] at hr
  obtain ⟨A2, c2, hf, hc2⟩ := own_len hr
  rw [hf] at hl hr
  have hrd := (row_reads hr).2.2
  obtain ⟨i0, hi, hz0, hz1, hz2⟩ := info_parts info_str
  obtain ⟨A', hcut, hrd', hle⟩ := print_drop_of (P := Try.prog) Value.string ByteArray.empty 22 9 .i64 Try.underlying22 hi hz1 A2 c2 (t :: u :: ts) 1 (by omega) (by simp; omega) hc2
  have hA := hrd' w hrd
  have hd : (t :: u :: ts).drop (1 : Int).toNat = u :: ts := rfl
  rw [hd] at hA hcut hle
  obtain ⟨ad, rfl, hcell⟩ := hrd.2.2 (by simp)
  have ca : w.cell? ad = some (.string t) := by
    have := hcell 0 (by simp)
    simpa [Addr.add] using this
  have hadb : ad.block ≠ b := own_map_ne h.map hr ad.block rfl
  have hadl : ad.block < w.heap.size := World.block_lt_of_cell? w ad ca
  have c0 : w.cell? ⟨p, 0, none⟩ = some (.map (some b)) := (blk_cell h.blk 0).trans rfl
  have c1 : w.cell? ⟨p, 1, none⟩ = some (.slice A 0 c) := (blk_cell h.blk 1).trans rfl
  have h1 : decide (k < 0) = false := decide_eq_false (by omega)
  have h2 : decide (8 ≤ k) = false := decide_eq_false (by omega)
  have hkey := keyOf_int_mk Try.underlying3 (wf_small h0 h8)
  have hcl := clone_reads (c := c2 - 1) (w := w.drew) hA (by rw [List.length_cons]; omega)
  have hcut' : ∀ W, (Instr.slice 22 (.slice (some ad) (ts.length + 1 + 1) c2) (some (.int .i64 1)) none none).run Try.prog W = .ok (.slice A' (ts.length + 1) (c2 - 1)) W := fun W => hcut W
  have key : Hid (∀ w2 v w1, w2.ownsRow w.heap.size 9 1 v (ts.length + 1) (encS (u :: ts)) → Below w.heap.size w w2 → w1.ownsMap Try.prog 3 Rv b (n + 1) (D.put (key k) (.held v)) → w2.mapTurned w1 b → w1.cell? ad = some (.string t) ∧ Hid (LoopAt w1 (Wider ok w) p (n + 1) (upd T k (u :: ts)) [] ∧ Frame ok w w1)) := by
    apply hid
    intro w2 v w1 ho hb hm ht1
    have hg := ht1.grown
    have hF : Frame (fun j => j = b ∨ some j = (fn k).ownBlock) w w1 := (Frame.of_below _ hb).trans (turned_frame ht1 _ (.inl (.inl rfl)))
    have hvb : ∀ j, v.ownBlock = some j → w1.heap[j]? = w2.heap[j]? := fun j hj => hg.block j (own_lt ho j hj) (fun e => by
      have e1 := Option.some.inj e
      have := own_base ho j hj
      have := h.map.lt
      omega)
    refine ⟨?_, hid (map_stored h hF hm (h.put_at k v) (h.put_has k v (by simp)) (fun _ => ⟨h0, h8⟩) (own_move (own_down ho (Nat.zero_le _)) hvb) (fun j hj => .inr (own_base ho j hj)))⟩
    rw [World.cell?_of_block (hg.block ad.block (Nat.lt_of_lt_of_le hadl hb.size) (by simpa using hadb)), World.cell?_of_block (hb.block ad.block hadl)]
    exact ca
  have hmapB : Hid (∀ w2, Below w.heap.size w w2 → w2.ownsMap Try.prog 3 Rv b n D ∧ w2.cell? ⟨p, 0, none⟩ = some (.map (some b))) := by
    apply hid
    intro w2 hb
    exact ⟨map_move h.map (hb.block b h.map.lt), (blk_cell ((hb.block p (blk_lt h.blk)).trans h.blk) 0).trans rfl⟩
  have h3 : decide ((ts.length : Int) + 1 + 1 = 0) = false := decide_eq_false (by omega)
  have h4 : decide ((ts.length : Int) + 1 + 1 = 1) = false := decide_eq_false (by omega)
  have HC := hid hcl
  clear hf h hcell hrd hrd' hr ht hc2 hadb hadl hcut hd hA hcl hle
  go_enter Try.func11, Try.ntmps11
  go_upto_region 8 with fail
  refine start_ (n := 9) (S := fun w' => w'.cell? ⟨p, 0, none⟩ = some (.map (some b))) (ds := [8]) #[false, false, false, false, false, false, false, false, false] mixed rfl rfl c0 (fun hHeld => ?_)
  refine pure_ (i := 0) (N := (some 38)) (v := ?_) (a' := ?_) #[true, false, false, false, false, false, false, false, false] rfl rfl (by kernel_rfl) (fun _ _ _ h => h) (Or.inl ⟨by rfl, ?_⟩) ?_ ?_
  rotate_left
  · intro w'
    go_simp
    first | done | with_reducible rfl | rfl
  rotate_left
  · simp only [Act.put, List.setIfInBounds_toArray, List.set_cons_zero, List.set_cons_succ]
    rfl
  refine pure_ (i := 1) (N := (some 39)) (v := ?_) (a' := ?_) #[true, true, false, false, false, false, false, false, false] rfl rfl (by kernel_rfl) (fun _ _ _ h => h) (Or.inl ⟨by rfl, ?_⟩) ?_ ?_
  rotate_left
  · intro w'
    go_simp
    first | done | with_reducible rfl | rfl
  rotate_left
  · simp only [Act.put, List.setIfInBounds_toArray, List.set_cons_zero, List.set_cons_succ]
    rfl
  refine pure_ (i := 2) (N := (some 40)) (v := ?_) (a' := ?_) #[true, true, true, false, false, false, false, false, false] rfl rfl (by kernel_rfl) (fun _ _ _ h => h) (Or.inl ⟨by rfl, ?_⟩) ?_ ?_
  rotate_left
  · intro w'
    go_simp
    first | done | with_reducible rfl | rfl
  rotate_left
  · simp only [Act.put, List.setIfInBounds_toArray, List.set_cons_zero, List.set_cons_succ]
    rfl
  refine take_ (i := 3) (N := (some 41)) (v := ?_) (a' := ?_) #[true, true, true, true, false, false, false, false, false] rfl rfl (by kernel_rfl) (fun _ _ _ h => h) (Or.inl ⟨by rfl, ?_⟩) hHeld ?_ ?_
  rotate_left
  · rintro w' s0
    go_simp
    first | done | with_reducible rfl | rfl
  rotate_left
  · simp only [Act.put, List.setIfInBounds_toArray, List.set_cons_zero, List.set_cons_succ]
    rfl
  refine pure_ (i := 4) (N := (some 42)) (v := ?_) (a' := ?_) #[true, true, true, true, true, false, false, false, false] rfl rfl (by kernel_rfl) (fun _ _ _ h => h) (Or.inl ⟨by rfl, ?_⟩) ?_ ?_
  rotate_left
  · intro w'
    go_simp
    first | done | with_reducible rfl | rfl
  rotate_left
  · simp only [Act.put, List.setIfInBounds_toArray, List.set_cons_zero, List.set_cons_succ]
    rfl
  refine pure_ (i := 5) (N := (some 43)) (v := ?_) (a' := ?_) #[true, true, true, true, true, true, false, false, false] rfl rfl (by kernel_rfl) (fun _ _ _ h => h) (Or.inl ⟨by rfl, ?_⟩) ?_ ?_
  rotate_left
  · intro w'
    go_simp
    first | done | with_reducible rfl | rfl
  rotate_left
  · simp only [Act.put, List.setIfInBounds_toArray, List.set_cons_zero, List.set_cons_succ]
    rfl
  refine pure_ (i := 6) (N := (some 44)) (v := ?_) (a' := ?_) #[true, true, true, true, true, true, true, false, false] rfl rfl (by kernel_rfl) (fun _ _ _ h => h) (Or.inl ⟨by rfl, ?_⟩) ?_ ?_
  rotate_left
  · intro w'
    have hcutw := hcut' w'
    go_simp
    first | done | with_reducible rfl | rfl
  rotate_left
  · simp only [Act.put, List.setIfInBounds_toArray, List.set_cons_zero, List.set_cons_succ]
    rfl
  refine one_ (i := 7) (N := (some 45)) #[true, true, true, true, true, true, true, true, false] rfl rfl (by kernel_rfl) (by decide) (fun K hK => ?_)
  refine goes_ Try.func24 (by kernel_rfl) rfl #[.slice A' (ts.length + 1) (c2 - 1)] (by rfl) rfl rfl (by (try simp only [List.map_toArray, List.map_cons, List.map_nil]); first | done | rfl) ?_
  refine HC.out.mono ?_
  rintro e w2 ⟨v, rfl, ho, hb⟩
  have hb2 : Below w.heap.size w w2 := ⟨hb.os, hb.tape, hb.output, hb.size, hb.block⟩
  obtain ⟨A3, c3, rfl, _⟩ := own_len ho
  obtain ⟨hm2, hp2⟩ := hmapB.out w2 hb2
  have HM := hid hm2
  have HB := hid hb2
  have HO := hid ho
  clear hb hb2 hm2 ho
  refine ⟨_, rfl, ?_⟩
  refine hK.out _ _ hp2 (fun hHeld => ?_)
  clear hK K
  refine norm_ (a' := ?_) ?_ ?_
  rotate_left
  · show Act.put _ (some 45) _ = _
    simp only [Act.put, List.setIfInBounds_toArray, List.set_cons_zero, List.set_cons_succ]
    rfl
  refine last_ (i := 8) (N := none) #[true, true, true, true, true, true, true, true, true] rfl rfl (by kernel_rfl) (by decide) (fun K hK => ?_)
  obtain ⟨w1, hrun, hm1, ht1⟩ := HM.out.store (t := 50) (e := 22) law_key Try.underlying50 (by unfold maxLen; omega) (val := .slice A3 (ts.length + 1) c3) hkey rfl
  have HR := hid (key.out w2 _ w1 HO.out HB.out hm1 ht1)
  clear hm1 ht1
  refine skip_ (w1 := w1) (by rfl) rfl ?_ ?_
  · go_simp
    first | done | rfl
  obtain ⟨ca1, HL⟩ := HR.out
  clear HR hrun
  refine hK.out _ _ ?_
  clear hK K
  refine done_ (by kernel_rfl) ?_
  go_wp2
  go_ret2
  exact ⟨rfl, HL.out.1, HL.out.2⟩
end Go.Proofs.Ytldbplagenjooaa
