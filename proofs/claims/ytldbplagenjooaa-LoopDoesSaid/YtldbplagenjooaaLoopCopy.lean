/- loop.Copy: its contract. -/
import Derived.Test.YtldbplagenjooaaLoopWaits
namespace Go.Proofs.Ytldbplagenjooaa
set_option linter.unusedVariables false
set_option linter.unusedSimpArgs false
open Go.RowKit Go.Lib Go.Shelf Go.Maps Go.Proofs.YtldbplagenjooaaW.PrintWords Go.Proofs.YtldbplagenjooaaW.PrintLast

/-- What has been copied: the tasks of the sources that are not left. -/
def Copied (To T : Int → List ByteArray) (left : Lit → Bool) : Prop := ∀ k, To k = if left (key k) = true then [] else T k
theorem copied_start {T : Int → List ByteArray} {D : DataW Value} (h : ∀ k, Maps.has D (key k) = decide (T k ≠ [])) : Copied (fun _ => []) T (Maps.has D) := fun k => by
  rw [h k]
  by_cases g : T k = []
  · simp [g]
  · simp [g]
theorem copied_step {To T : Int → List ByteArray} {left : Lit → Bool} {x : Int} (h : Copied To T left) : Copied (upd To x (T x)) T (fun z => left z && !z.sameKey (key x)) := fun k => by
  show _ = if (left (key k) && !(key k).sameKey (key x)) = true then [] else T k
  rw [same_key]
  by_cases g : k = x
  · subst g; rw [upd_self]; simp
  · rw [upd_ne g, h k]; simp [g]
theorem copied_end {To T : Int → List ByteArray} {left : Lit → Bool} (h : Copied To T left) (hl : ∀ kl, left kl = false) : To = T := by
  funext k
  rw [h k, hl]
  rfl
set_option maxHeartbeats 4000000 in
set_option maxRecDepth 100000 in
theorem copy_calls {w : World} {ok : Nat → Prop} {p n : Nat} {T : Int → List ByteArray} {S : List ByteArray} (hn : n ≤ 1000000) (hT : ∀ k, (T k).length ≤ 1000000) (hS : S.length ≤ 1000000) (h : LoopAt w ok p n T S) :
    Calls Try.prog 14 #[.pointer (some ⟨p, 0, none⟩)] w fun e w' => ∃ q, e = .returned (.pointer (some ⟨q, 0, none⟩)) ∧ LoopAt w' (fun j => w.heap.size ≤ j) q n T S ∧ Below w.heap.size w w' := by
  have mixed : Try.prog.follows Departure.mixedOrders = true := by kernel_rfl
  obtain ⟨b, vS, D, fn, h⟩ := h
  obtain ⟨A, c, rfl, hc⟩ := own_len h.srow
  have c0 : w.cell? ⟨p, 0, none⟩ = some (.map (some b)) := (blk_cell h.blk 0).trans rfl
  have c1 : w.cell? ⟨p, 1, none⟩ = some (.slice A S.length c) := (blk_cell h.blk 1).trans rfl
  have hbl := h.map.lt
  have HH := hid h
  have HT := hid hT
  have HC0 := hid c0
  have HC1 := hid c1
  clear h hT c0 c1
  go_enter Try.func14, Try.ntmps14
  go_wp2_with (first
    | (go_at_call 8; refine (new_calls _).mono ?_; rintro e w1 ⟨q, rfl, hq, hb1⟩; have c01 : w1.cell? ⟨p, 0, none⟩ = some (.map (some b)) := pw_cell_below hb1 HC0.out; have HQ := hid hq; have HB1 := hid hb1; have hm1 := map_move HH.out.map (hb1.block b hbl); clear hq hb1)
    | (at_range; refine wpList_range_own _ rfl _ 50 rfl 3 22 law_key Try.underlying50 _ b n _ rfl hm1 ?_; intro w0 hrg0 hg0 hs0)
    | go_in)
  go_frame
  go_loopw [4] (fun _ wr => ∃ (left : Lit → Bool) (cnt : Nat) (To : Int → List ByteArray), wr.ranges Try.prog 3 Rv b w1.heap.size n D left cnt ∧ cnt ≤ Maps.size D ∧ LoopAt wr (fun j => w.heap.size ≤ j ∧ j ≠ w1.heap.size) q (Maps.size D - cnt) To [] ∧ Copied To T left ∧ Below w.heap.size w wr)
    (fun _ wr => wr.rangeLeft b w1.heap.size)
  case atStart =>
    have hF : Frame (fun _ => False) w1 w0 := Frame.of_grown hg0 (fun j hj => by cases hj)
    exact ⟨_, _, _, hrg0, Nat.le_refl _, ((HQ.out.bound.frame hF (fun _ _ _ g => g)).mono (fun j hj => ⟨hj.1, by omega⟩)).more (Nat.zero_le _), copied_start HH.out.has, HB1.out.grown hg0 HB1.out.size (fun j hj => by cases hj)⟩
  case round =>
    obtain ⟨left, cnt, To, hrg, hcs, hto, hcp, hb⟩ := hrel
    have HB := hid hb
    have HTO := hid hto
    have HCP := hid hcp
    have hsz : Maps.size D ≤ n := HH.out.map.size_le
    clear hb hto hcp
    go_wp2_with (first
      | (at_next; refine wpList_next_ranges _ rfl _ rfl 3 law_key Rv (Value.int .i64) (fun v : Value => v) (fun k kl hk => by obtain ⟨x, hx, _⟩ := Maps.keyOf_int_inv Try.underlying3 hk; exact ⟨x, hx⟩) (fun v y _ => ⟨v, rfl⟩) b w1.heap.size n D left cnt rfl hrg ?_ ?_)
      | go_in)
    · intro hc0 hl0
      have he := copied_end HCP.out hl0
      subst he
      have d1 : wr.cell? ⟨p, 1, none⟩ = some (.slice A S.length c) := pw_cell_below HB.out HC1.out
      have hrd : ReadsOf Value.string ByteArray.empty wr A S.length S := (row_reads (pw_own_below HH.out.srow (HB.out.trans (Below.refl _ _)))).2.2
      obtain ⟨b', vS', D', fn', hi'⟩ := HTO.out
      obtain ⟨A3, c3, rfl, _⟩ := own_len hi'.srow
      have key : Hid (Calls Try.prog 24 #[.slice A S.length c] wr fun e w2 => ∃ A2 c2, e = .returned (.slice A2 S.length c2) ∧ w2.cell? ⟨q, 1, none⟩ = some (.slice A3 0 c3) ∧ w2.frozen? ⟨q, 1, none⟩ = false ∧
          Hid (LoopAt (w2.setCell ⟨q, 1, none⟩ (.slice A2 S.length c2)) (fun j => w.heap.size ≤ j) q n To S ∧ Below w.heap.size w (w2.setCell ⟨q, 1, none⟩ (.slice A2 S.length c2)))) := by
        apply hid
        refine (clone_reads (c := c) hrd hS).mono ?_
        rintro e w2 ⟨v, rfl, ho, hb2⟩
        obtain ⟨A2, c2, rfl, _⟩ := own_len ho
        have hp2 : w2.heap[q]? = some (.cells #[.map (some b'), .slice A3 0 c3] 52 (0, 0)) := (hb2.block q (blk_lt hi'.blk)).trans hi'.blk
        have hst := small_stored hi' (Frame.of_below _ hb2) (own_down ho (Nat.zero_le _)) (fun j hj => .inr (own_base ho j hj))
        have hwl := HB.out.size
        exact ⟨A2, c2, rfl, (blk_cell hp2 1).trans rfl, blk_frozen hp2 1, hid ⟨(hst.1.mono (fun j hj => hj.elim (fun g => g.1) (fun g => by omega))).more (by omega), HB.out.trans (hst.2.below hwl (fun j hj => hj.1))⟩⟩
      clear hrd hi' hl0 hrg
      go_wp2_with (go_at_call 24; refine key.out.mono ?_; rintro e w2 ⟨A2, c2, rfl, d2, f2, HL⟩)
      go_ret
      exact ⟨_, rfl, HL.out.1, HL.out.2⟩
    · intro x v kl y ys w2 cnt1 hkey hlk hv hat hrg1 hlt hg1 hs1 hen
      obtain ⟨x', hx', rfl, hwf⟩ := Maps.keyOf_int_inv Try.underlying3 hkey
      cases hx'
      obtain ⟨rfl, hne, hx0, hx8⟩ := HH.out.came hv hat
      have hto2 := HTO.out.frame (Frame.of_grown hg1 (ok := fun j => j = w1.heap.size) (fun j hj => by cases hj; exact .inl rfl)) (fun j hj _ e => hj.2 e)
      obtain ⟨b', vS', D', fn', hi'⟩ := hto2
      have hTx : To x = [] := by rw [HCP.out x, hlk]; rfl
      have hb2 : Below w.heap.size w w2 := HB.out.grown hg1 HB.out.size (fun j hj => by cases hj; exact HB1.out.size)
      obtain ⟨A2, c2, hfx, hc2⟩ := own_len (HH.out.row x)
      have hrow := HH.out.row x
      rw [hfx] at hrow
      have hrd : ReadsOf Value.string ByteArray.empty w2.drew A2 (T x).length (T x) := (row_reads (pw_own_below hrow (hb2.trans (Below.refl _ _)))).2.2
      have HC := hid (clone_reads (c := c2) hrd (HT.out x))
      have q0 : w2.cell? ⟨q, 0, none⟩ = some (.map (some b')) := (blk_cell hi'.blk 0).trans rfl
      have hkeyx := keyOf_int_mk Try.underlying3 hwf
      have hbase : w.heap.size ≤ b' ∧ b' ≠ w1.heap.size := hi'.okb
      have hsz2 := hb2.size
      have hmB : Hid (∀ w3, Below w2.heap.size w2 w3 → w3.ownsMap Try.prog 3 Rv b' (Maps.size D - cnt) D' ∧ w3.cell? ⟨q, 0, none⟩ = some (.map (some b'))) := by
        apply hid
        intro w3 hb3
        exact ⟨map_move hi'.map (hb3.block b' hi'.map.lt), (blk_cell ((hb3.block q (blk_lt hi'.blk)).trans hi'.blk) 0).trans rfl⟩
      have key : Hid (∀ w3 v w4, w3.ownsRow w2.heap.size 9 1 v (T x).length (encS (T x)) → Below w2.heap.size w2 w3 → w4.ownsMap Try.prog 3 Rv b' (Maps.size D - cnt + 1) (D'.put (key x) (.held v)) → w3.mapTurned w4 b' →
          Hid (LoopAt w4 (fun j => w.heap.size ≤ j ∧ j ≠ w1.heap.size) q (Maps.size D - cnt + 1) (upd To x (T x)) [] ∧ Below w.heap.size w w4) ∧ w4.ranges Try.prog 3 Rv b w1.heap.size n D (fun z => left z && !z.sameKey (key x)) cnt1) := by
        apply hid
        intro w3 v w4 ho hb3 hm4 ht4
        have hg := ht4.grown
        have hrl := hrg1.lt
        have hF : Frame (fun j => j = b' ∨ some j = (fn' x).ownBlock) w2 w4 := (Frame.of_below _ hb3).trans (turned_frame ht4 _ (.inl (.inl rfl)))
        have hvb : ∀ j, v.ownBlock = some j → w4.heap[j]? = w3.heap[j]? := fun j hj => hg.block j (own_lt ho j hj) (fun e => by
          have e1 := Option.some.inj e
          have := own_base ho j hj
          have := hi'.map.lt
          omega)
        have hst := map_stored hi' hF hm4 (hi'.put_at x v) (hi'.put_has x v hne) (fun _ => ⟨hx0, hx8⟩) (own_move (own_down ho (Nat.zero_le _)) hvb) (fun j hj => .inr (own_base ho j hj))
        refine ⟨hid ⟨hst.1.mono (fun j hj => hj.elim id (fun g => ⟨by omega, by omega⟩)), hb2.trans (hst.2.below hsz2 (fun j hj => hj.1))⟩, ?_⟩
        exact (hrg1.kept (grown_of_below hb3 none) (by simp) (by simp)).kept hg (fun e => by have := Option.some.inj e; omega) (fun e => hbase.2 (Option.some.inj e).symm)
      have hnb : Maps.size D - cnt < maxLen := by unfold maxLen; omega
      rw [hfx] at hen ⊢
      have HM2 := hid hrg.left_eq
      clear hi' hfx hrow hrd hv hat hkey hlk hb2 hTx hrg1
      go_upto_region 5 with fail
      refine start_ (n := 8) (S := fun w' => w'.cell? ⟨q, 0, none⟩ = some (.map (some b'))) (ds := [7]) #[false, false, false, false, false, false, false, false] mixed rfl rfl q0 (fun hHeld => ?_)
      refine pure_ (i := 0) (N := (some 17)) (v := ?_) (a' := ?_) #[true, false, false, false, false, false, false, false] rfl rfl (by kernel_rfl) (fun _ _ _ h => h) (Or.inl ⟨by rfl, ?_⟩) ?_ ?_
      rotate_left
      · intro w'
        go_simp
        first | done | with_reducible rfl | rfl
      rotate_left
      · simp only [Act.put, List.setIfInBounds_toArray, List.set_cons_zero, List.set_cons_succ]
        rfl
      refine pure_ (i := 1) (N := (some 18)) (v := ?_) (a' := ?_) #[true, true, false, false, false, false, false, false] rfl rfl (by kernel_rfl) (fun _ _ _ h => h) (Or.inl ⟨by rfl, ?_⟩) ?_ ?_
      rotate_left
      · intro w'
        go_simp
        first | done | with_reducible rfl | rfl
      rotate_left
      · simp only [Act.put, List.setIfInBounds_toArray, List.set_cons_zero, List.set_cons_succ]
        rfl
      refine pure_ (i := 2) (N := (some 19)) (v := ?_) (a' := ?_) #[true, true, true, false, false, false, false, false] rfl rfl (by kernel_rfl) (fun _ _ _ h => h) (Or.inl ⟨by rfl, ?_⟩) ?_ ?_
      rotate_left
      · intro w'
        go_simp
        first | done | with_reducible rfl | rfl
      rotate_left
      · simp only [Act.put, List.setIfInBounds_toArray, List.set_cons_zero, List.set_cons_succ]
        rfl
      refine take_ (i := 3) (N := (some 20)) (v := ?_) (a' := ?_) #[true, true, true, true, false, false, false, false] rfl rfl (by kernel_rfl) (fun _ _ _ h => h) (Or.inl ⟨by rfl, ?_⟩) hHeld ?_ ?_
      rotate_left
      · rintro w' s0
        go_simp
        first | done | with_reducible rfl | rfl
      rotate_left
      · simp only [Act.put, List.setIfInBounds_toArray, List.set_cons_zero, List.set_cons_succ]
        rfl
      refine pure_ (i := 4) (N := (some 21)) (v := ?_) (a' := ?_) #[true, true, true, true, true, false, false, false] rfl rfl (by kernel_rfl) (fun _ _ _ h => h) (Or.inl ⟨by rfl, ?_⟩) ?_ ?_
      rotate_left
      · intro w'
        go_simp
        first | done | with_reducible rfl | rfl
      rotate_left
      · simp only [Act.put, List.setIfInBounds_toArray, List.set_cons_zero, List.set_cons_succ]
        rfl
      refine pure_ (i := 5) (N := (some 22)) (v := ?_) (a' := ?_) #[true, true, true, true, true, true, false, false] rfl rfl (by kernel_rfl) (fun _ _ _ h => h) (Or.inl ⟨by rfl, ?_⟩) ?_ ?_
      rotate_left
      · intro w'
        go_simp
        first | done | with_reducible rfl | rfl
      rotate_left
      · simp only [Act.put, List.setIfInBounds_toArray, List.set_cons_zero, List.set_cons_succ]
        rfl
      refine one_ (i := 6) (N := (some 23)) #[true, true, true, true, true, true, true, false] rfl rfl (by kernel_rfl) (by decide) (fun K hK => ?_)
      refine goes_ Try.func24 (by kernel_rfl) rfl #[.slice A2 (T x).length c2] (by rfl) rfl rfl (by (try simp only [List.map_toArray, List.map_cons, List.map_nil]); first | done | rfl) ?_
      refine HC.out.mono ?_
      rintro e w3 ⟨v, rfl, ho, hb3⟩
      have hb4 : Below w2.heap.size w2 w3 := ⟨hb3.os, hb3.tape, hb3.output, hb3.size, hb3.block⟩
      obtain ⟨A4, c4, rfl, _⟩ := own_len ho
      obtain ⟨hm3, hp3⟩ := hmB.out w3 hb4
      have HM := hid hm3
      have HB4 := hid hb4
      have HO := hid ho
      clear hb3 hb4 hm3 ho
      refine ⟨_, rfl, ?_⟩
      refine hK.out _ _ hp3 (fun hHeld => ?_)
      clear hK K
      refine norm_ (a' := ?_) ?_ ?_
      rotate_left
      · show Act.put _ (some 23) _ = _
        simp only [Act.put, List.setIfInBounds_toArray, List.set_cons_zero, List.set_cons_succ]
        rfl
      refine last_ (i := 7) (N := none) #[true, true, true, true, true, true, true, true] rfl rfl (by kernel_rfl) (by decide) (fun K hK => ?_)
      obtain ⟨w4, hrun, hm4, ht4⟩ := HM.out.store (t := 50) (e := 22) law_key Try.underlying50 hnb (val := .slice A4 (T x).length c4) hkeyx rfl
      obtain ⟨HR, hrg4⟩ := key.out w3 _ w4 HO.out HB4.out hm4 ht4
      clear hm4 ht4
      refine skip_ (w1 := w4) (by rfl) rfl ?_ ?_
      · go_simp
        first | done | rfl
      clear hrun
      refine hK.out _ _ ?_
      clear hK K
      refine done_ (by kernel_rfl) ?_
      go_wp2
      go_roundw
      case rel => exact ⟨_, cnt1, _, hrg4, by omega, HR.out.1.more (by omega), copied_step HCP.out, HR.out.2⟩
      case measure => rw [hrg4.left_eq, HM2.out]; exact hlt
end Go.Proofs.Ytldbplagenjooaa
