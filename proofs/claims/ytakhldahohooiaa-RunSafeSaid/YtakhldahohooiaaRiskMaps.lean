/- risk.leads, risk.sinks: what the tables hold, whatever the order in which they are laid; risk.Nav's contract. -/
import Derived.Test.YtakhldahohooiaaRiskKeys
import Derived.WalkKit
import Derived.RegionTactic
namespace Go.Proofs.Ytakhldahohooiaa
set_option linter.unusedVariables false
set_option linter.unusedSimpArgs false
open Go.RowKit Go.Lib Go.ChangeMaps Go.Proofs.YtakhldahohooiaaW.PrintWords Go.Proofs.YtakhldahohooiaaW.PrintLast

theorem op_inj : ∀ {L : List Put}, (L.map (·.op)).Nodup → ∀ p ∈ L, ∀ q ∈ L, p.op = q.op → p = q
  | [], _, p, hp, _, _, _ => by simp at hp
  | x :: L, h, p, hp, q, hq, e => by
    rw [List.map_cons, List.nodup_cons] at h
    rcases List.mem_cons.1 hp with h1 | h1 <;> rcases List.mem_cons.1 hq with h2 | h2
    · rw [h1, h2]
    · exact absurd (List.mem_map.2 ⟨q, h2, by rw [← e, h1]⟩) h.1
    · exact absurd (List.mem_map.2 ⟨p, h1, by rw [e, h2]⟩) h.1
    · exact op_inj h.2 p h1 q h2 e
theorem apart_of {L : List Put} (h : (L.map (·.op)).Nodup) (h2 : ∀ p ∈ L, ∀ q ∈ L, p.el = q.el → p.att = q.att → p.op = q.op) : Apart L := fun p hp q hq h3 h4 => op_inj h p hp q hq (h2 p hp q hq h3 h4)
theorem exec_insert {oi : Oper} {a : Act} {P : Program} {w w1 : World} {t : TypeId} {m k : Tmp} {val M K : Value} (hop : oi.op = Op.insert t (.tmp m) (.tmp k) (.const val)) (e1 : a.tmps[m]? = some M) (e2 : a.tmps[k]? = some K)
    (h : (Instr.mapUpdate t M K val).run P w = .ok () w1) : (execOp a.eval oi).run P w = .ok .skip w1 := by
  simp [execOp, hop, Act.eval, e1, e2, h, Result.andThen]
theorem exec_move {oi : Oper} {a : Act} {P : Program} {w : World} {m : Tmp} {M : Value} (hop : oi.op = Op.move (.tmp m)) (e1 : a.tmps[m]? = some M) : (execOp a.eval oi).run P w = .ok (.value M) w := by
  simp [execOp, hop, Act.eval, e1, Result.andThen]
theorem exec_assign {oi : Oper} {a : Act} {P : Program} {w : World} {m : Tmp} {M : Value} (hop : oi.op = Op.assign (.tmp m)) (e1 : a.tmps[m]? = some M) : (execOp a.eval oi).run P w = .ok (.value M) w := by
  simp [execOp, hop, Act.eval, e1, Result.andThen]
theorem below_block {w w' : World} {g : Nat} {o o' : Obj} (h : Below w.heap.size w w') (hg : w.heap.size ≤ g) : Below w.heap.size w (setBlock w' g o) :=
  h.trans ⟨rfl, rfl, rfl, by simp [setBlock], fun i hi => by
    show (w'.heap.setIfInBounds g o)[i]? = _
    rw [Array.getElem?_setIfInBounds, if_neg (by omega)]⟩

def leads_T : Bool × List (List Nat × List Nat) := (true, [([], []), ([], []), ([0, 1], [0, 1]), ([], []), ([0, 3], [0, 3]), ([], []), ([0, 5], [0, 5]), ([], []), ([0, 7], [0, 7]), ([], []), ([0, 9], [0, 9]), ([], []), ([0, 11], [0, 11]), ([], []), ([0, 13], [0, 13]), ([], []), ([0, 15], [0, 15]), ([], []), ([0, 17], [0, 17]), ([0, 1, 2, 3, 4, 5, 6, 7, 8, 9, 10, 11, 12, 13, 14, 15, 16, 17, 18], [0]), ([19, 0, 1, 2, 3, 4, 5, 6, 7, 8, 9, 10, 11, 12, 13, 14, 15, 16, 17, 18, 19], [19])])
def leads_B : List Nat := [0, 0, 3, 0, 9, 0, 33, 0, 129, 0, 513, 0, 2049, 0, 8193, 0, 32769, 0, 131073, 524287, 1048575]
theorem leads_tab : rtab .any (opsOf Try.f44 1) = leads_T := by kernel_rfl
theorem leads_bits : waitsOk leads_T.2 leads_B = true := by kernel_rfl
def leadsL : List Put := [⟨2, ⟨#[97]⟩, ⟨#[104, 114, 101, 102]⟩, .bool true⟩, ⟨4, ⟨#[97, 114, 101, 97]⟩, ⟨#[104, 114, 101, 102]⟩, .bool true⟩, ⟨6, ⟨#[98, 117, 116, 116, 111, 110]⟩, ⟨#[102, 111, 114, 109, 97, 99, 116, 105, 111, 110]⟩, .bool true⟩, ⟨8, ⟨#[101, 109, 98, 101, 100]⟩, ⟨#[115, 114, 99]⟩, .bool true⟩, ⟨10, ⟨#[102, 111, 114, 109]⟩, ⟨#[97, 99, 116, 105, 111, 110]⟩, .bool true⟩, ⟨12, ⟨#[102, 114, 97, 109, 101]⟩, ⟨#[115, 114, 99]⟩, .bool true⟩, ⟨14, ⟨#[105, 102, 114, 97, 109, 101]⟩, ⟨#[115, 114, 99]⟩, .bool true⟩, ⟨16, ⟨#[105, 110, 112, 117, 116]⟩, ⟨#[102, 111, 114, 109, 97, 99, 116, 105, 111, 110]⟩, .bool true⟩, ⟨18, ⟨#[111, 98, 106, 101, 99, 116]⟩, ⟨#[100, 97, 116, 97]⟩, .bool true⟩]
theorem leads_apart : Apart leadsL := apart_of (by decide) (by unfold leadsL; decide +kernel)
theorem leads_ops : ∀ p ∈ leadsL, ∀ q ∈ leadsL, p.op = q.op → p = q := op_inj (by decide)
set_option maxHeartbeats 4000000 in
set_option maxRecDepth 100000 in
theorem leads_calls (w : World) : Calls Try.prog 44 #[] w fun e w' => ∃ (g : Nat) (es : Array MapEntry) (ck : Nat) (b : Nat → Bool), e = .returned (.map (some g)) ∧ w.heap.size ≤ g ∧ w'.heap[g]? = some (.map es ck) ∧ Ent leadsL b es ∧ (∀ q ∈ leadsL, b q.op = true) ∧ Below w.heap.size w w' := by
  have mixed : Try.prog.follows Departure.mixedOrders = true := by kernel_rfl
  go_enter Try.func44, Try.ntmps44
  go_upto_region 1 with fail
  refine start_ (n := 21) (S := fun w' => True) (ds := []) #[false, false, false, false, false, false, false, false, false, false, false, false, false, false, false, false, false, false, false, false, false] mixed rfl rfl trivial (fun hHeld => ?_)
  refine with_tabW leads_tab leads_bits (fun HT_ HW_ => ?_)
  refine pure_ (i := 1) (N := some 2) (v := pk ⟨#[97]⟩ ⟨#[104, 114, 101, 102]⟩) #[false, true, false, false, false, false, false, false, false, false, false, false, false, false, false, false, false, false, false, false, false] rfl rfl (any_of HT_.out (by kernel_rfl)) (fun _ _ _ h => h) (Or.inl ⟨by rfl, fun w' => ?_⟩) rfl ?_
  · go_simp
    rfl
  simp only [Act.put, List.setIfInBounds_toArray, List.set_cons_zero, List.set_cons_succ]
  refine pure_ (i := 3) (N := some 3) (v := pk ⟨#[97, 114, 101, 97]⟩ ⟨#[104, 114, 101, 102]⟩) #[false, true, false, true, false, false, false, false, false, false, false, false, false, false, false, false, false, false, false, false, false] rfl rfl (any_of HT_.out (by kernel_rfl)) (fun _ _ _ h => h) (Or.inl ⟨by rfl, fun w' => ?_⟩) rfl ?_
  · go_simp
    rfl
  simp only [Act.put, List.setIfInBounds_toArray, List.set_cons_zero, List.set_cons_succ]
  refine pure_ (i := 5) (N := some 4) (v := pk ⟨#[98, 117, 116, 116, 111, 110]⟩ ⟨#[102, 111, 114, 109, 97, 99, 116, 105, 111, 110]⟩) #[false, true, false, true, false, true, false, false, false, false, false, false, false, false, false, false, false, false, false, false, false] rfl rfl (any_of HT_.out (by kernel_rfl)) (fun _ _ _ h => h) (Or.inl ⟨by rfl, fun w' => ?_⟩) rfl ?_
  · go_simp
    rfl
  simp only [Act.put, List.setIfInBounds_toArray, List.set_cons_zero, List.set_cons_succ]
  refine pure_ (i := 7) (N := some 5) (v := pk ⟨#[101, 109, 98, 101, 100]⟩ ⟨#[115, 114, 99]⟩) #[false, true, false, true, false, true, false, true, false, false, false, false, false, false, false, false, false, false, false, false, false] rfl rfl (any_of HT_.out (by kernel_rfl)) (fun _ _ _ h => h) (Or.inl ⟨by rfl, fun w' => ?_⟩) rfl ?_
  · go_simp
    rfl
  simp only [Act.put, List.setIfInBounds_toArray, List.set_cons_zero, List.set_cons_succ]
  refine pure_ (i := 9) (N := some 6) (v := pk ⟨#[102, 111, 114, 109]⟩ ⟨#[97, 99, 116, 105, 111, 110]⟩) #[false, true, false, true, false, true, false, true, false, true, false, false, false, false, false, false, false, false, false, false, false] rfl rfl (any_of HT_.out (by kernel_rfl)) (fun _ _ _ h => h) (Or.inl ⟨by rfl, fun w' => ?_⟩) rfl ?_
  · go_simp
    rfl
  simp only [Act.put, List.setIfInBounds_toArray, List.set_cons_zero, List.set_cons_succ]
  refine pure_ (i := 11) (N := some 7) (v := pk ⟨#[102, 114, 97, 109, 101]⟩ ⟨#[115, 114, 99]⟩) #[false, true, false, true, false, true, false, true, false, true, false, true, false, false, false, false, false, false, false, false, false] rfl rfl (any_of HT_.out (by kernel_rfl)) (fun _ _ _ h => h) (Or.inl ⟨by rfl, fun w' => ?_⟩) rfl ?_
  · go_simp
    rfl
  simp only [Act.put, List.setIfInBounds_toArray, List.set_cons_zero, List.set_cons_succ]
  refine pure_ (i := 13) (N := some 8) (v := pk ⟨#[105, 102, 114, 97, 109, 101]⟩ ⟨#[115, 114, 99]⟩) #[false, true, false, true, false, true, false, true, false, true, false, true, false, true, false, false, false, false, false, false, false] rfl rfl (any_of HT_.out (by kernel_rfl)) (fun _ _ _ h => h) (Or.inl ⟨by rfl, fun w' => ?_⟩) rfl ?_
  · go_simp
    rfl
  simp only [Act.put, List.setIfInBounds_toArray, List.set_cons_zero, List.set_cons_succ]
  refine pure_ (i := 15) (N := some 9) (v := pk ⟨#[105, 110, 112, 117, 116]⟩ ⟨#[102, 111, 114, 109, 97, 99, 116, 105, 111, 110]⟩) #[false, true, false, true, false, true, false, true, false, true, false, true, false, true, false, true, false, false, false, false, false] rfl rfl (any_of HT_.out (by kernel_rfl)) (fun _ _ _ h => h) (Or.inl ⟨by rfl, fun w' => ?_⟩) rfl ?_
  · go_simp
    rfl
  simp only [Act.put, List.setIfInBounds_toArray, List.set_cons_zero, List.set_cons_succ]
  refine pure_ (i := 17) (N := some 10) (v := pk ⟨#[111, 98, 106, 101, 99, 116]⟩ ⟨#[100, 97, 116, 97]⟩) #[false, true, false, true, false, true, false, true, false, true, false, true, false, true, false, true, false, true, false, false, false] rfl rfl (any_of HT_.out (by kernel_rfl)) (fun _ _ _ h => h) (Or.inl ⟨by rfl, fun w' => ?_⟩) rfl ?_
  · go_simp
    rfl
  simp only [Act.put, List.setIfInBounds_toArray, List.set_cons_zero, List.set_cons_succ]
  refine inv_at [0, 2, 4, 6, 8, 10, 12, 14, 16, 18, 19, 20] (fun a0_ b a w' => ∃ (g : Nat) (es : Array MapEntry) (ck : Nat) (m1 m2 : Value), a = putSel a0_ b [(0, 1, .map (some g)), (19, 11, m1), (20, 0, m2)] ∧ Below w.heap.size w w' ∧ (b 0 = true → w.heap.size ≤ g ∧ w'.heap[g]? = some (.map es ck) ∧ Ent leadsL b es) ∧ (b 19 = true → b 0 = true ∧ m1 = .map (some g)) ∧ (b 20 = true → b 0 = true ∧ m2 = .map (some g))) HT_.out HW_.out (by kernel_rfl) (by kernel_rfl) ?_ ?_ ?_
  · exact ⟨0, #[], 0, .bool false, .bool false, by simp only [putSel, Bool.false_eq_true, if_false], below_drew (Below.refl _ _), fun h_ => absurd h_ (by decide), fun h_ => absurd h_ (by decide), fun h_ => absurd h_ (by decide)⟩
  · refine steps_cons ?_ ?_
    · rintro b a w' ⟨g, es, ck, m1, m2, ha, hb, h0, h1, h2⟩ hb_ hon hoff
      refine ⟨_, rfl, fun K hK => ?_⟩
      refine value_ (w1 := w'.alloc (.map #[] 0)) (v := .map (some w'.heap.size)) (by rfl) rfl ?_ ?_
      · go_simp
        rfl
      · refine hK.out _ _ ⟨w'.heap.size, #[], 0, m1, m2, by rw [ha]; exact putSel_upk 0 hb_ rfl rfl rfl, hb.alloc hb.size _, fun _ => ⟨hb.size, (MapKept.heap_alloc w' _).1, Ent.start (fun q hq => ?_)⟩, fun h_ => ?_, fun h_ => ?_⟩
        · simp only [leadsL, List.mem_cons, List.not_mem_nil, or_false] at hq
          rcases hq with rfl | rfl | rfl | rfl | rfl | rfl | rfl | rfl | rfl
          all_goals exact (up_ne (by decide)).trans (hoff _ (by kernel_rfl))
        · rw [up_ne (by decide)] at h_; rw [(h1 h_).1] at hb_; cases hb_
        · rw [up_ne (by decide)] at h_; rw [(h2 h_).1] at hb_; cases hb_
    refine steps_cons ?_ ?_
    · rintro b a w' ⟨g, es, ck, m1, m2, ha, hb, h0, h1, h2⟩ hb_ hon hoff
      refine ⟨_, rfl, fun K hK => ?_⟩
      have hb0 := hon 0 (by kernel_rfl)
      have e1 : a.tmps[1]? = some (.map (some g)) := by rw [ha]; exact putSel_on (e := (0, 1, .map (some g))) 0 rfl rfl hb0 rfl
      have e2 : a.tmps[2]? = some (pk ⟨#[97]⟩ ⟨#[104, 114, 101, 102]⟩) := by rw [ha]; exact (putSel_off rfl).trans rfl
      obtain ⟨k1, k2, k3⟩ := h0 hb0
      have hq : (⟨2, ⟨#[97]⟩, ⟨#[104, 114, 101, 102]⟩, .bool true⟩ : Put) ∈ leadsL := by unfold leadsL; repeat (first | exact List.mem_cons_self | apply List.mem_cons_of_mem)
      refine skip_ (by rfl) rfl (exec_insert rfl e1 e2 (store_run Try.underlying60 k2 k3 leads_apart hq hb_)) ?_
      refine hK.out _ _ ⟨g, _, _, m1, m2, ha.trans (putSel_same rfl).symm, below_block hb k1 (o' := .map #[] 0), fun _ => ⟨k1, heap_setBlock_same k2 _, k3.push hq ck (fun p hp he => leads_ops p hp _ hq he)⟩, fun h_ => ?_, fun h_ => ?_⟩
      · rw [up_ne (by decide)] at h_; exact ⟨(up_ne (by decide)).trans hb0, (h1 h_).2⟩
      · rw [up_ne (by decide)] at h_; exact ⟨(up_ne (by decide)).trans hb0, (h2 h_).2⟩
    refine steps_cons ?_ ?_
    · rintro b a w' ⟨g, es, ck, m1, m2, ha, hb, h0, h1, h2⟩ hb_ hon hoff
      refine ⟨_, rfl, fun K hK => ?_⟩
      have hb0 := hon 0 (by kernel_rfl)
      have e1 : a.tmps[1]? = some (.map (some g)) := by rw [ha]; exact putSel_on (e := (0, 1, .map (some g))) 0 rfl rfl hb0 rfl
      have e2 : a.tmps[3]? = some (pk ⟨#[97, 114, 101, 97]⟩ ⟨#[104, 114, 101, 102]⟩) := by rw [ha]; exact (putSel_off rfl).trans rfl
      obtain ⟨k1, k2, k3⟩ := h0 hb0
      have hq : (⟨4, ⟨#[97, 114, 101, 97]⟩, ⟨#[104, 114, 101, 102]⟩, .bool true⟩ : Put) ∈ leadsL := by unfold leadsL; repeat (first | exact List.mem_cons_self | apply List.mem_cons_of_mem)
      refine skip_ (by rfl) rfl (exec_insert rfl e1 e2 (store_run Try.underlying60 k2 k3 leads_apart hq hb_)) ?_
      refine hK.out _ _ ⟨g, _, _, m1, m2, ha.trans (putSel_same rfl).symm, below_block hb k1 (o' := .map #[] 0), fun _ => ⟨k1, heap_setBlock_same k2 _, k3.push hq ck (fun p hp he => leads_ops p hp _ hq he)⟩, fun h_ => ?_, fun h_ => ?_⟩
      · rw [up_ne (by decide)] at h_; exact ⟨(up_ne (by decide)).trans hb0, (h1 h_).2⟩
      · rw [up_ne (by decide)] at h_; exact ⟨(up_ne (by decide)).trans hb0, (h2 h_).2⟩
    refine steps_cons ?_ ?_
    · rintro b a w' ⟨g, es, ck, m1, m2, ha, hb, h0, h1, h2⟩ hb_ hon hoff
      refine ⟨_, rfl, fun K hK => ?_⟩
      have hb0 := hon 0 (by kernel_rfl)
      have e1 : a.tmps[1]? = some (.map (some g)) := by rw [ha]; exact putSel_on (e := (0, 1, .map (some g))) 0 rfl rfl hb0 rfl
      have e2 : a.tmps[4]? = some (pk ⟨#[98, 117, 116, 116, 111, 110]⟩ ⟨#[102, 111, 114, 109, 97, 99, 116, 105, 111, 110]⟩) := by rw [ha]; exact (putSel_off rfl).trans rfl
      obtain ⟨k1, k2, k3⟩ := h0 hb0
      have hq : (⟨6, ⟨#[98, 117, 116, 116, 111, 110]⟩, ⟨#[102, 111, 114, 109, 97, 99, 116, 105, 111, 110]⟩, .bool true⟩ : Put) ∈ leadsL := by unfold leadsL; repeat (first | exact List.mem_cons_self | apply List.mem_cons_of_mem)
      refine skip_ (by rfl) rfl (exec_insert rfl e1 e2 (store_run Try.underlying60 k2 k3 leads_apart hq hb_)) ?_
      refine hK.out _ _ ⟨g, _, _, m1, m2, ha.trans (putSel_same rfl).symm, below_block hb k1 (o' := .map #[] 0), fun _ => ⟨k1, heap_setBlock_same k2 _, k3.push hq ck (fun p hp he => leads_ops p hp _ hq he)⟩, fun h_ => ?_, fun h_ => ?_⟩
      · rw [up_ne (by decide)] at h_; exact ⟨(up_ne (by decide)).trans hb0, (h1 h_).2⟩
      · rw [up_ne (by decide)] at h_; exact ⟨(up_ne (by decide)).trans hb0, (h2 h_).2⟩
    refine steps_cons ?_ ?_
    · rintro b a w' ⟨g, es, ck, m1, m2, ha, hb, h0, h1, h2⟩ hb_ hon hoff
      refine ⟨_, rfl, fun K hK => ?_⟩
      have hb0 := hon 0 (by kernel_rfl)
      have e1 : a.tmps[1]? = some (.map (some g)) := by rw [ha]; exact putSel_on (e := (0, 1, .map (some g))) 0 rfl rfl hb0 rfl
      have e2 : a.tmps[5]? = some (pk ⟨#[101, 109, 98, 101, 100]⟩ ⟨#[115, 114, 99]⟩) := by rw [ha]; exact (putSel_off rfl).trans rfl
      obtain ⟨k1, k2, k3⟩ := h0 hb0
      have hq : (⟨8, ⟨#[101, 109, 98, 101, 100]⟩, ⟨#[115, 114, 99]⟩, .bool true⟩ : Put) ∈ leadsL := by unfold leadsL; repeat (first | exact List.mem_cons_self | apply List.mem_cons_of_mem)
      refine skip_ (by rfl) rfl (exec_insert rfl e1 e2 (store_run Try.underlying60 k2 k3 leads_apart hq hb_)) ?_
      refine hK.out _ _ ⟨g, _, _, m1, m2, ha.trans (putSel_same rfl).symm, below_block hb k1 (o' := .map #[] 0), fun _ => ⟨k1, heap_setBlock_same k2 _, k3.push hq ck (fun p hp he => leads_ops p hp _ hq he)⟩, fun h_ => ?_, fun h_ => ?_⟩
      · rw [up_ne (by decide)] at h_; exact ⟨(up_ne (by decide)).trans hb0, (h1 h_).2⟩
      · rw [up_ne (by decide)] at h_; exact ⟨(up_ne (by decide)).trans hb0, (h2 h_).2⟩
    refine steps_cons ?_ ?_
    · rintro b a w' ⟨g, es, ck, m1, m2, ha, hb, h0, h1, h2⟩ hb_ hon hoff
      refine ⟨_, rfl, fun K hK => ?_⟩
      have hb0 := hon 0 (by kernel_rfl)
      have e1 : a.tmps[1]? = some (.map (some g)) := by rw [ha]; exact putSel_on (e := (0, 1, .map (some g))) 0 rfl rfl hb0 rfl
      have e2 : a.tmps[6]? = some (pk ⟨#[102, 111, 114, 109]⟩ ⟨#[97, 99, 116, 105, 111, 110]⟩) := by rw [ha]; exact (putSel_off rfl).trans rfl
      obtain ⟨k1, k2, k3⟩ := h0 hb0
      have hq : (⟨10, ⟨#[102, 111, 114, 109]⟩, ⟨#[97, 99, 116, 105, 111, 110]⟩, .bool true⟩ : Put) ∈ leadsL := by unfold leadsL; repeat (first | exact List.mem_cons_self | apply List.mem_cons_of_mem)
      refine skip_ (by rfl) rfl (exec_insert rfl e1 e2 (store_run Try.underlying60 k2 k3 leads_apart hq hb_)) ?_
      refine hK.out _ _ ⟨g, _, _, m1, m2, ha.trans (putSel_same rfl).symm, below_block hb k1 (o' := .map #[] 0), fun _ => ⟨k1, heap_setBlock_same k2 _, k3.push hq ck (fun p hp he => leads_ops p hp _ hq he)⟩, fun h_ => ?_, fun h_ => ?_⟩
      · rw [up_ne (by decide)] at h_; exact ⟨(up_ne (by decide)).trans hb0, (h1 h_).2⟩
      · rw [up_ne (by decide)] at h_; exact ⟨(up_ne (by decide)).trans hb0, (h2 h_).2⟩
    refine steps_cons ?_ ?_
    · rintro b a w' ⟨g, es, ck, m1, m2, ha, hb, h0, h1, h2⟩ hb_ hon hoff
      refine ⟨_, rfl, fun K hK => ?_⟩
      have hb0 := hon 0 (by kernel_rfl)
      have e1 : a.tmps[1]? = some (.map (some g)) := by rw [ha]; exact putSel_on (e := (0, 1, .map (some g))) 0 rfl rfl hb0 rfl
      have e2 : a.tmps[7]? = some (pk ⟨#[102, 114, 97, 109, 101]⟩ ⟨#[115, 114, 99]⟩) := by rw [ha]; exact (putSel_off rfl).trans rfl
      obtain ⟨k1, k2, k3⟩ := h0 hb0
      have hq : (⟨12, ⟨#[102, 114, 97, 109, 101]⟩, ⟨#[115, 114, 99]⟩, .bool true⟩ : Put) ∈ leadsL := by unfold leadsL; repeat (first | exact List.mem_cons_self | apply List.mem_cons_of_mem)
      refine skip_ (by rfl) rfl (exec_insert rfl e1 e2 (store_run Try.underlying60 k2 k3 leads_apart hq hb_)) ?_
      refine hK.out _ _ ⟨g, _, _, m1, m2, ha.trans (putSel_same rfl).symm, below_block hb k1 (o' := .map #[] 0), fun _ => ⟨k1, heap_setBlock_same k2 _, k3.push hq ck (fun p hp he => leads_ops p hp _ hq he)⟩, fun h_ => ?_, fun h_ => ?_⟩
      · rw [up_ne (by decide)] at h_; exact ⟨(up_ne (by decide)).trans hb0, (h1 h_).2⟩
      · rw [up_ne (by decide)] at h_; exact ⟨(up_ne (by decide)).trans hb0, (h2 h_).2⟩
    refine steps_cons ?_ ?_
    · rintro b a w' ⟨g, es, ck, m1, m2, ha, hb, h0, h1, h2⟩ hb_ hon hoff
      refine ⟨_, rfl, fun K hK => ?_⟩
      have hb0 := hon 0 (by kernel_rfl)
      have e1 : a.tmps[1]? = some (.map (some g)) := by rw [ha]; exact putSel_on (e := (0, 1, .map (some g))) 0 rfl rfl hb0 rfl
      have e2 : a.tmps[8]? = some (pk ⟨#[105, 102, 114, 97, 109, 101]⟩ ⟨#[115, 114, 99]⟩) := by rw [ha]; exact (putSel_off rfl).trans rfl
      obtain ⟨k1, k2, k3⟩ := h0 hb0
      have hq : (⟨14, ⟨#[105, 102, 114, 97, 109, 101]⟩, ⟨#[115, 114, 99]⟩, .bool true⟩ : Put) ∈ leadsL := by unfold leadsL; repeat (first | exact List.mem_cons_self | apply List.mem_cons_of_mem)
      refine skip_ (by rfl) rfl (exec_insert rfl e1 e2 (store_run Try.underlying60 k2 k3 leads_apart hq hb_)) ?_
      refine hK.out _ _ ⟨g, _, _, m1, m2, ha.trans (putSel_same rfl).symm, below_block hb k1 (o' := .map #[] 0), fun _ => ⟨k1, heap_setBlock_same k2 _, k3.push hq ck (fun p hp he => leads_ops p hp _ hq he)⟩, fun h_ => ?_, fun h_ => ?_⟩
      · rw [up_ne (by decide)] at h_; exact ⟨(up_ne (by decide)).trans hb0, (h1 h_).2⟩
      · rw [up_ne (by decide)] at h_; exact ⟨(up_ne (by decide)).trans hb0, (h2 h_).2⟩
    refine steps_cons ?_ ?_
    · rintro b a w' ⟨g, es, ck, m1, m2, ha, hb, h0, h1, h2⟩ hb_ hon hoff
      refine ⟨_, rfl, fun K hK => ?_⟩
      have hb0 := hon 0 (by kernel_rfl)
      have e1 : a.tmps[1]? = some (.map (some g)) := by rw [ha]; exact putSel_on (e := (0, 1, .map (some g))) 0 rfl rfl hb0 rfl
      have e2 : a.tmps[9]? = some (pk ⟨#[105, 110, 112, 117, 116]⟩ ⟨#[102, 111, 114, 109, 97, 99, 116, 105, 111, 110]⟩) := by rw [ha]; exact (putSel_off rfl).trans rfl
      obtain ⟨k1, k2, k3⟩ := h0 hb0
      have hq : (⟨16, ⟨#[105, 110, 112, 117, 116]⟩, ⟨#[102, 111, 114, 109, 97, 99, 116, 105, 111, 110]⟩, .bool true⟩ : Put) ∈ leadsL := by unfold leadsL; repeat (first | exact List.mem_cons_self | apply List.mem_cons_of_mem)
      refine skip_ (by rfl) rfl (exec_insert rfl e1 e2 (store_run Try.underlying60 k2 k3 leads_apart hq hb_)) ?_
      refine hK.out _ _ ⟨g, _, _, m1, m2, ha.trans (putSel_same rfl).symm, below_block hb k1 (o' := .map #[] 0), fun _ => ⟨k1, heap_setBlock_same k2 _, k3.push hq ck (fun p hp he => leads_ops p hp _ hq he)⟩, fun h_ => ?_, fun h_ => ?_⟩
      · rw [up_ne (by decide)] at h_; exact ⟨(up_ne (by decide)).trans hb0, (h1 h_).2⟩
      · rw [up_ne (by decide)] at h_; exact ⟨(up_ne (by decide)).trans hb0, (h2 h_).2⟩
    refine steps_cons ?_ ?_
    · rintro b a w' ⟨g, es, ck, m1, m2, ha, hb, h0, h1, h2⟩ hb_ hon hoff
      refine ⟨_, rfl, fun K hK => ?_⟩
      have hb0 := hon 0 (by kernel_rfl)
      have e1 : a.tmps[1]? = some (.map (some g)) := by rw [ha]; exact putSel_on (e := (0, 1, .map (some g))) 0 rfl rfl hb0 rfl
      have e2 : a.tmps[10]? = some (pk ⟨#[111, 98, 106, 101, 99, 116]⟩ ⟨#[100, 97, 116, 97]⟩) := by rw [ha]; exact (putSel_off rfl).trans rfl
      obtain ⟨k1, k2, k3⟩ := h0 hb0
      have hq : (⟨18, ⟨#[111, 98, 106, 101, 99, 116]⟩, ⟨#[100, 97, 116, 97]⟩, .bool true⟩ : Put) ∈ leadsL := by unfold leadsL; repeat (first | exact List.mem_cons_self | apply List.mem_cons_of_mem)
      refine skip_ (by rfl) rfl (exec_insert rfl e1 e2 (store_run Try.underlying60 k2 k3 leads_apart hq hb_)) ?_
      refine hK.out _ _ ⟨g, _, _, m1, m2, ha.trans (putSel_same rfl).symm, below_block hb k1 (o' := .map #[] 0), fun _ => ⟨k1, heap_setBlock_same k2 _, k3.push hq ck (fun p hp he => leads_ops p hp _ hq he)⟩, fun h_ => ?_, fun h_ => ?_⟩
      · rw [up_ne (by decide)] at h_; exact ⟨(up_ne (by decide)).trans hb0, (h1 h_).2⟩
      · rw [up_ne (by decide)] at h_; exact ⟨(up_ne (by decide)).trans hb0, (h2 h_).2⟩
    refine steps_cons ?_ ?_
    · rintro b a w' ⟨g, es, ck, m1, m2, ha, hb, h0, h1, h2⟩ hb_ hon hoff
      refine ⟨_, rfl, fun K hK => ?_⟩
      have hb0 := hon 0 (by kernel_rfl)
      have e1 : a.tmps[1]? = some (.map (some g)) := by rw [ha]; exact putSel_on (e := (0, 1, .map (some g))) 0 rfl rfl hb0 rfl
      refine value_ (w1 := w') (v := .map (some g)) (by rfl) rfl (exec_move rfl e1) ?_
      obtain ⟨k1, k2, k3⟩ := h0 hb0
      refine hK.out _ _ ⟨g, es, ck, .map (some g), m2, by rw [ha]; exact putSel_upk 1 hb_ rfl rfl rfl, hb, fun _ => ⟨k1, k2, ⟨fun e he => by obtain ⟨q, hq, hqb, hh⟩ := k3.1 e he; exact ⟨q, hq, (by unfold up; split <;> simp [hqb]), hh⟩, fun q hq hqb => k3.2 q hq (by rw [up_ne (by revert hq; unfold leadsL; intro hq h_; simp only [List.mem_cons, List.not_mem_nil, or_false] at hq; rcases hq with rfl | rfl | rfl | rfl | rfl | rfl | rfl | rfl | rfl <;> cases h_)] at hqb; exact hqb)⟩⟩, fun h_ => ?_, fun h_ => ?_⟩
      · exact ⟨(up_ne (by decide)).trans hb0, rfl⟩
      · rw [up_ne (by decide)] at h_; exact ⟨(up_ne (by decide)).trans hb0, (h2 h_).2⟩
    refine steps_cons ?_ ?_
    · rintro b a w' ⟨g, es, ck, m1, m2, ha, hb, h0, h1, h2⟩ hb_ hon hoff
      refine ⟨_, rfl, fun K hK => ?_⟩
      have hb0 := hon 0 (by kernel_rfl)
      have e1 : a.tmps[11]? = some (.map (some g)) := by rw [ha, ← (h1 (hon 19 (by kernel_rfl))).2]; exact putSel_on (e := (19, 11, m1)) 1 rfl rfl (hon 19 (by kernel_rfl)) rfl
      refine value_ (w1 := w') (v := .map (some g)) (by rfl) rfl (exec_assign rfl e1) ?_
      obtain ⟨k1, k2, k3⟩ := h0 hb0
      refine hK.out _ _ ⟨g, es, ck, m1, .map (some g), by rw [ha]; exact putSel_upk 2 hb_ rfl rfl rfl, hb, fun _ => ⟨k1, k2, ⟨fun e he => by obtain ⟨q, hq, hqb, hh⟩ := k3.1 e he; exact ⟨q, hq, (by unfold up; split <;> simp [hqb]), hh⟩, fun q hq hqb => k3.2 q hq (by rw [up_ne (by revert hq; unfold leadsL; intro hq h_; simp only [List.mem_cons, List.not_mem_nil, or_false] at hq; rcases hq with rfl | rfl | rfl | rfl | rfl | rfl | rfl | rfl | rfl <;> cases h_)] at hqb; exact hqb)⟩⟩, fun h_ => ?_, fun h_ => ?_⟩
      · rw [up_ne (by decide)] at h_; exact ⟨(up_ne (by decide)).trans hb0, (h1 h_).2⟩
      · exact ⟨(up_ne (by decide)).trans hb0, rfl⟩
    exact steps_nil
  · rintro b a w' hall ⟨g, es, ck, m1, m2, ha, hb, h0, h1, h2⟩
    have hb0 := hall 0 (by kernel_rfl)
    have hb19 := hall 19 (by kernel_rfl)
    have hb20 := hall 20 (by kernel_rfl)
    obtain rfl := (h1 hb19).2
    obtain rfl := (h2 hb20).2
    obtain ⟨k1, k2, k3⟩ := h0 hb0
    have hops : ∀ q ∈ leadsL, b q.op = true := fun q hq => by
      simp only [leadsL, List.mem_cons, List.not_mem_nil, or_false] at hq
      rcases hq with rfl | rfl | rfl | rfl | rfl | rfl | rfl | rfl | rfl
      all_goals exact hall _ (by kernel_rfl)
    have fin := hid (show ∃ (g' : Nat) (es : Array MapEntry) (ck : Nat) (b : Nat → Bool), (Ending.returned (.map (some g)) = .returned (.map (some g'))) ∧ w.heap.size ≤ g' ∧ w'.heap[g']? = some (.map es ck) ∧ Ent leadsL b es ∧ (∀ q ∈ leadsL, b q.op = true) ∧ Below w.heap.size w w' from ⟨g, es, ck, b, rfl, k1, k2, k3, hops, hb⟩)
    subst ha
    simp only [putSel, hb0, hb19, hb20, if_true, Act.put, List.setIfInBounds_toArray, List.set_cons_zero, List.set_cons_succ]
    clear hall h0 h1 h2 k1 k2 k3 hops hb hb0 hb19 hb20
    go_wp2
    go_ret
    exact fin.out
def sinks_T : Bool × List (List Nat × List Nat) := (true, [([], []), ([], []), ([0, 1], [0, 1]), ([], []), ([0, 3], [0, 3]), ([], []), ([0, 5], [0, 5]), ([], []), ([0, 7], [0, 7]), ([0, 1, 2, 3, 4, 5, 6, 7, 8], [0]), ([9, 0, 1, 2, 3, 4, 5, 6, 7, 8, 9], [9])])
def sinks_B : List Nat := [0, 0, 3, 0, 9, 0, 33, 0, 129, 511, 1023]
theorem sinks_tab : rtab .any (opsOf Try.f65 1) = sinks_T := by kernel_rfl
theorem sinks_bits : waitsOk sinks_T.2 sinks_B = true := by kernel_rfl
def sinksL : List Put := [⟨2, ⟨#[115, 99, 114, 105, 112, 116]⟩, ⟨#[115, 114, 99]⟩, .int .i64 3⟩, ⟨4, ⟨#[101, 109, 98, 101, 100]⟩, ⟨#[115, 114, 99]⟩, .int .i64 3⟩, ⟨6, ⟨#[111, 98, 106, 101, 99, 116]⟩, ⟨#[100, 97, 116, 97]⟩, .int .i64 3⟩, ⟨8, ⟨#[105, 102, 114, 97, 109, 101]⟩, ⟨#[115, 114, 99, 100, 111, 99]⟩, .int .i64 1⟩]
theorem sinks_apart : Apart sinksL := apart_of (by decide) (by unfold sinksL; decide +kernel)
theorem sinks_ops : ∀ p ∈ sinksL, ∀ q ∈ sinksL, p.op = q.op → p = q := op_inj (by decide)
set_option maxHeartbeats 4000000 in
set_option maxRecDepth 100000 in
theorem sinks_calls (w : World) : Calls Try.prog 65 #[] w fun e w' => ∃ (g : Nat) (es : Array MapEntry) (ck : Nat) (b : Nat → Bool), e = .returned (.map (some g)) ∧ w.heap.size ≤ g ∧ w'.heap[g]? = some (.map es ck) ∧ Ent sinksL b es ∧ (∀ q ∈ sinksL, b q.op = true) ∧ Below w.heap.size w w' := by
  have mixed : Try.prog.follows Departure.mixedOrders = true := by kernel_rfl
  go_enter Try.func65, Try.ntmps65
  go_upto_region 1 with fail
  refine start_ (n := 11) (S := fun w' => True) (ds := []) #[false, false, false, false, false, false, false, false, false, false, false] mixed rfl rfl trivial (fun hHeld => ?_)
  refine with_tabW sinks_tab sinks_bits (fun HT_ HW_ => ?_)
  refine pure_ (i := 1) (N := some 2) (v := pk ⟨#[115, 99, 114, 105, 112, 116]⟩ ⟨#[115, 114, 99]⟩) #[false, true, false, false, false, false, false, false, false, false, false] rfl rfl (any_of HT_.out (by kernel_rfl)) (fun _ _ _ h => h) (Or.inl ⟨by rfl, fun w' => ?_⟩) rfl ?_
  · go_simp
    rfl
  simp only [Act.put, List.setIfInBounds_toArray, List.set_cons_zero, List.set_cons_succ]
  refine pure_ (i := 3) (N := some 3) (v := pk ⟨#[101, 109, 98, 101, 100]⟩ ⟨#[115, 114, 99]⟩) #[false, true, false, true, false, false, false, false, false, false, false] rfl rfl (any_of HT_.out (by kernel_rfl)) (fun _ _ _ h => h) (Or.inl ⟨by rfl, fun w' => ?_⟩) rfl ?_
  · go_simp
    rfl
  simp only [Act.put, List.setIfInBounds_toArray, List.set_cons_zero, List.set_cons_succ]
  refine pure_ (i := 5) (N := some 4) (v := pk ⟨#[111, 98, 106, 101, 99, 116]⟩ ⟨#[100, 97, 116, 97]⟩) #[false, true, false, true, false, true, false, false, false, false, false] rfl rfl (any_of HT_.out (by kernel_rfl)) (fun _ _ _ h => h) (Or.inl ⟨by rfl, fun w' => ?_⟩) rfl ?_
  · go_simp
    rfl
  simp only [Act.put, List.setIfInBounds_toArray, List.set_cons_zero, List.set_cons_succ]
  refine pure_ (i := 7) (N := some 5) (v := pk ⟨#[105, 102, 114, 97, 109, 101]⟩ ⟨#[115, 114, 99, 100, 111, 99]⟩) #[false, true, false, true, false, true, false, true, false, false, false] rfl rfl (any_of HT_.out (by kernel_rfl)) (fun _ _ _ h => h) (Or.inl ⟨by rfl, fun w' => ?_⟩) rfl ?_
  · go_simp
    rfl
  simp only [Act.put, List.setIfInBounds_toArray, List.set_cons_zero, List.set_cons_succ]
  refine inv_at [0, 2, 4, 6, 8, 9, 10] (fun a0_ b a w' => ∃ (g : Nat) (es : Array MapEntry) (ck : Nat) (m1 m2 : Value), a = putSel a0_ b [(0, 1, .map (some g)), (9, 6, m1), (10, 0, m2)] ∧ Below w.heap.size w w' ∧ (b 0 = true → w.heap.size ≤ g ∧ w'.heap[g]? = some (.map es ck) ∧ Ent sinksL b es) ∧ (b 9 = true → b 0 = true ∧ m1 = .map (some g)) ∧ (b 10 = true → b 0 = true ∧ m2 = .map (some g))) HT_.out HW_.out (by kernel_rfl) (by kernel_rfl) ?_ ?_ ?_
  · exact ⟨0, #[], 0, .bool false, .bool false, by simp only [putSel, Bool.false_eq_true, if_false], below_drew (Below.refl _ _), fun h_ => absurd h_ (by decide), fun h_ => absurd h_ (by decide), fun h_ => absurd h_ (by decide)⟩
  · refine steps_cons ?_ ?_
    · rintro b a w' ⟨g, es, ck, m1, m2, ha, hb, h0, h1, h2⟩ hb_ hon hoff
      refine ⟨_, rfl, fun K hK => ?_⟩
      refine value_ (w1 := w'.alloc (.map #[] 0)) (v := .map (some w'.heap.size)) (by rfl) rfl ?_ ?_
      · go_simp
        rfl
      · refine hK.out _ _ ⟨w'.heap.size, #[], 0, m1, m2, by rw [ha]; exact putSel_upk 0 hb_ rfl rfl rfl, hb.alloc hb.size _, fun _ => ⟨hb.size, (MapKept.heap_alloc w' _).1, Ent.start (fun q hq => ?_)⟩, fun h_ => ?_, fun h_ => ?_⟩
        · simp only [sinksL, List.mem_cons, List.not_mem_nil, or_false] at hq
          rcases hq with rfl | rfl | rfl | rfl
          all_goals exact (up_ne (by decide)).trans (hoff _ (by kernel_rfl))
        · rw [up_ne (by decide)] at h_; rw [(h1 h_).1] at hb_; cases hb_
        · rw [up_ne (by decide)] at h_; rw [(h2 h_).1] at hb_; cases hb_
    refine steps_cons ?_ ?_
    · rintro b a w' ⟨g, es, ck, m1, m2, ha, hb, h0, h1, h2⟩ hb_ hon hoff
      refine ⟨_, rfl, fun K hK => ?_⟩
      have hb0 := hon 0 (by kernel_rfl)
      have e1 : a.tmps[1]? = some (.map (some g)) := by rw [ha]; exact putSel_on (e := (0, 1, .map (some g))) 0 rfl rfl hb0 rfl
      have e2 : a.tmps[2]? = some (pk ⟨#[115, 99, 114, 105, 112, 116]⟩ ⟨#[115, 114, 99]⟩) := by rw [ha]; exact (putSel_off rfl).trans rfl
      obtain ⟨k1, k2, k3⟩ := h0 hb0
      have hq : (⟨2, ⟨#[115, 99, 114, 105, 112, 116]⟩, ⟨#[115, 114, 99]⟩, .int .i64 3⟩ : Put) ∈ sinksL := by unfold sinksL; repeat (first | exact List.mem_cons_self | apply List.mem_cons_of_mem)
      refine skip_ (by rfl) rfl (exec_insert rfl e1 e2 (store_run Try.underlying79 k2 k3 sinks_apart hq hb_)) ?_
      refine hK.out _ _ ⟨g, _, _, m1, m2, ha.trans (putSel_same rfl).symm, below_block hb k1 (o' := .map #[] 0), fun _ => ⟨k1, heap_setBlock_same k2 _, k3.push hq ck (fun p hp he => sinks_ops p hp _ hq he)⟩, fun h_ => ?_, fun h_ => ?_⟩
      · rw [up_ne (by decide)] at h_; exact ⟨(up_ne (by decide)).trans hb0, (h1 h_).2⟩
      · rw [up_ne (by decide)] at h_; exact ⟨(up_ne (by decide)).trans hb0, (h2 h_).2⟩
    refine steps_cons ?_ ?_
    · rintro b a w' ⟨g, es, ck, m1, m2, ha, hb, h0, h1, h2⟩ hb_ hon hoff
      refine ⟨_, rfl, fun K hK => ?_⟩
      have hb0 := hon 0 (by kernel_rfl)
      have e1 : a.tmps[1]? = some (.map (some g)) := by rw [ha]; exact putSel_on (e := (0, 1, .map (some g))) 0 rfl rfl hb0 rfl
      have e2 : a.tmps[3]? = some (pk ⟨#[101, 109, 98, 101, 100]⟩ ⟨#[115, 114, 99]⟩) := by rw [ha]; exact (putSel_off rfl).trans rfl
      obtain ⟨k1, k2, k3⟩ := h0 hb0
      have hq : (⟨4, ⟨#[101, 109, 98, 101, 100]⟩, ⟨#[115, 114, 99]⟩, .int .i64 3⟩ : Put) ∈ sinksL := by unfold sinksL; repeat (first | exact List.mem_cons_self | apply List.mem_cons_of_mem)
      refine skip_ (by rfl) rfl (exec_insert rfl e1 e2 (store_run Try.underlying79 k2 k3 sinks_apart hq hb_)) ?_
      refine hK.out _ _ ⟨g, _, _, m1, m2, ha.trans (putSel_same rfl).symm, below_block hb k1 (o' := .map #[] 0), fun _ => ⟨k1, heap_setBlock_same k2 _, k3.push hq ck (fun p hp he => sinks_ops p hp _ hq he)⟩, fun h_ => ?_, fun h_ => ?_⟩
      · rw [up_ne (by decide)] at h_; exact ⟨(up_ne (by decide)).trans hb0, (h1 h_).2⟩
      · rw [up_ne (by decide)] at h_; exact ⟨(up_ne (by decide)).trans hb0, (h2 h_).2⟩
    refine steps_cons ?_ ?_
    · rintro b a w' ⟨g, es, ck, m1, m2, ha, hb, h0, h1, h2⟩ hb_ hon hoff
      refine ⟨_, rfl, fun K hK => ?_⟩
      have hb0 := hon 0 (by kernel_rfl)
      have e1 : a.tmps[1]? = some (.map (some g)) := by rw [ha]; exact putSel_on (e := (0, 1, .map (some g))) 0 rfl rfl hb0 rfl
      have e2 : a.tmps[4]? = some (pk ⟨#[111, 98, 106, 101, 99, 116]⟩ ⟨#[100, 97, 116, 97]⟩) := by rw [ha]; exact (putSel_off rfl).trans rfl
      obtain ⟨k1, k2, k3⟩ := h0 hb0
      have hq : (⟨6, ⟨#[111, 98, 106, 101, 99, 116]⟩, ⟨#[100, 97, 116, 97]⟩, .int .i64 3⟩ : Put) ∈ sinksL := by unfold sinksL; repeat (first | exact List.mem_cons_self | apply List.mem_cons_of_mem)
      refine skip_ (by rfl) rfl (exec_insert rfl e1 e2 (store_run Try.underlying79 k2 k3 sinks_apart hq hb_)) ?_
      refine hK.out _ _ ⟨g, _, _, m1, m2, ha.trans (putSel_same rfl).symm, below_block hb k1 (o' := .map #[] 0), fun _ => ⟨k1, heap_setBlock_same k2 _, k3.push hq ck (fun p hp he => sinks_ops p hp _ hq he)⟩, fun h_ => ?_, fun h_ => ?_⟩
      · rw [up_ne (by decide)] at h_; exact ⟨(up_ne (by decide)).trans hb0, (h1 h_).2⟩
      · rw [up_ne (by decide)] at h_; exact ⟨(up_ne (by decide)).trans hb0, (h2 h_).2⟩
    refine steps_cons ?_ ?_
    · rintro b a w' ⟨g, es, ck, m1, m2, ha, hb, h0, h1, h2⟩ hb_ hon hoff
      refine ⟨_, rfl, fun K hK => ?_⟩
      have hb0 := hon 0 (by kernel_rfl)
      have e1 : a.tmps[1]? = some (.map (some g)) := by rw [ha]; exact putSel_on (e := (0, 1, .map (some g))) 0 rfl rfl hb0 rfl
      have e2 : a.tmps[5]? = some (pk ⟨#[105, 102, 114, 97, 109, 101]⟩ ⟨#[115, 114, 99, 100, 111, 99]⟩) := by rw [ha]; exact (putSel_off rfl).trans rfl
      obtain ⟨k1, k2, k3⟩ := h0 hb0
      have hq : (⟨8, ⟨#[105, 102, 114, 97, 109, 101]⟩, ⟨#[115, 114, 99, 100, 111, 99]⟩, .int .i64 1⟩ : Put) ∈ sinksL := by unfold sinksL; repeat (first | exact List.mem_cons_self | apply List.mem_cons_of_mem)
      refine skip_ (by rfl) rfl (exec_insert rfl e1 e2 (store_run Try.underlying79 k2 k3 sinks_apart hq hb_)) ?_
      refine hK.out _ _ ⟨g, _, _, m1, m2, ha.trans (putSel_same rfl).symm, below_block hb k1 (o' := .map #[] 0), fun _ => ⟨k1, heap_setBlock_same k2 _, k3.push hq ck (fun p hp he => sinks_ops p hp _ hq he)⟩, fun h_ => ?_, fun h_ => ?_⟩
      · rw [up_ne (by decide)] at h_; exact ⟨(up_ne (by decide)).trans hb0, (h1 h_).2⟩
      · rw [up_ne (by decide)] at h_; exact ⟨(up_ne (by decide)).trans hb0, (h2 h_).2⟩
    refine steps_cons ?_ ?_
    · rintro b a w' ⟨g, es, ck, m1, m2, ha, hb, h0, h1, h2⟩ hb_ hon hoff
      refine ⟨_, rfl, fun K hK => ?_⟩
      have hb0 := hon 0 (by kernel_rfl)
      have e1 : a.tmps[1]? = some (.map (some g)) := by rw [ha]; exact putSel_on (e := (0, 1, .map (some g))) 0 rfl rfl hb0 rfl
      refine value_ (w1 := w') (v := .map (some g)) (by rfl) rfl (exec_move rfl e1) ?_
      obtain ⟨k1, k2, k3⟩ := h0 hb0
      refine hK.out _ _ ⟨g, es, ck, .map (some g), m2, by rw [ha]; exact putSel_upk 1 hb_ rfl rfl rfl, hb, fun _ => ⟨k1, k2, ⟨fun e he => by obtain ⟨q, hq, hqb, hh⟩ := k3.1 e he; exact ⟨q, hq, (by unfold up; split <;> simp [hqb]), hh⟩, fun q hq hqb => k3.2 q hq (by rw [up_ne (by revert hq; unfold sinksL; intro hq h_; simp only [List.mem_cons, List.not_mem_nil, or_false] at hq; rcases hq with rfl | rfl | rfl | rfl <;> cases h_)] at hqb; exact hqb)⟩⟩, fun h_ => ?_, fun h_ => ?_⟩
      · exact ⟨(up_ne (by decide)).trans hb0, rfl⟩
      · rw [up_ne (by decide)] at h_; exact ⟨(up_ne (by decide)).trans hb0, (h2 h_).2⟩
    refine steps_cons ?_ ?_
    · rintro b a w' ⟨g, es, ck, m1, m2, ha, hb, h0, h1, h2⟩ hb_ hon hoff
      refine ⟨_, rfl, fun K hK => ?_⟩
      have hb0 := hon 0 (by kernel_rfl)
      have e1 : a.tmps[6]? = some (.map (some g)) := by rw [ha, ← (h1 (hon 9 (by kernel_rfl))).2]; exact putSel_on (e := (9, 6, m1)) 1 rfl rfl (hon 9 (by kernel_rfl)) rfl
      refine value_ (w1 := w') (v := .map (some g)) (by rfl) rfl (exec_assign rfl e1) ?_
      obtain ⟨k1, k2, k3⟩ := h0 hb0
      refine hK.out _ _ ⟨g, es, ck, m1, .map (some g), by rw [ha]; exact putSel_upk 2 hb_ rfl rfl rfl, hb, fun _ => ⟨k1, k2, ⟨fun e he => by obtain ⟨q, hq, hqb, hh⟩ := k3.1 e he; exact ⟨q, hq, (by unfold up; split <;> simp [hqb]), hh⟩, fun q hq hqb => k3.2 q hq (by rw [up_ne (by revert hq; unfold sinksL; intro hq h_; simp only [List.mem_cons, List.not_mem_nil, or_false] at hq; rcases hq with rfl | rfl | rfl | rfl <;> cases h_)] at hqb; exact hqb)⟩⟩, fun h_ => ?_, fun h_ => ?_⟩
      · rw [up_ne (by decide)] at h_; exact ⟨(up_ne (by decide)).trans hb0, (h1 h_).2⟩
      · exact ⟨(up_ne (by decide)).trans hb0, rfl⟩
    exact steps_nil
  · rintro b a w' hall ⟨g, es, ck, m1, m2, ha, hb, h0, h1, h2⟩
    have hb0 := hall 0 (by kernel_rfl)
    have hb9 := hall 9 (by kernel_rfl)
    have hb10 := hall 10 (by kernel_rfl)
    obtain rfl := (h1 hb9).2
    obtain rfl := (h2 hb10).2
    obtain ⟨k1, k2, k3⟩ := h0 hb0
    have hops : ∀ q ∈ sinksL, b q.op = true := fun q hq => by
      simp only [sinksL, List.mem_cons, List.not_mem_nil, or_false] at hq
      rcases hq with rfl | rfl | rfl | rfl
      all_goals exact hall _ (by kernel_rfl)
    have fin := hid (show ∃ (g' : Nat) (es : Array MapEntry) (ck : Nat) (b : Nat → Bool), (Ending.returned (.map (some g)) = .returned (.map (some g'))) ∧ w.heap.size ≤ g' ∧ w'.heap[g']? = some (.map es ck) ∧ Ent sinksL b es ∧ (∀ q ∈ sinksL, b q.op = true) ∧ Below w.heap.size w w' from ⟨g, es, ck, b, rfl, k1, k2, k3, hops, hb⟩)
    subst ha
    simp only [putSel, hb0, hb9, hb10, if_true, Act.put, List.setIfInBounds_toArray, List.set_cons_zero, List.set_cons_succ]
    clear hall h0 h1 h2 k1 k2 k3 hops hb hb0 hb9 hb10
    go_wp2
    go_ret
    exact fin.out
end Go.Proofs.Ytakhldahohooiaa
