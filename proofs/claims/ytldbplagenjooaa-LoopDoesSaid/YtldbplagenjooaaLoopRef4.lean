/- boltingref18's loop: Sources, Same. -/
import Derived.Test.YtldbplagenjooaaLoopRef3
import Derived.Test.YtldbplagenjooaaLoopSources
import Derived.Deep.QuietTactic
import Derived.BigQuiet
namespace Go.Proofs.Ytldbplagenjooaa
set_option linter.unusedVariables false
set_option linter.unusedSimpArgs false
open Go.RowKit Go.Lib Go.Shelf Go.Maps Go.Proofs.YtldbplagenjooaaW.PrintWords Go.Proofs.YtldbplagenjooaaW.PrintLast

def hasT (L : List Tk) (k : Int) : Bool := L.any fun x => x.1 == k
def rsrc (L : List Tk) (n : Nat) : List Int := ((List.range n).map fun i : Nat => (i : Int)).filter (hasT L)
theorem rsrc_succ (L : List Tk) (n : Nat) : rsrc L (n + 1) = rsrc L n ++ (if hasT L n = true then [(n : Int)] else []) := by
  unfold rsrc
  rw [List.range_succ, List.map_append, List.filter_append, List.map_cons, List.map_nil, List.filter_cons, List.filter_nil]
theorem rsrc_len (L : List Tk) (n : Nat) : (rsrc L n).length ≤ n := by
  refine Nat.le_trans (List.length_filter_le _ _) ?_
  simp
theorem hasT_snoc (k : Int) (L : List Tk) {i : Nat} (hi : i < L.length) : hasT (L.take (i + 1)) k = (hasT (L.take i) k || L[i].1 == k) := by
  unfold hasT
  rw [List.take_succ_eq_append_getElem hi, List.any_append]
  simp
theorem info_int : (Try.prog.info? 3).map (fun i => (i.zero, i.size, i.bytes)) = some (some (.int .i64 0), 1, 8) := by kernel_rfl
set_option maxHeartbeats 8000000 in
set_option maxRecDepth 100000 in
theorem r_sources {w : World} {ok : Nat → Prop} {q : Nat} {L : List Tk} {S : List ByteArray} (hL : L.length ≤ 1000000) (h : refR q L S w ok) :
    Calls Try.prog 23 #[.pointer (some ⟨q, 0, none⟩)] w fun e w' => ∃ A c, e = .returned (.slice A (rsrc L 8).length c) ∧ (rsrc L 8).length ≤ c ∧ ReadsOf (Value.int .i64) 0 w' A (rsrc L 8).length (rsrc L 8) ∧ Below w.heap.size w w' := by
  obtain ⟨v1, v2, h⟩ := h
  obtain ⟨A1, d1, rfl, hd1⟩ := own_len h.row1
  obtain ⟨i0, hi, hz0, hz1, hz2⟩ := info_parts info_int
  have HH := hid h
  clear h
  go_enter Try.func23, Try.ntmps23
  go_wp2
  go_loopw [3, 4] (fun o kv wr => ∃ (n : Nat) (A : Option Addr) (c : Nat), kv = .int .i64 n ∧ n ≤ 8 ∧ o = .slice A (rsrc L n).length c ∧ wr.ownsRow w.heap.size 3 1 (.slice A (rsrc L n).length c) (rsrc L n).length ((rsrc L n).map (Value.int .i64)) ∧ Below w.heap.size w wr) (fun _ kv _ => 8 - (intOf kv).toNat)
  case atStart =>
    refine ⟨0, some ⟨w.heap.size, 0, none⟩, 0, rfl, by omega, rfl, ?_, (Below.refl _ w).alloc (Nat.le_refl _) _⟩
    exact ⟨rfl, .inr ⟨w.heap.size, 0, #[], rfl, Nat.le_refl _, blk_new w _, Nat.le_refl _, Nat.zero_le _, rfl, rfl⟩⟩
  case round =>
    obtain ⟨n, A, c, rfl, hn8, rfl, hr, hb⟩ := hrel
    have HR := hid hr
    have HB := hid hb
    have e0 : wr.cell? ⟨q, 0, none⟩ = some (.slice A1 L.length d1) := pw_cell_below hb ((blk_cell HH.out.blk 0).trans rfl)
    clear hr hb
    by_cases hlt : n < 8
    · have hb8 : decide ((n : Int) < 8) = true := decide_eq_true (by omega)
      go_wp2
      obtain ⟨wo, rfl⟩ : ∃ wo : World, wo = wr := ⟨_, rfl⟩
      go_loopw [5, 6] (fun hs iv wr => ∃ j : Nat, iv = .int .i64 j ∧ j ≤ L.length ∧ hs = .bool (hasT (L.take j) n) ∧ wr = wo) (fun _ iv _ => L.length - (intOf iv).toNat)
      case atStart => exact ⟨0, rfl, by omega, rfl, rfl⟩
      case round =>
        obtain ⟨j, rfl, hj, rfl, rfl⟩ := hrel
        by_cases hjl : j < L.length
        · obtain ⟨g, rfl, hc1, _⟩ := task_cells HH.out.row1 hjl
          have hs := hasT_snoc n L hjl
          obtain ⟨xs, hx⟩ : ∃ x, L[j].1 = x := ⟨_, rfl⟩
          rw [hx] at hc1 hs
          have b1 : wr.cell? ⟨g, j * 2, none⟩ = some (.int .i64 xs) := pw_cell_below HB.out hc1
          have hjd : decide (j < L.length) = true := decide_eq_true hjl
          clear hc1 hx
          rcases hb : hasT (L.take j) n with _ | _
          · rcases hk : (xs == (n : Int)) with _ | _
            · have hk2 : decide (xs = (n : Int)) = false := decide_eq_false (beq_eq_false_iff_ne.1 hk)
              rw [hb, hk] at hs
              have HS := hid hs
              clear hs hb
              go_wp2
              go_roundw
              case rel => exact ⟨j + 1, by go_num, by omega, by rw [HS.out]; rfl, trivial⟩
              case measure => simp [intOf]; omega
            · have hk2 : decide (xs = (n : Int)) = true := decide_eq_true (beq_iff_eq.1 hk)
              rw [hb, hk] at hs
              have HS := hid hs
              clear hs hb
              go_wp2
              go_roundw
              case rel => exact ⟨j + 1, by go_num, by omega, by rw [HS.out]; rfl, trivial⟩
              case measure => simp [intOf]; omega
          · rw [hb, Bool.true_or] at hs
            have HS := hid hs
            clear hs hb
            go_wp2
            go_roundw
            case rel => exact ⟨j + 1, by go_num, by omega, by rw [HS.out], trivial⟩
            case measure => simp [intOf]; omega
        · have hall : L.take j = L := by rw [show j = L.length by omega, List.take_length]
          have hjd : decide (j < L.length) = false := decide_eq_false hjl
          have hs := rsrc_succ L n
          have hl8 := rsrc_len L n
          rw [hall]
          rcases hb : hasT L n with _ | _
          · rw [hb, if_neg (by decide), List.append_nil] at hs
            have HS := hid hs
            clear hs hb hall
            go_wp2
            go_roundw
            case rel => exact ⟨n + 1, A, c, by go_num, by omega, by rw [HS.out], by rw [HS.out]; exact HR.out, HB.out⟩
            case measure => simp [intOf]; omega
          · rw [hb, if_pos rfl] at hs
            have HS := hid hs
            have hrow : Hid ((wr.alloc (.cells #[.int .i64 n] 3)).ownsRow w.heap.size 3 1 (.slice A (rsrc L n).length c) (rsrc L n).length ((rsrc L n).map (Value.int .i64))) := hid (HR.out.alloc _)
            have hws := HB.out.size
            clear hs hb hall
            go_wp2_with (at_builtin; refine wpList_append_own_at _ rfl _ _ 34 rfl w.heap.size 3 i0 (.int .i64 0) 1 8 Try.underlying34 hi hz0 hz1 hz2 rfl (by decide) _ _ _ rfl hrow.out ⟨wr.heap.size, 0, none⟩ 1 1 [.int .i64 n] rfl rfl (cell_one_new _ _ _) (by intro u hu; simp at hu; subst hu; rfl) (by unfold maxLen; omega) (by omega) (by simp; omega) ?_)
            intro v' w2 hr hg _ hat
            obtain ⟨A', c', rfl, _⟩ := own_len hr
            have HR2 := hid hr
            have HB2 : Hid (Below w.heap.size w w2) := hid ((HB.out.alloc hws _).grown hg (by simp; omega) (fun j hj => own_base HR.out j hj))
            clear hr hg hat
            go_wp2
            go_roundw
            case rel => exact ⟨n + 1, A', c', by go_num, by omega, by rw [HS.out, List.length_append]; rfl, by rw [HS.out, List.length_append, List.map_append]; exact HR2.out, HB2.out⟩
            case measure => simp [intOf]; omega
    · have hb8 : decide ((n : Int) < 8) = false := decide_eq_false (by omega)
      have hn : n = 8 := by omega
      subst hn
      go_wp2
      go_ret
      obtain ⟨A', c', hv, hc, hrd⟩ := own_reads_of_le (enc := Value.int .i64) (d := 0) HR.out
      injection hv with e1 e2 e3
      subst e1 e3
      exact ⟨A, c, rfl, hc, hrd, HB.out⟩
set_option maxHeartbeats 2000000 in
theorem r_same {A B : Option Addr} {c d : Nat} {l : List Int} {w : World} (hl : ReadsOf (Value.int .i64) 0 w A l.length l) (hc : l.length ≤ c) (hm : ReadsOf (Value.int .i64) 0 w B l.length l) (hd : l.length ≤ d) :
    Calls Try.prog 22 #[.slice A l.length c, .slice B l.length d] w fun e w' => e = .returned (.bool true) ∧ ∃ n, w' = w.drewN n := by
  have hll : l.length ≤ 9223372036854775807 := hl.2.1
  have HL := hid hl
  have HM := hid hm
  clear hl hm
  go_enter Try.func22, Try.ntmps22
  go_wp2
  go_loopw [5] (fun iv wr => ∃ j : Nat, iv = .int .i64 j ∧ j ≤ l.length ∧ ∃ nq, wr = w.drewN nq) (fun iv _ => l.length - (intOf iv).toNat)
  case atStart => exact ⟨0, rfl, by omega, 0, rfl⟩
  case round =>
    obtain ⟨j, rfl, hj, nq, rfl⟩ := hrel
    by_cases hjl : j < l.length
    · obtain ⟨a1, rfl, h1⟩ := HL.out.2.2 (by omega)
      obtain ⟨a2, rfl, h2⟩ := HM.out.2.2 (by omega)
      have c1 := h1 j hjl
      have c2 := h2 j hjl
      obtain ⟨x, hx⟩ : ∃ x, l.getD j 0 = x := ⟨_, rfl⟩
      rw [hx] at c1 c2
      have hjd : decide (j < l.length) = true := decide_eq_true hjl
      have hi0 : 0 ≤ (j : Int) := by omega
      have hi1 : (j : Int) < (l.length : Int) := by omega
      clear h1 h2 hx
      go_wp2
      go_quiet (fail)
      go_wp2
      go_roundw
      case rel => exact ⟨j + 1, by go_num, by omega, _, rfl⟩
      case measure => simp [intOf]; omega
    · have hjd : decide (j < l.length) = false := decide_eq_false hjl
      go_wp2
      go_ret
      exact ⟨rfl, _, rfl⟩
end Go.Proofs.Ytldbplagenjooaa
