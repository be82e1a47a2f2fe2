/- boltinglaw18.LoopSources answers true. -/
import Derived.Test.YtldbplagenjooaaLoopSources
import Derived.Test.YtldbplagenjooaaLoopCopies
import Derived.Deep.QuietTactic
import Derived.BigQuiet
namespace Go.Proofs.Ytldbplagenjooaa
set_option linter.unusedVariables false
set_option linter.unusedSimpArgs false
open Go.RowKit Go.Lib Go.Shelf Go.Maps Go.Proofs.YtldbplagenjooaaW.PrintWords Go.Proofs.YtldbplagenjooaaW.PrintLast

/-- Sources, of a loop that the call has made: a row of numbers, where it lies. -/
theorem o_sources {w0 w : World} {p n : Nat} {T : Int → List ByteArray} {S : List ByteArray} (h : Own w0 w p n T S) (hn : n ≤ 1000000) :
    Calls Try.prog 16 #[.pointer (some ⟨p, 0, none⟩)] w fun e w' => ∃ A c, e = .returned (.slice A (srcs T).length c) ∧ (srcs T).length ≤ c ∧ ReadsOf (Value.int .i64) 0 w' A (srcs T).length (srcs T) ∧ Own w0 w' p n T S :=
  (sources_calls hn h.at_).mono fun e w' ⟨v, he, hr, hb⟩ => by
    obtain ⟨A, c, hv, hc, hrd⟩ := own_reads_of_le (enc := Value.int .i64) (d := 0) hr
    exact ⟨A, c, by rw [he, hv], hc, hrd, h.later hb⟩
theorem empty_at {w0 w : World} {p n : Nat} {T : Int → List ByteArray} {S : List ByteArray} (h : Own w0 w p n T S) (k : Int) (hk : T k ≠ []) : 0 ≤ k ∧ k < 8 :=
  Decidable.byContradiction fun g => hk (h.at_.empty k g)
theorem srcs_len (T : Int → List ByteArray) : (srcs T).length ≤ 8 := List.length_filter_le _ _
theorem srcs_at (T : Int → List ByteArray) {k : Nat} (hk : k < (srcs T).length) : 0 ≤ (srcs T)[k] ∧ (srcs T)[k] ≤ 7 := by
  have h : ∀ x ∈ srcs T, 0 ≤ x ∧ x ≤ 7 := fun x hx => by
    unfold srcs at hx
    have := (List.mem_filter.1 hx).1
    simp at this
    omega
  exact h _ (List.getElem_mem hk)
theorem mem_take_succ {l : List Int} {k : Nat} (hk : k < l.length) (x : Int) : decide (x ∈ l.take (k + 1)) = (decide (x ∈ l.take k) || decide (l[k] = x)) := by
  rw [List.take_succ_eq_append_getElem hk, Bool.eq_iff_iff]
  simp only [decide_eq_true_eq, Bool.or_eq_true, List.mem_append, List.mem_singleton]
  exact ⟨fun h => h.imp id (fun g => g.symm), fun h => h.imp id (fun g => g.symm)⟩
theorem srcs_up (T : Int → List ByteArray) {k : Nat} (hk : k + 1 < (srcs T).length) : (srcs T)[k] < (srcs T)[k + 1] := List.pairwise_iff_getElem.1 (srcs_pair T) k (k + 1) (by omega) hk (by omega)
theorem getD_at (l : List Int) {k : Nat} (hk : k < l.length) : l.getD k 0 = l[k] := by
  rw [List.getD_eq_getElem?_getD, List.getElem?_eq_getElem hk]
  rfl
set_option maxHeartbeats 8000000 in
set_option maxRecDepth 100000 in
theorem sources_law {A B : Option Addr} {c d : Nat} {l m : List Int} {w : World} (hl : ReadsOf (Value.int .i64) 0 w A l.length l) (hc : l.length ≤ c) (hm : ReadsOf (Value.int .i64) 0 w B m.length m) (hd : m.length ≤ d) :
    Calls Try.prog 5 #[.slice A l.length c, .slice B m.length d] w fun e w' => e = .returned (.bool true) ∧ Below w.heap.size w w' := by
  have hcell : Hid (∀ wr, Below w.heap.size w wr → ∀ j, j < l.length → ∃ ad x, A = some ad ∧ wr.cell? (ad.add j) = some (.int .i64 x) ∧ l.getD j 0 = x) := hid (fun wr hb j hj => ints_later hl hb (by omega))
  have hcell2 : Hid (∀ wr, Below w.heap.size w wr → ∀ j, j < m.length → ∃ ad x, B = some ad ∧ wr.cell? (ad.add j) = some (.int .i64 x) ∧ m.getD j 0 = x) := hid (fun wr hb j hj => ints_later hm hb (by omega))
  have hll : l.length ≤ 9223372036854775807 := hl.2.1
  have hml : m.length ≤ 9223372036854775807 := hm.2.1
  clear hl hm
  go_enter Try.func5, Try.ntmps5
  go_wp2_with fail
  refine (o_new _).mono ?_
  rintro e w1 ⟨p, rfl, h1⟩
  have H1 := hid h1
  clear h1
  go_wp2
  go_loopw [6] (fun i wr => ∃ (k : Nat) (T : Int → List ByteArray), i = .int .i64 k ∧ k ≤ 40 ∧ Own w wr p k T [] ∧ ∀ j, (T j).length ≤ k) (fun i _ => 40 - (intOf i).toNat)
  case atStart => exact ⟨0, _, rfl, by omega, H1.out, fun j => Nat.le_refl _⟩
  case round =>
    obtain ⟨k, T, rfl, hk, ho, hT⟩ := hrel
    have HO := hid ho
    have HT := hid hT
    clear ho hT
    by_cases hlt : k < l.length ∧ k < 40
    · obtain ⟨ad, x, rfl, hce, _⟩ := hcell.out wr HO.out.below k hlt.1
      have h7 := i64_and7 x
      obtain ⟨k8, hk8⟩ : ∃ k8, x % 8 = k8 := ⟨_, rfl⟩
      have hs0 : 0 ≤ k8 := by omega
      have hs8 : k8 < 8 := by omega
      rw [hk8] at h7
      have hkl : k < l.length := hlt.1
      have hb1 : decide ((k : Int) < 40) = true := decide_eq_true (by omega)
      have hk40 : k < 40 := hlt.2
      clear hk8 hlt
      go_wp2_with fail
      refine (o_post HO.out _ hs0 hs8 (by omega) (Nat.le_trans (HT.out k8) (by omega))).mono ?_
      rintro e w3 ⟨rfl, h3⟩
      have H3 := hid h3
      clear h3
      go_wp2
      go_roundw
      case rel => exact ⟨k + 1, _, by go_num, by omega, H3.out, fun j => by
        have h := HT.out j
        have h2 := HT.out k8
        by_cases e : j = k8
        · subst e; rw [upd_self, List.length_append, List.length_singleton]; omega
        · rw [upd_ne e]; omega⟩
      case measure => simp [intOf]; omega
    · have rest : Hid (decide (k < l.length) = false ∨ (decide (k < l.length) = true ∧ decide ((k : Int) < 40) = false)) := hid (by
        by_cases g : k < l.length
        · exact .inr ⟨decide_eq_true (by omega), decide_eq_false (by omega)⟩
        · exact .inl (decide_eq_false (by omega)))
      clear hlt
      rcases rest.out with g | ⟨g, g2⟩
      all_goals
        clear hcell
        go_wp2
        go_loopw [7] (fun i wr => ∃ (q n : Nat) (T' : Int → List ByteArray), i = .int .i64 q ∧ q ≤ 60 ∧ n ≤ k + q ∧ Own w wr p n T' [] ∧ ∀ j, (T' j).length ≤ 40) (fun i _ => 60 - (intOf i).toNat)
        case atStart => exact ⟨0, k, T, rfl, by omega, by omega, HO.out, fun j => Nat.le_trans (HT.out j) (by omega)⟩
        case round =>
          obtain ⟨q, n, T', rfl, hq, hn, ho, hT'⟩ := hrel
          have HO2 := hid ho
          have HT' := hid hT'
          clear ho hT'
          by_cases hlt : q < m.length ∧ q < 60
          · have hqm : q < m.length := hlt.1
            have hq60 : q < 60 := hlt.2
            have hb2 : decide (q < m.length) = true := decide_eq_true (by omega)
            have hb1 : decide ((q : Int) < 60) = true := decide_eq_true (by omega)
            clear hlt
            go_wp2_with fail
            refine (o_sources HO2.out (by omega)).mono ?_
            rintro e w3 ⟨A3, c3, rfl, hc3, hrd3, h3⟩
            obtain ⟨L, hL⟩ : ∃ L, srcs T' = L := ⟨_, rfl⟩
            have hlo : ∀ j (hj : j < L.length), 0 ≤ L[j] ∧ L[j] ≤ 7 := by subst hL; exact fun j hj => srcs_at T' hj
            have hup : ∀ j (hj : j + 1 < L.length), L[j] < L[j + 1] := by subst hL; exact fun j hj => srcs_up T' hj
            have hmem : ∀ x, x ∈ L ↔ T' x ≠ [] := by subst hL; exact mem_srcs (empty_at HO2.out)
            have hL8 : L.length ≤ 8 := by subst hL; exact srcs_len T'
            rw [hL] at hrd3 hc3 ⊢
            clear hL
            have H3 := hid h3
            have HRD := hid hrd3
            have HLO := hid hlo
            have HUP := hid hup
            have HMEM := hid hmem
            obtain ⟨ad2, x, rfl, hce2, _⟩ := hcell2.out w3 H3.out.below q hqm
            have h7 := i64_and7 x
            obtain ⟨k8, hk8⟩ : ∃ k8, x % 8 = k8 := ⟨_, rfl⟩
            have hs0 : 0 ≤ k8 := by omega
            have hs8 : k8 < 8 := by omega
            rw [hk8] at h7
            clear hk8 h3 hrd3 hlo hup hmem
            go_wp2
            obtain ⟨wo, rfl⟩ : ∃ wo : World, wo = w3 := ⟨_, rfl⟩
            go_loopw [9, 10] (fun hs i wr => ∃ j : Nat, i = .int .i64 j ∧ j ≤ L.length ∧ hs = .bool (decide (k8 ∈ L.take j)) ∧ ∃ nq, wr = wo.drewN nq) (fun _ i _ => L.length - (intOf i).toNat)
            case atStart => exact ⟨0, rfl, by omega, by simp, 0, rfl⟩
            case round =>
              obtain ⟨j, rfl, hj, rfl, nq, rfl⟩ := hrel
              by_cases hjl : j < L.length
              · obtain ⟨ad3, rfl, hc4⟩ := HRD.out.2.2 (by omega)
                have hc5 := hc4 j hjl
                rw [getD_at L hjl] at hc5
                have hms := mem_take_succ hjl k8
                obtain ⟨x3, hx3⟩ : ∃ x3, L[j] = x3 := ⟨_, rfl⟩
                have hlo3 := HLO.out j hjl
                rw [hx3] at hc5 hms hlo3
                have hx0 : decide (x3 < 0) = false := decide_eq_false (by omega)
                have hx7 : decide (7 < x3) = false := decide_eq_false (by omega)
                have hc6 : wo.cell? (ad3.add j) = some (.int .i64 x3) := hc5
                have HC4 := hid hc4
                clear hc4 hc5 hlo3
                rcases hb : decide (k8 ∈ L.take j) with _ | _
                all_goals
                  rw [hb] at hms
                  have HMS := hid hms
                  clear hms
                  cases j with
                  | zero =>
                    have hz : wo.cell? ad3 = some (.int .i64 x3) := by simpa [Addr.add] using hc6
                    go_wp2
                    go_quiet (fail)
                    go_wp2
                    go_quiet (fail)
                    go_wp2
                    go_roundw
                    case rel => exact ⟨0 + 1, by go_num, by omega, by rw [HMS.out]; rfl, _, rfl⟩
                    case measure => simp [intOf]; omega
                  | succ j' =>
                    have hp5 := HC4.out j' (by omega)
                    rw [getD_at L (by omega)] at hp5
                    obtain ⟨x4, hx4⟩ : ∃ x4, L[j'] = x4 := ⟨_, rfl⟩
                    have hup := HUP.out j' hjl
                    rw [hx4] at hp5 hup
                    rw [hx3] at hup
                    have hp6 : wo.cell? (ad3.add j') = some (.int .i64 x4) := hp5
                    have hle : decide (x3 ≤ x4) = false := decide_eq_false (by omega)
                    have hpos : decide ((0 : Int) < (j' : Int) + 1) = true := decide_eq_true (by omega)
                    clear hp5 hup hx4
                    have hi0 : 0 ≤ (j' : Int) + 1 := by omega
                    have hi1 : (j' : Int) + 1 < (L.length : Int) := by omega
                    have hi2 : (j' : Int) < (L.length : Int) := by omega
                    have hit : ((j' : Int) + 1).toNat = j' + 1 := by omega
                    have hc7 : wo.cell? ⟨ad3.block, ad3.off + (j' + 1), none⟩ = some (.int .i64 x3) := by simpa [Addr.add] using hc6
                    have hw : IntKind.i64.wrap ((j' : Int) + 1 - 1) = (j' : Int) := by rw [IntKind.wrap_i64]; omega
                    go_wp2
                    go_quiet (fail)
                    go_wp2
                    go_quiet (fail)
                    go_wp2
                    go_roundw
                    case rel => exact ⟨(j' + 1) + 1, by go_num, by omega, by rw [HMS.out]; rfl, _, rfl⟩
                    case measure => simp [intOf]; omega
              · have hjn : j = L.length := by omega
                have hall : L.take j = L := by rw [hjn, List.take_length]
                rw [hall]
                have hce3 : (wo.drewN nq).cell? (ad2.add q) = some (.int .i64 x) := hce2
                have HO4 : Hid (Own w (wo.drewN nq) p n T' []) := hid (H3.out.drewN nq)
                cases hTk : T' k8 with
                | nil =>
                  have hno : decide (k8 ∈ L) = false := decide_eq_false (fun g => (HMEM.out k8).1 g hTk)
                  have HTK := hid hTk
                  rw [hno]
                  clear hTk hno hall
                  go_wp2_with fail
                  refine (o_pick0 HO4.out hs0 hs8 (by decide) (.inr HTK.out)).mono ?_
                  rintro e w4 ⟨rfl, rfl⟩
                  go_wp2
                  go_roundw
                  case rel => exact ⟨q + 1, n, T', by go_num, by omega, by omega, HO4.out, HT'.out⟩
                  case measure => simp [intOf]; omega
                | cons t ts =>
                  have hyes : decide (k8 ∈ L) = true := decide_eq_true ((HMEM.out k8).2 (by rw [hTk]; simp))
                  have HTK := hid hTk
                  rw [hyes]
                  have hts := HT'.out k8
                  rw [hTk, List.length_cons] at hts
                  clear hTk hyes hall
                  go_wp2_with fail
                  refine (o_pick HO4.out HTK.out (by omega) (by omega)).mono ?_
                  rintro e w4 ⟨rfl, h4⟩
                  have H4 := hid h4
                  clear h4
                  go_wp2
                  go_roundw
                  case rel => exact ⟨q + 1, n + 1, _, by go_num, by omega, by omega, H4.out, fun j => by
                    by_cases e : j = k8
                    · rw [e, upd_self]; omega
                    · rw [upd_ne e]; exact HT'.out j⟩
                  case measure => simp [intOf]; omega
          · have rest2 : Hid (decide (q < m.length) = false ∨ (decide (q < m.length) = true ∧ decide ((q : Int) < 60) = false)) := hid (by
              by_cases g : q < m.length
              · exact .inr ⟨decide_eq_true (by omega), decide_eq_false (by omega)⟩
              · exact .inl (decide_eq_false (by omega)))
            clear hlt
            rcases rest2.out with g3 | ⟨g3, g4⟩
            all_goals
              go_wp2_with fail
              refine (fixed_calls _).mono ?_
              rintro e w5 ⟨rfl, hb⟩
              have HB := hid hb
              clear hb
              go_wp2
              go_ret
              exact ⟨rfl, HO2.out.below.trans (HB.out.mono HO2.out.below.size)⟩
end Go.Proofs.Ytldbplagenjooaa
