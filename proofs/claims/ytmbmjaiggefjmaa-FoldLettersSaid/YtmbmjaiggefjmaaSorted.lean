/- fold.Sorted's contract: slices.Clone, Sort, Compact (the shelf's contracts). -/
import Derived.Test.YtmbmjaiggefjmaaShelf
import Derived.Test.YtmbmjaiggefjmaaBase
import Derived.Test.YtmbmjaiggefjmaaWWords
import Derived.Sort.OwnSorted
namespace Go.Proofs.Ytmbmjaiggefjmaa
set_option linter.unusedVariables false
set_option linter.unusedSimpArgs false
open Go.RowKit Go.Lib Go.Shelf Go.Sort Go.Proofs.YtmbmjaiggefjmaaW.PrintWords

/-- A list sorted, each once. -/
def sorted (l : List (List UInt8)) : List (List UInt8) := Lib.compact (l.mergeSort fun x y => decide (x ≤ y))
def fold_Sorted.f (l0 : List ByteArray) : Option (List ByteArray) := if l0.length ≤ 4294967296 then some ((sorted (l0.map (·.data.toList))).map mkS) else none
theorem spot_none {w : World} {ad : Addr} {v : Value} (h : w.cell? ad = some v) : ad.spot = none := by
  unfold World.cell? at h
  cases hs : ad.spot with
  | none => rfl
  | some x => rw [hs] at h; simp at h; split at h <;> cases h
theorem enc_mkS (l : List (List UInt8)) : l.map encStr = (l.map mkS).map Value.string := by
  rw [List.map_map]; rfl
theorem enc_of (l : List ByteArray) : (l.map (·.data.toList)).map encStr = l.map Value.string := by
  rw [List.map_map]
  apply List.map_congr_left
  intro s _
  show Value.string ⟨s.data.toList.toArray⟩ = Value.string s
  congr 1
/-- A row cut short. -/
theorem own_shrink {w : World} {base g cap n m : Nat} {e : TypeId} {xs : List Value} (hm : m ≤ n) (h : w.ownsRow base e 1 (.slice (some ⟨g, 0, none⟩) n cap) n xs) : w.ownsRow base e 1 (.slice (some ⟨g, 0, none⟩) m cap) m (xs.take m) := by
  obtain ⟨h0, h1⟩ := h
  refine ⟨by rw [List.length_take]; omega, ?_⟩
  rcases h1 with ⟨h2, _⟩ | ⟨g', cap', cur, hv, hb, hg, h3, h4, h5, h6⟩
  · cases h2
  · cases hv
    refine .inr ⟨_, _, cur, rfl, hb, hg, by omega, h4, h5, ?_⟩
    rw [← h6, List.take_take]
    congr 1
    omega
set_option maxHeartbeats 2000000 in
/-- Sort and Compact, at a row of the call's own. -/
theorem sort_compact {base g cap : Nat} {ss : List (List UInt8)} {w : World} (hss : ss.length ≤ 4294967296) (h : w.ownsRow base 9 1 (.slice (some ⟨g, 0, none⟩) ss.length cap) ss.length (ss.map encStr)) :
    Calls Try.prog 34 #[.slice (some ⟨g, 0, none⟩) ss.length cap] w fun e w1 => e = .returned (.tuple #[]) ∧
      Hid (Calls Try.prog 35 #[.slice (some ⟨g, 0, none⟩) ss.length cap] w1 fun e w2 => e = .returned (.slice (some ⟨g, 0, none⟩) (sorted ss).length cap) ∧
        w2.ownsRow base 9 1 (.slice (some ⟨g, 0, none⟩) (sorted ss).length cap) (sorted ss).length ((sorted ss).map encStr) ∧ w.grownBy w2 (some g)) := by
  have hg := h.2
  rcases hg with ⟨h2, _⟩ | ⟨g', cap', cur, hv, hbase, hb, h3, h4, h5, h6⟩
  · cases h2
  cases hv
  have hcell : Holds encStr w g 0 ss.toArray := holds_of_block hb (by simpa using h6)
  have hlt : g < w.heap.size := (Array.getElem?_eq_some_iff.1 hb).1
  refine (Try.slices_Sort_string g 0 cap ss w hcell hlt (by omega)).mono ?_
  rintro e w1 ⟨rfl, n, os, rfl⟩
  refine ⟨rfl, hid ?_⟩
  obtain ⟨ts, hts⟩ : ∃ ts, (ss.mergeSort fun x y => decide (x ≤ y)) = ts := ⟨_, rfl⟩
  have hl : ts.length = ss.length := by rw [← hts]; simp
  rw [hts]
  have ho := ownsRow_sorted (n := n) (os := os) hl hbase hb h3 h4 h5
  have hgr := grownBy_sorted (w := w) (g := g) (n := n) (os := os) ts.toArray
  obtain ⟨w1, hw1⟩ : ∃ w1, grow (putRow encStr (Sort.ahead w n) g 0 ts.toArray) os = w1 := ⟨_, rfl⟩
  rw [hw1] at ho hgr ⊢
  have ho' := ho.2
  rcases ho' with ⟨h2, _⟩ | ⟨g', cap', cur1, hv, _, hb1, k3, k4, k5, k6⟩
  · cases h2
  cases hv
  have hcell1 : Holds encStr w1 g 0 ts.toArray := holds_of_block hb1 (by rw [hl]; simpa using k6)
  have hC := Try.slices_Compact_string g 0 cap ts w1 hcell1 (by omega) (by omega)
  rw [hl] at hC
  refine hC.mono ?_
  rintro e w2 ⟨rfl, q, rfl⟩
  have hsd : sorted ss = Lib.compact ts := by unfold sorted; rw [hts]
  rw [hsd]
  have hle := Lib.compact_length_le ts
  have hl2 : (Lib.compact ts ++ List.replicate (ss.length - (Lib.compact ts).length) ([] : List UInt8)).length = ts.length := by rw [List.length_append, List.length_replicate]; omega
  have hgl : ∀ W : World, grow W #[] = W := fun W => grow_empty W
  have ho2 := ownsRow_sorted (n := q) (os := #[]) (w := w1) hl2 hbase hb1 (by omega) k4 k5
  have hgr2 := grownBy_sorted (w := w1) (g := g) (n := q) (os := #[]) (Lib.compact ts ++ List.replicate (ss.length - (Lib.compact ts).length) ([] : List UInt8)).toArray
  rw [hgl] at ho2 hgr2
  refine ⟨rfl, ?_, hgr.trans hgr2⟩
  have := own_shrink (m := (Lib.compact ts).length) (by omega) ho2
  rw [List.map_append, List.take_left' (by simp)] at this
  exact this
/-- A row of the call's own, as the printed texts hold it. -/
theorem R_own {w : World} {base : Nat} {v : Value} {n : Nat} {ss : List (List UInt8)} (hn : ss.length = n) (h : w.ownsRow base 9 1 v n (ss.map encStr)) : Kd.R Kd.string 9 w base (fun _ => True) v (ss.map mkS) := by
  refine Kd.R_of_own (enc := Value.string) ?_ (fun _ _ => trivial)
  rw [List.length_map, hn]
  rw [enc_mkS] at h
  exact h
set_option maxHeartbeats 4000000 in
theorem fold_Sorted.calls (A0 : Option Addr) (c0 : Nat) (l0 : List ByteArray) (r : List ByteArray) (w : World) (hr0 : Kd.C Kd.string w A0 l0.length l0) (hc0 : l0.length ≤ c0) (h : fold_Sorted.f l0 = some r) :
    Calls Try.prog 23 #[.slice A0 l0.length c0] w fun e w' => ∃ v0_ : Value, e = .returned (v0_) ∧ Kd.R Kd.string 9 w' w.heap.size (fun _ => True) v0_ r ∧ Below w.heap.size w w' := by
  unfold fold_Sorted.f at h
  split at h
  case isFalse => cases h
  rename_i hlen
  obtain rfl := Option.some.inj h
  clear h
  have hrd := Kd.reads_of_C (d := ByteArray.empty) hr0
  clear hr0
  have mixed : Try.prog.follows Departure.mixedOrders = true := by kernel_rfl
  rcases Nat.eq_zero_or_pos l0.length with h0 | h0
  · obtain rfl := List.eq_nil_of_length_eq_zero h0
    have hs0 : (sorted (([] : List ByteArray).map (·.data.toList))).map mkS = [] := by simp [sorted, Lib.compact, Lib.compactUpTo]
    rw [hs0]
    have key : Hid (Calls Try.prog 33 #[.slice A0 0 c0] w fun e w1 => ∃ p cap, e = .returned (.slice p 0 cap) ∧ Kd.R Kd.string 9 w1 w.heap.size (fun _ => True) (.slice p 0 cap) [] ∧ Below w.heap.size w w1) := by
      apply hid
      cases A0 with
      | none =>
        refine (Try.slices_Clone_string_nil 0 c0 w).mono ?_
        rintro e w1 ⟨rfl, rfl⟩
        exact ⟨none, 0, rfl, Kd.R_nil _ _ _ _ _, Below.refl _ _⟩
      | some a =>
        refine (Try.slices_Clone_string_zero a c0 w).mono ?_
        rintro e w1 ⟨v', rfl, ho, _, hb⟩
        rcases ho.2 with ⟨h2, _⟩ | ⟨g', cap', cur, hv, _⟩
        · subst h2; exact ⟨none, 0, rfl, Kd.R_nil _ _ _ _ _, hb⟩
        · subst hv
          exact ⟨_, _, rfl, R_own (ss := []) rfl ho, hb⟩
    clear hrd hs0 hlen h0 hc0
    show Calls Try.prog 23 #[.slice A0 0 c0] w _
    go_enter Try.func23, Try.ntmps23
    go_wp2_with first
      | (go_at_call 33; refine key.out.mono ?_; rintro e w1 ⟨p, cap, rfl, hR, hB⟩; have HR := hid hR; clear hR)
      | (go_at_call 34; refine (Try.slices_Sort_string_none p cap _).mono ?_; rintro e w2 ⟨rfl, rfl⟩)
      | (go_at_call 35; refine (Try.slices_Compact_string_empty p cap _).mono ?_; rintro e w3 ⟨rfl, rfl⟩)
    go_ret
    exact ⟨_, rfl, HR.out, hB⟩
  · obtain ⟨ad, rfl, hcell⟩ := hrd.2.2 h0
    obtain ⟨bk, of, sp⟩ := ad
    have hsp := spot_none (by simpa [Addr.add] using hcell 0 h0)
    simp only at hsp
    subst hsp
    have hcl := Try.slices_Clone_string bk of l0.length c0 l0 w (Nat.le_refl _) (by omega) (fun j hj => by
      have := hcell j hj
      unfold Addr.add at this
      split at this
      · rename_i hj0; subst hj0; simpa using this
      · exact this)
    rw [List.take_length] at hcl
    obtain ⟨ss, hss⟩ : ∃ ss, l0.map (·.data.toList) = ss := ⟨_, rfl⟩
    have hsl : ss.length = l0.length := by rw [← hss, List.length_map]
    have henc : l0.map Value.string = ss.map encStr := by rw [← hss, enc_of]
    have key : Hid (Calls Try.prog 33 #[.slice (some ⟨bk, of, none⟩) l0.length c0] w fun e w1 => ∃ g cap, e = .returned (.slice (some ⟨g, 0, none⟩) ss.length cap) ∧ w1.ownsRow w.heap.size 9 1 (.slice (some ⟨g, 0, none⟩) ss.length cap) ss.length (ss.map encStr) ∧ w.heap.size ≤ g ∧ Below w.heap.size w w1) := by
      apply hid
      refine hcl.mono ?_
      rintro e w1 ⟨v', rfl, ho, _, hb⟩
      rw [henc, ← hsl] at ho
      rcases ho.2 with ⟨_, h2⟩ | ⟨g', cap', cur, hv, hg, _⟩
      · omega
      · subst hv
        exact ⟨_, _, rfl, ho, hg, hb⟩
    have hlen' : ss.length ≤ 4294967296 := by omega
    rw [hss]
    rw [← hsl] at key ⊢
    clear hcl hcell hrd henc hss hsl hc0 hlen h0
    go_enter Try.func23, Try.ntmps23
    go_wp2_with first
      | (go_at_call 33; refine key.out.mono ?_; rintro e w1 ⟨g, cap, rfl, ho, hg, hB⟩; have HS := hid (sort_compact hlen' ho); clear ho)
      | (go_at_call 34; refine HS.out.mono ?_; rintro e w2 ⟨rfl, HC⟩)
      | (go_at_call 35; refine HC.out.mono ?_; rintro e w3 ⟨rfl, ho, hgr⟩; have HO := hid ho; have HG := hid hgr; clear ho hgr)
    go_ret
    exact ⟨_, rfl, R_own rfl HO.out, hB.grown HG.out hB.size (fun k hk => by cases hk; exact hg)⟩
end Go.Proofs.Ytmbmjaiggefjmaa
