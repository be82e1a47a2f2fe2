/- boltinglaw18.LoopDoes answers true. -/
import Derived.Test.YtldbplagenjooaaLoopBun
import Derived.Test.YtldbplagenjooaaLoopSrcs
import Derived.Deep.CutRange
import Derived.Deep.CutBlock
import Derived.Deep.Cut
namespace Go.Proofs.Ytldbplagenjooaa
set_option linter.unusedVariables false
set_option linter.unusedSimpArgs false
open Go.RowKit Go.Lib Go.Shelf Go.Maps Go.Proofs.YtldbplagenjooaaW.PrintWords Go.Proofs.YtldbplagenjooaaW.PrintLast

/-- A script, read. -/
def OpsAt (w : World) (A : Option Addr) (l : List (Int × Int × ByteArray)) : Prop :=
  l.length ≤ 9223372036854775807 ∧ ∀ j (hj : j < l.length), ∃ ad, A = some ad ∧ w.cell? (ad.add (j * 3)) = some (.int .i64 l[j].1) ∧ w.cell? ⟨(ad.add (j * 3)).block, (ad.add (j * 3)).off + 1, none⟩ = some (.int .i64 l[j].2.1) ∧ w.cell? ⟨(ad.add (j * 3)).block, (ad.add (j * 3)).off + 2, none⟩ = some (.string l[j].2.2)
/-- A row of numbers that a call has made: read, and where it may be written. -/
theorem int_row {w : World} {base : Nat} {v : Value} {xs : List Int} (h : w.ownsRow base 3 1 v xs.length (xs.map (Value.int .i64))) :
    ∃ A c, v = .slice A xs.length c ∧ xs.length ≤ c ∧ ReadsOf (Value.int .i64) 0 w A xs.length xs ∧ (0 < xs.length → ∃ g cs, A = some ⟨g, 0, none⟩ ∧ base ≤ g ∧ g < w.heap.size ∧ w.heap[g]? = some (.cells cs 3 (0, 0)) ∧ xs.length ≤ cs.size) := by
  obtain ⟨A, c, hv, hc, hrd⟩ := own_reads_of_le (enc := Value.int .i64) (d := 0) h
  refine ⟨A, c, hv, hc, hrd, fun hp => ?_⟩
  rcases h.2 with ⟨_, h0⟩ | ⟨g, cap, cur, hv2, hb, hblk, h1, h2, h3, h4⟩
  · omega
  · rw [hv] at hv2
    injection hv2 with e1 e2 e3
    refine ⟨g, cur, e1, hb, blk_lt hblk, hblk, ?_⟩
    omega
theorem ints_kept {w wr : World} {A : Option Addr} {l : List Int} (hl : ReadsOf (Value.int .i64) 0 w A l.length l) (hb : Below w.heap.size w wr) : ReadsOf (Value.int .i64) 0 wr A l.length l := by
  refine ⟨hl.1, hl.2.1, fun hp => ?_⟩
  obtain ⟨ad, e, hc⟩ := hl.2.2 hp
  exact ⟨ad, e, fun j hj => pw_cell_below hb (hc j hj)⟩
def Held18 (w : World) (q i : Nat) (lv : Value) (wr : World) : Prop := ∃ (p n : Nat) (T : Int → List ByteArray) (S : List ByteArray) (L : List Tk), lv = .pointer (some ⟨p, 0, none⟩) ∧ n ≤ i ∧ L.length ≤ i ∧ S.length ≤ i ∧ Match T L ∧ G w (pairR p n T S q L S) wr
theorem Bun.held {w wr : World} {g : Nat} {cs : Array Value} {p n q i : Nat} {T : Int → List ByteArray} {S : List ByteArray} {L : List Tk} (h : Bun w wr g cs p n T S q L S) (h1 : n ≤ i) (h2 : L.length ≤ i) (h3 : S.length ≤ i) (hm : Match T L) : Held18 w q i (.pointer (some ⟨p, 0, none⟩)) wr :=
  ⟨p, n, T, S, L, rfl, h1, h2, h3, hm, G.drop (isRes_pair _ _ _ _ _ _ _) h⟩
set_option maxHeartbeats 16000000 in
set_option maxRecDepth 100000 in
theorem does_law {A : Option Addr} {c : Nat} {l : List (Int × Int × ByteArray)} {w : World} (hl : OpsAt w A l) (hc : l.length ≤ c) :
    Calls Try.prog 7 #[.slice A l.length c] w fun e w' => e = .returned (.bool true) ∧ Below w.heap.size w w' := by
  have hll : l.length ≤ 9223372036854775807 := hl.1
  have hcell : Hid (∀ wr, Below w.heap.size w wr → ∀ j, j < l.length → ∃ ad kd src s, A = some ad ∧ wr.cell? (ad.add (j * 3)) = some (.int .i64 kd) ∧ wr.cell? ⟨(ad.add (j * 3)).block, (ad.add (j * 3)).off + 1, none⟩ = some (.int .i64 src) ∧ wr.cell? ⟨(ad.add (j * 3)).block, (ad.add (j * 3)).off + 2, none⟩ = some (.string s)) := hid (fun wr hb j hj => by
    obtain ⟨ad, e, h1, h2, h3⟩ := hl.2 j hj
    exact ⟨ad, _, _, _, e, pw_cell_below hb h1, pw_cell_below hb h2, pw_cell_below hb h3⟩)
  clear hl
  go_enter Try.func7, Try.ntmps7
  go_wp2_with fail
  refine (o_new _).mono ?_
  rintro e w1 ⟨p0, rfl, h1⟩
  have H1 := hid h1
  clear h1
  go_wp2_with fail
  refine (r_new _).mono ?_
  rintro e w2 ⟨rfl, h2, hb2⟩
  have H2 : Hid (G w (pairR p0 0 (fun _ => []) [] w1.heap.size [] []) w2) := hid (G.comm (G.made (isRes_loop _ _ _ _) ⟨H1.out.at_, H1.out.below⟩ h2 hb2))
  obtain ⟨q, hq⟩ : ∃ q, w1.heap.size = q := ⟨_, rfl⟩
  rw [hq] at H2 ⊢
  clear h2 hb2 H1 hq
  go_wp2
  go_loopw [3, 5] (fun lv iv wr => ∃ i : Nat, iv = .int .i64 i ∧ i ≤ 100 ∧ Held18 w q i lv wr) (fun _ iv _ => 100 - (intOf iv).toNat)
  case atStart => exact ⟨0, rfl, by omega, p0, 0, _, [], [], rfl, by omega, by simp, by simp, match_nil, H2.out⟩
  case round =>
    clear H2
    obtain ⟨i, rfl, hi, p, n, T, S, L, rfl, hn, hL, hS, hm, hg⟩ := hrel
    have HM := hid hm
    have HG := hid hg
    clear hm hg
    by_cases hlt : i < l.length ∧ i < 100
    · obtain ⟨ad, kd, src, s, rfl, k0, k1, k2⟩ := hcell.out wr HG.out.below i hlt.1
      have hil : i < l.length := hlt.1
      have hi100 : i < 100 := hlt.2
      have hb1 : decide ((i : Int) < 100) = true := decide_eq_true (by omega)
      have HB0 : Hid (Bun w (wr.alloc (.cells #[.int .i64 kd, .int .i64 src, .string s] 45)) wr.heap.size #[.int .i64 kd, .int .i64 src, .string s] p n T S q L S) := hid (G.made (isRes_pair _ _ _ _ _ _ _) HG.out ⟨Nat.le_refl _, blk_new wr _⟩ ((Below.refl _ wr).alloc (Nat.le_refl _) _))
      clear hlt
      go_upto_block 2 with fail
      go_cut [3] from 23 to 162 (fun lv wx => Held18 w q (i + 1) lv wx)
      case first =>
        have hq5 : ∀ j : Nat, j ≤ i → j ≤ 1000000 := fun j hj => by omega
        have HBX := hid (Bun.box HB0.out)
        by_cases e0 : kd = 0
        · subst e0
          by_cases hs : 0 ≤ src ∧ src < 8
          · obtain ⟨hs0, hs8⟩ := hs
            go_wp2_with fail
            refine (b_loop HB0.out (fun ok h => post_calls s hs0 hs8 (hq5 n hn) (Nat.le_trans (HM.out.len _) (hq5 _ hL)) h)).mono ?_
            rintro e w3 ⟨rfl, h3⟩
            have H3 := hid h3
            have b1 := (blk_cell h3.box 1).trans rfl
            have b2 := (blk_cell h3.box 2).trans rfl
            clear h3
            go_wp2_with fail
            refine (b_ref H3.out (fun ok h => r_post s hs0 hs8 (hq5 _ hL) h)).mono ?_
            rintro e w4 ⟨rfl, h4⟩
            have H4 := hid h4
            clear h4 b1 b2
            go_wp2
            go_meet
            case rel => exact Bun.held H4.out (by omega) (by simp; omega) (by omega) (HM.out.post s hs0 hs8)
          · go_wp2_with fail
            refine (post_bad _ p src s hs).mono ?_
            rintro e w3 ⟨rfl, rfl⟩
            go_wp2_with fail
            refine (r_post_bad _ q src s hs).mono ?_
            rintro e w4 ⟨rfl, rfl⟩
            go_wp2
            go_meet
            case rel => exact Bun.held HB0.out (by omega) (by omega) (by omega) HM.out
        by_cases e1 : kd = 1
        · subst e1
          clear e0
          go_wp2_with fail
          refine (b_loop HB0.out (fun ok h => small_calls s (hq5 _ hS) h)).mono ?_
          rintro e w3 ⟨rfl, h3⟩
          have H3 := hid h3
          have b2 := (blk_cell h3.box 2).trans rfl
          clear h3
          go_wp2_with fail
          refine (b_ref H3.out (fun ok h => r_add s (hq5 _ hS) h)).mono ?_
          rintro e w4 ⟨rfl, h4⟩
          have H4 := hid h4
          clear h4 b2
          go_wp2
          go_meet
          case rel => exact Bun.held H4.out (by omega) (by omega) (by simp; omega) HM.out
        by_cases e2 : kd = 2
        · subst e2
          clear e0 e1
          by_cases hs : 0 ≤ src ∧ src < 8
          · obtain ⟨hs0, hs8⟩ := hs
            by_cases hz : S ≠ [] ∨ T src = []
            · go_wp2_with fail
              refine (b_look HB0.out (fun ok h => pick_none hs0 hs8 (hq5 _ hS) hz h)).mono ?_
              rintro e w3 ⟨rfl, rfl⟩
              go_wp2_with fail
              refine (b_rpick0 HB0.out hs0 hs8 (hq5 _ hL) (hq5 _ hS) (hz.imp id (fun g => HM.out.none g))).mono ?_
              rintro e w4 ⟨rfl, h4⟩
              have H4 := hid h4
              clear h4
              go_wp2
              go_meet
              case rel => exact Bun.held H4.out (by omega) (by omega) (by omega) HM.out
            · have hS0 : S = [] := Classical.byContradiction fun g => hz (.inl g)
              subst hS0
              obtain ⟨t, ts, ht⟩ : ∃ t ts, T src = t :: ts := by
                cases hh : T src with
                | nil => exact absurd (.inr hh) hz
                | cons t ts => exact ⟨t, ts, rfl⟩
              obtain ⟨g1, g2, g3, g4⟩ := HM.out.some ht
              have hlt := HM.out.len src
              rw [ht, List.length_cons] at hlt
              have HT := hid ht
              have HG1 := hid g1
              have HG2 := hid g2
              have HG3 := hid g3
              clear hz ht g1 g2 g3
              go_wp2_with fail
              refine (b_pick HB0.out HT.out (hq5 _ hn) (by omega)).mono ?_
              rintro e w3 ⟨rfl, h3⟩
              have H3 := hid h3
              have b1 := (blk_cell h3.box 1).trans rfl
              clear h3
              go_wp2_with fail
              refine (b_rpick H3.out hs0 hs8 (hq5 _ hL) HG1.out).mono ?_
              rintro e w4 ⟨rfl, h4⟩
              have H4 := hid h4
              rw [HG2.out]
              clear h4 b1
              go_wp2
              go_meet
              case rel => exact Bun.held H4.out (by omega) (by omega) (by simp) HG3.out
          · go_wp2_with fail
            refine (pick_bad _ p src hs).mono ?_
            rintro e w3 ⟨rfl, rfl⟩
            go_wp2_with fail
            refine (r_pick_bad _ q src hs).mono ?_
            rintro e w4 ⟨rfl, rfl⟩
            go_wp2
            go_meet
            case rel => exact Bun.held HB0.out (by omega) (by omega) (by omega) HM.out
        by_cases e3 : kd = 3
        · subst e3
          clear e0 e1 e2
          cases S with
          | nil =>
            go_wp2_with fail
            refine (b_look HB0.out (fun ok h => next_none h)).mono ?_
            rintro e w3 ⟨rfl, rfl⟩
            go_wp2_with fail
            refine (b_look_ref HB0.out (fun ok h => r_next0 h)).mono ?_
            rintro e w4 ⟨rfl, rfl⟩
            go_wp2
            go_meet
            case rel => exact Bun.held HB0.out (by omega) (by omega) (by omega) HM.out
          | cons t S =>
            have hS2 : S.length ≤ i := by rw [List.length_cons] at hS; omega
            go_wp2_with fail
            refine (b_loop HB0.out (fun ok h => next_some (hq5 _ hS2) h)).mono ?_
            rintro e w3 ⟨rfl, h3⟩
            have H3 := hid h3
            clear h3
            go_wp2_with fail
            refine (b_ref H3.out (fun ok h => r_next (hq5 _ hS2) h)).mono ?_
            rintro e w4 ⟨rfl, h4⟩
            have H4 := hid h4
            clear h4
            go_wp2
            go_meet
            case rel => exact Bun.held H4.out (by omega) (by omega) (by omega) HM.out
        by_cases e4 : kd = 4
        · subst e4
          clear e0 e1 e2 e3
          go_wp2_with fail
          refine (b_copy HB0.out (hq5 _ hn) (fun k => Nat.le_trans (HM.out.len k) (hq5 _ hL)) (hq5 _ hS)).mono ?_
          rintro e w3 ⟨p2, rfl, h3⟩
          have H3 := hid h3
          clear h3
          go_wp2_with fail
          refine (b_old Bun.isRes H3.out (fun ok h => post_calls _ (by decide) (by decide) (hq5 n hn) (Nat.le_trans (HM.out.len _) (hq5 _ hL)) h)).mono ?_
          rintro e w4 ⟨rfl, h4⟩
          have H4 := hid h4
          clear h4
          go_wp2_with fail
          refine (b_old Bun.isRes H4.out (fun ok h => small_calls _ (hq5 _ hS) h)).mono ?_
          rintro e w5 ⟨rfl, h5⟩
          obtain ⟨t, S2, hS2⟩ : ∃ t S2, S ++ [(⟨#[108, 101, 102, 116]⟩ : ByteArray)] = t :: S2 := by
            cases S with
            | nil => exact ⟨_, _, rfl⟩
            | cons a b => exact ⟨_, _, rfl⟩
          have hl2 : S2.length ≤ i := by
            have := congrArg List.length hS2
            simp only [List.length_append, List.length_cons, List.length_nil] at this
            omega
          rw [hS2] at h5
          have H5 := hid h5
          clear h5 hS2
          go_wp2_with fail
          refine (b_old Bun.isRes H5.out (fun ok h => next_some (hq5 _ hl2) h)).mono ?_
          rintro e w6 ⟨rfl, h6⟩
          have H6 := hid h6
          clear h6
          go_wp2
          go_meet
          case rel => exact Bun.held (G.drop Bun.isRes H6.out) (by omega) (by omega) (by omega) HM.out
        have f0 : (kd == 0) = false := beq_eq_false_iff_ne.2 e0
        have f1 : (kd == 1) = false := beq_eq_false_iff_ne.2 e1
        have f2 : (kd == 2) = false := beq_eq_false_iff_ne.2 e2
        have f3 : (kd == 3) = false := beq_eq_false_iff_ne.2 e3
        have f4 : (kd == 4) = false := beq_eq_false_iff_ne.2 e4
        go_wp2
        go_meet
        case rel => exact Bun.held HB0.out (by omega) (by omega) (by omega) HM.out
      case rest =>
        clear HB0 k0 k1 k2 HG HM
        obtain ⟨p, n, T, S, L, rfl, hn, hL, hS, hm, hg⟩ := hcut
        have HM := hid hm
        have HG := hid hg
        clear hm hg
        have hm := hid (G.comm HG.out)
        go_wp2_with fail
        refine (G.look (A := loopR p n T S) HG.out (fun ok h => waits_calls (fun k => Nat.le_trans (HM.out.len k) (by omega)) h)).mono ?_
        rintro e w5 ⟨rfl, hb5⟩
        rw [HM.out.sum]
        have hg5 := HG.out.later (isRes_pair _ _ _ _ _ _ _) hb5
        have HG5 := hid hg5
        clear hm hb5 hg5 HG
        go_wp2_with fail
        refine (G.look (A := loopR p n T S) HG5.out (fun ok h => sources_calls (by omega) h)).mono ?_
        rintro e w6 ⟨v, rfl, hrow, hb6⟩
        rw [← HM.out.srcs] at hrow
        obtain ⟨A6, c6, rfl, hc6, hrd6, hput6⟩ := int_row hrow
        obtain ⟨xs, hxs⟩ : ∃ xs, rsrc L 8 = xs := ⟨_, rfl⟩
        have hx8 : xs.length ≤ 8 := hxs ▸ rsrc_len L 8
        rw [hxs] at hc6 hrd6 hput6 ⊢
        have HG6 := hid (HG5.out.later (isRes_pair _ _ _ _ _ _ _) hb6)
        obtain ⟨⟨_, _, _, ⟨v1, v2, hr⟩, _⟩, _⟩ := HG6.out
        obtain ⟨A1, d1, rfl, _⟩ := own_len hr.row1
        obtain ⟨A2, d2, rfl, _⟩ := own_len hr.row2
        have e1 : w6.cell? ⟨q, 0, none⟩ = some (.slice A1 L.length d1) := (blk_cell hr.blk 0).trans rfl
        have e2 : w6.cell? ⟨q, 1, none⟩ = some (.slice A2 S.length d2) := (blk_cell hr.blk 1).trans rfl
        have HB6 := hid hb6
        have HRD := hid hrd6
        have HPUT := hid hput6
        clear hb6 hrd6 hput6 hr hrow
        go_wp2_with fail
        refine (G.look (A := refR q L S) HG6.out.comm (fun ok h => r_sources (by omega) h)).mono ?_
        rintro e w7 ⟨A7, c7, rfl, hc7, hrd7, hb7⟩
        rw [hxs] at hc7 hrd7 ⊢
        clear e1 e2
        go_wp2_with fail
        refine (r_same (ints_kept HRD.out hb7) hc6 hrd7 hc7).mono ?_
        rintro e w8 ⟨rfl, nq, rfl⟩
        have HB8 : Hid (Below w6.heap.size w6 (w7.drewN nq)) := hid (pw_below_drewN hb7 nq)
        have HP8 : Hid (0 < xs.length → ∃ g cs, A6 = some ⟨g, 0, none⟩ ∧ w5.heap.size ≤ g ∧ (w7.drewN nq).heap[g]? = some (.cells cs 3 (0, 0)) ∧ xs.length ≤ cs.size) := hid (fun hp => by
          obtain ⟨g, cs, h1, h2, h3, h4, h5⟩ := HPUT.out hp
          exact ⟨g, cs, h1, h2, (HB8.out.block g h3).trans h4, h5⟩)
        have HB9 : Hid (Below w5.heap.size w5 (w7.drewN nq)) := hid (HB6.out.trans (HB8.out.mono HB6.out.size))
        obtain ⟨wo, hwo⟩ : ∃ wo : World, wo = w7.drewN nq := ⟨_, rfl⟩
        rw [← hwo] at HB9 HP8
        clear hrd7 hb7 hc7 HB8 HPUT HRD HG6 HB6
        rw [← hwo]
        clear hwo
        go_wp2
        go_loopw [20] (fun iv wr => ∃ j : Nat, iv = .int .i64 j ∧ j ≤ xs.length ∧ Below w5.heap.size w5 wr ∧ (0 < xs.length → ∃ g cs, A6 = some ⟨g, 0, none⟩ ∧ w5.heap.size ≤ g ∧ wr.heap[g]? = some (.cells cs 3 (0, 0)) ∧ xs.length ≤ cs.size)) (fun iv _ => xs.length - (intOf iv).toNat)
        case atStart => exact ⟨0, rfl, by omega, HB9.out, HP8.out⟩
        case round =>
          obtain ⟨j, rfl, hj, hb, hp⟩ := hrel
          have HB := hid hb
          have HP := hid hp
          clear hb hp
          by_cases hjl : j < xs.length
          · obtain ⟨g, cs, rfl, h5, hblk, hsz⟩ := HP.out (by omega)
            have hjd : decide (j < xs.length) = true := decide_eq_true hjl
            obtain ⟨u, hu⟩ : ∃ u, cs[j]? = some u := ⟨cs[j], Array.getElem?_eq_getElem (by omega)⟩
            have k0 : wr.cell? ⟨g, j, none⟩ = some u := (blk_cell hblk j).trans hu
            have k1 : wr.frozen? ⟨g, j, none⟩ = false := blk_frozen hblk j
            have hst : Hid (Below w5.heap.size w5 (wr.setCell ⟨g, j, none⟩ (.int .i64 (-1)))) := hid (HB.out.setCell h5 _)
            have hst2 : Hid ((wr.setCell ⟨g, j, none⟩ (.int .i64 (-1))).heap[g]? = some (.cells (cs.setIfInBounds j (.int .i64 (-1))) 3 (0, 0))) := hid (blk_set hblk j _)
            have HSZ := hid hsz
            clear hblk hu hsz
            go_wp2
            go_roundw
            case rel => exact ⟨j + 1, by go_num, by omega, hst.out, fun _ => ⟨g, _, rfl, h5, hst2.out, by rw [Array.size_setIfInBounds]; exact HSZ.out⟩⟩
            case measure => simp [intOf]; omega
          · have hjd : decide (j < xs.length) = false := decide_eq_false hjl
            clear HP HP8
            go_wp2
            go_roundw
            case rel =>
              exact ⟨i + 1, by go_num, by omega, p, n, T, S, L, rfl, hn, hL, hS, HM.out, HG5.out.later (isRes_pair _ _ _ _ _ _ _) HB.out⟩
            case measure => simp [intOf]; omega
    · clear hcell
      have rest : Hid (decide (i < l.length) = false ∨ (decide (i < l.length) = true ∧ decide ((i : Int) < 100) = false)) := hid (by
        by_cases g : i < l.length
        · exact .inr ⟨decide_eq_true (by omega), decide_eq_false (by omega)⟩
        · exact .inl (decide_eq_false (by omega)))
      clear hlt
      rcases rest.out with g | ⟨g, g2⟩
      all_goals
        go_wp2_with fail
        refine (fixed_calls _).mono ?_
        rintro e w7 ⟨rfl, hb⟩
        have HB := hid hb
        clear hb
        go_wp2
        go_ret
        exact ⟨rfl, HG.out.below.trans (HB.out.mono HG.out.below.size)⟩
end Go.Proofs.Ytldbplagenjooaa
