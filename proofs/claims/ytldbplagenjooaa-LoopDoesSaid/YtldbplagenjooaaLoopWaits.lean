/- loop.Waits: its contract. -/
import Derived.Test.YtldbplagenjooaaLoopPick
import Derived.Deep.QuietTactic
import Derived.BigQuiet
namespace Go.Proofs.Ytldbplagenjooaa
set_option linter.unusedVariables false
set_option linter.unusedSimpArgs false
open Go.RowKit Go.Lib Go.Shelf Go.Maps Go.Proofs.YtldbplagenjooaaW.PrintWords Go.Proofs.YtldbplagenjooaaW.PrintLast

theorem same_key (j x : Int) : (key j).sameKey (key x) = decide (j = x) := by
  by_cases h : j = x
  · subst h
    rw [WideAt.sameKey_self (keyLit j)]
    simp
  · rw [Maps.sameKey_ne (fun e => h (by injection e))]
    simp [h]
/-- What has come so far: the tasks of the sources that are not left. -/
def gone (T : Int → List ByteArray) (left : Lit → Bool) (k : Int) : Nat := if left (key k) = true then 0 else (T k).length
def part (T : Int → List ByteArray) (left : Lit → Bool) : Nat := gone T left 0 + gone T left 1 + gone T left 2 + gone T left 3 + gone T left 4 + gone T left 5 + gone T left 6 + gone T left 7
/-- All tasks. -/
def sumT (T : Int → List ByteArray) : Nat := (T 0).length + (T 1).length + (T 2).length + (T 3).length + (T 4).length + (T 5).length + (T 6).length + (T 7).length
theorem gone_step (T : Int → List ByteArray) (left : Lit → Bool) (x j : Int) (hx : left (key x) = true) : gone T (fun z => left z && !z.sameKey (key x)) j = gone T left j + if j = x then (T x).length else 0 := by
  unfold gone
  show (if (left (key j) && !(key j).sameKey (key x)) = true then 0 else (T j).length) = _
  rw [same_key]
  by_cases h : j = x
  · subst h; simp [hx]
  · simp [h]
theorem part_step (T : Int → List ByteArray) (left : Lit → Bool) (x : Int) (hx : left (key x) = true) (h0 : 0 ≤ x) (h8 : x < 8) : part T (fun z => left z && !z.sameKey (key x)) = part T left + (T x).length := by
  have hs : x = 0 ∨ x = 1 ∨ x = 2 ∨ x = 3 ∨ x = 4 ∨ x = 5 ∨ x = 6 ∨ x = 7 := by omega
  unfold part
  simp only [gone_step T left x _ hx]
  rcases hs with rfl | rfl | rfl | rfl | rfl | rfl | rfl | rfl <;> simp <;> omega
theorem part_end (T : Int → List ByteArray) (left : Lit → Bool) (h : ∀ kl, left kl = false) : part T left = sumT T := by
  unfold part gone sumT
  simp [h]
theorem part_start (T : Int → List ByteArray) (D : DataW Value) (h : ∀ k, Maps.has D (key k) = decide (T k ≠ [])) : part T (Maps.has D) = 0 := by
  have : ∀ k, gone T (Maps.has D) k = 0 := fun k => by
    unfold gone
    rw [h k]
    by_cases g : T k = []
    · simp [g]
    · simp [g]
  unfold part
  simp [this]
/-- What comes out of the map. -/
theorem LoopIs.came {w : World} {ok : Nat → Prop} {p n b : Nat} {vS : Value} {D : DataW Value} {fn : Int → Value} {T : Int → List ByteArray} {S : List ByteArray} (h : LoopIs w ok p n b vS D fn T S) {x : Int} {v : Value} {y : DataW Value × List MemPlace} (hv : Rv v = some y) (hat : ∀ zd, D.atKey (key x) zd = y.1) :
    v = fn x ∧ T x ≠ [] ∧ 0 ≤ x ∧ x < 8 := by
  have h1 := hat (.held nilS)
  rw [h.at_ x] at h1
  unfold Rv at hv
  have h2 := Option.some.inj hv
  rw [← h2] at h1 hat
  have h3 : fn x = v := by injection h1
  have h4 := has_true_of_atKey hat
  rw [h.has x] at h4
  have h5 : T x ≠ [] := of_decide_eq_true h4
  exact ⟨h3.symm, h5, h.rng x h5⟩
set_option maxHeartbeats 2000000 in
set_option maxRecDepth 100000 in
theorem waits_calls {w : World} {ok : Nat → Prop} {p n : Nat} {T : Int → List ByteArray} {S : List ByteArray} (hT : ∀ k, (T k).length ≤ 1000000) (h : LoopAt w ok p n T S) :
    Calls Try.prog 15 #[.pointer (some ⟨p, 0, none⟩)] w fun e w' => e = .returned (.tuple #[.int .i64 (sumT T), .int .i64 S.length]) ∧ Below w.heap.size w w' := by
  obtain ⟨b, vS, D, fn, h⟩ := h
  obtain ⟨A, c, rfl, hc⟩ := own_len h.srow
  have c0 : w.cell? ⟨p, 0, none⟩ = some (.map (some b)) := (blk_cell h.blk 0).trans rfl
  have c1 : w.cell? ⟨p, 1, none⟩ = some (.slice A S.length c) := (blk_cell h.blk 1).trans rfl
  have hmap := h.map
  have hS : S.length ≤ 9223372036854775807 := (row_reads h.srow).2.2.2.1
  have hpl := blk_lt h.blk
  have hbl := h.map.lt
  have HH := hid h
  have HT := hid hT
  clear h hT
  go_enter Try.func15, Try.ntmps15
  go_wp2_with (first
    | (at_range; refine wpList_range_own _ rfl _ 50 rfl 3 22 law_key Try.underlying50 _ b n _ rfl hmap ?_; intro w0 hrg0 hg0 hs0)
    | go_in)
  go_frame
  go_loopw [4] (fun v4 wr => ∃ (left : Lit → Bool) (cnt : Nat), wr.ranges Try.prog 3 Rv b w.heap.size n D left cnt ∧ v4 = .int .i64 (part T left : Int) ∧ part T left ≤ 8000000 ∧ Below w.heap.size w wr)
    (fun _ wr => wr.rangeLeft b w.heap.size)
  case atStart =>
    have hp := part_start T D HH.out.has
    exact ⟨_, _, hrg0, by rw [hp]; rfl, by omega, ((Below.refl _ _).grown hg0 (Nat.le_refl _) (fun j hj => by cases hj))⟩
  case round =>
    obtain ⟨left, cnt, hrg, rfl, hpl8, hb⟩ := hrel
    have d1 : wr.cell? ⟨p, 1, none⟩ = some (.slice A S.length c) := pw_cell_below hb c1
    have HB := hid hb
    clear hb
    go_wp2_with (first
      | (at_next; refine wpList_next_ranges _ rfl _ rfl 3 law_key Rv (Value.int .i64) (fun v : Value => v) (fun k kl hk => by obtain ⟨x, hx, _⟩ := Maps.keyOf_int_inv Try.underlying3 hk; exact ⟨x, hx⟩) (fun v y _ => ⟨v, rfl⟩) b w.heap.size n D left cnt rfl hrg ?_ ?_)
      | go_in)
    · intro hc0 hl0
      have he := part_end T left hl0
      rw [he]
      clear he hl0 hrg
      go_wp2
      go_quiet (fail)
      go_wp2
      go_ret2
      exact ⟨rfl, pw_below_drewN HB.out _⟩
    · intro x v kl y ys w1 cnt1 hkey hlk hv hat hrg1 hlt hg1 hs1 hen
      obtain ⟨x', hx', rfl, hwf⟩ := Maps.keyOf_int_inv Try.underlying3 hkey
      cases hx'
      obtain ⟨rfl, hne, hx0, hx8⟩ := HH.out.came hv hat
      have hst := part_step T left x hlk hx0 hx8
      have htl := HT.out x
      have hle : part T (fun z => left z && !z.sameKey (key x)) ≤ 8000000 := by
        have : ∀ l : Lit → Bool, part T l ≤ 8000000 := fun l => by
          have g : ∀ k, gone T l k ≤ 1000000 := fun k => by
            unfold gone
            split
            · omega
            · exact HT.out k
          have := g 0; have := g 1; have := g 2; have := g 3; have := g 4; have := g 5; have := g 6; have := g 7
          unfold part
          omega
        exact this _
      obtain ⟨A2, c2, hfx, hc2⟩ := own_len (HH.out.row x)
      rw [hfx] at hen ⊢
      have HST := hid hst
      have HLE := hid hle
      have hb1 : Below w.heap.size w w1 := HB.out.grown hg1 HB.out.size (fun j hj => by cases hj; exact Nat.le_refl _)
      have HB1 := hid hb1
      clear hst hle hfx hb1 hv hat hkey hlk
      go_wp2
      go_roundw
      case rel => exact ⟨_, cnt1, hrg1, by rw [HST.out]; go_num, HLE.out, HB1.out⟩
      case measure => rw [hrg1.left_eq, hrg.left_eq]; exact hlt
end Go.Proofs.Ytldbplagenjooaa
