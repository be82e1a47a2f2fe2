/- boltinglaw18.LoopOrder answers true. -/
import Derived.Test.YtldbplagenjooaaLoopOrd
namespace Go.Proofs.Ytldbplagenjooaa
set_option linter.unusedVariables false
set_option linter.unusedSimpArgs false
open Go.RowKit Go.Lib Go.Shelf Go.Maps Go.Proofs.YtldbplagenjooaaW.PrintWords Go.Proofs.YtldbplagenjooaaW.PrintLast

theorem madeN (m : Nat) : madeCells #[Value.int .i64 0] m = (nums .i64 (List.replicate m 0)).toArray := by
  apply Array.ext'
  apply List.ext_getElem
  · simp [nums, madeCells]
  · intro i h1 h2
    simp [nums, madeCells, Nat.mod_one]
theorem nums_cell {w : World} {x : Nat} {lst : List Int} {t : TypeId} (h : w.heap[x]? = some (.cells (nums .i64 lst).toArray t (0, 0))) {k : Nat} (hk : k < lst.length) : w.cell? ⟨x, k, none⟩ = some (.int .i64 (lst.getD k 0)) := by
  rw [blk_cell h k]
  simp [nums, hk]
theorem nums_set (lst : List Int) (k : Nat) (x : Int) : (nums .i64 lst).toArray.setIfInBounds k (.int .i64 x) = (nums .i64 (lst.set k x)).toArray := by
  simp [nums, List.map_set]
set_option maxHeartbeats 16000000 in
set_option maxRecDepth 100000 in
theorem order_law {A B : Option Addr} {c d : Nat} {l m : List Int} {w : World} (hl : ReadsOf (Value.int .i64) 0 w A l.length l) (hc : l.length ≤ c) (hm : ReadsOf (Value.int .i64) 0 w B m.length m) (hd : m.length ≤ d) :
    Calls Try.prog 6 #[.slice A l.length c, .slice B m.length d] w fun e w' => e = .returned (.bool true) ∧ Below w.heap.size w w' := by
  have mixed : Try.prog.follows Departure.mixedOrders = true := by kernel_rfl
  obtain ⟨n, hn⟩ : ∃ n, min l.length 60 = n := ⟨_, rfl⟩
  have hn60 : n ≤ 60 := by omega
  have hnl : n ≤ l.length := by omega
  have hmin : min (l.length : Int) 60 = (n : Int) := by omega
  have hcell : Hid (∀ wr, Below w.heap.size w wr → ∀ j, j < l.length → ∃ ad x, A = some ad ∧ wr.cell? (ad.add j) = some (.int .i64 x) ∧ l.getD j 0 = x) := hid (fun wr hb j hj => ints_later hl hb (by omega))
  have hcell2 : Hid (∀ wr, Below w.heap.size w wr → ∀ j, j < m.length → ∃ ad x, B = some ad ∧ wr.cell? (ad.add j) = some (.int .i64 x) ∧ m.getD j 0 = x) := hid (fun wr hb j hj => ints_later hm hb (by omega))
  have hll : l.length ≤ 9223372036854775807 := hl.2.1
  have hml : m.length ≤ 9223372036854775807 := hm.2.1
  have hmk := print_make (P := Try.prog) 34 3 .i64 8 Try.underlying34 (by kernel_rfl) (by decide) 8 (by decide)
  have HMK := hid hmk
  clear hl hm hn hmk
  go_enter Try.func6, Try.ntmps6
  go_wp2_with fail
  refine (o_new _).mono ?_
  rintro e w1 ⟨p, rfl, h1⟩
  have H1 := hid h1
  clear h1
  go_wp2
  go_loopw [7] (fun i wr => ∃ (k : Nat) (Q : Int → List Nat), i = .int .i64 k ∧ k ≤ n ∧ Own w wr p k (tasks Q) [] ∧ sumT (tasks Q) = k ∧ (∀ j, (tasks Q j).length ≤ k) ∧ Posted l k (List.replicate 8 0) Q) (fun i _ => n - (intOf i).toNat)
  case atStart => exact ⟨0, fun _ => [], rfl, by omega, H1.out, rfl, fun j => Nat.le_refl _, posted_start l⟩
  case round =>
    obtain ⟨k, Q, rfl, hk, ho, hsum, hT, hP⟩ := hrel
    have HO := hid ho
    have HSUM := hid hsum
    have HT := hid hT
    have HP := hid hP
    clear ho hsum hT hP
    by_cases hlt : k < n
    · obtain ⟨ad, x, rfl, hce, hx⟩ := hcell.out wr HO.out.below k (by omega)
      have h7 := i64_and7 x
      obtain ⟨k8, hk8⟩ : ∃ k8, x % 8 = k8 := ⟨_, rfl⟩
      have hs0 : 0 ≤ k8 := by omega
      have hs8 : k8 < 8 := by omega
      have HX := hid (show l.getD k 0 % 8 = k8 by rw [hx, hk8])
      rw [hk8] at h7
      have hu8 : IntKind.u8.wrap (k : Int) = (k : Int) := by rw [IntKind.wrap_u8]; omega
      have hkl : k < l.length := by omega
      have HXX := hid hx
      clear hk8 hx
      go_upto_region 8 with fail
      refine start_ (n := 12) (S := fun w' => w'.cell? (ad.add k) = some (.int .i64 x)) (ds := []) #[false, false, false, false, false, false, false, false, false, false, false, false] mixed rfl rfl hce (fun hHeld => ?_)
      refine pure_ (i := 0) (N := (some 30)) (v := ?_) (a' := ?_) #[true, false, false, false, false, false, false, false, false, false, false, false] rfl rfl (by kernel_rfl) (fun _ _ _ h => h) (Or.inl ⟨by rfl, ?_⟩) ?_ ?_
      rotate_left
      · intro w'
        go_simp
        first | done | with_reducible rfl | rfl
      rotate_left
      · simp only [Act.put, List.setIfInBounds_toArray, List.set_cons_zero, List.set_cons_succ]
        rfl
      refine pure_ (i := 1) (N := (some 31)) (v := ?_) (a' := ?_) #[true, true, false, false, false, false, false, false, false, false, false, false] rfl rfl (by kernel_rfl) (fun _ _ _ h => h) (Or.inl ⟨by rfl, ?_⟩) ?_ ?_
      rotate_left
      · intro w'
        go_simp
        first | done | with_reducible rfl | rfl
      rotate_left
      · simp only [Act.put, List.setIfInBounds_toArray, List.set_cons_zero, List.set_cons_succ]
        rfl
      refine pure_ (i := 2) (N := (some 32)) (v := ?_) (a' := ?_) #[true, true, true, false, false, false, false, false, false, false, false, false] rfl rfl (by kernel_rfl) (fun _ _ _ h => h) (Or.inl ⟨by rfl, ?_⟩) ?_ ?_
      rotate_left
      · intro w'
        go_simp
        first | done | with_reducible rfl | rfl
      rotate_left
      · simp only [Act.put, List.setIfInBounds_toArray, List.set_cons_zero, List.set_cons_succ]
        rfl
      refine pure_ (i := 3) (N := (some 33)) (v := ?_) (a' := ?_) #[true, true, true, true, false, false, false, false, false, false, false, false] rfl rfl (by kernel_rfl) (fun _ _ _ h => h) (Or.inl ⟨by rfl, ?_⟩) ?_ ?_
      rotate_left
      · intro w'
        go_simp
        first | done | with_reducible rfl | rfl
      rotate_left
      · simp only [Act.put, List.setIfInBounds_toArray, List.set_cons_zero, List.set_cons_succ]
        rfl
      refine take_ (i := 4) (N := (some 34)) (v := ?_) (a' := ?_) #[true, true, true, true, true, false, false, false, false, false, false, false] rfl rfl (by kernel_rfl) (fun _ _ _ h => h) (Or.inl ⟨by rfl, ?_⟩) hHeld ?_ ?_
      rotate_left
      · rintro w' s0
        go_simp
        first | done | with_reducible rfl | rfl
      rotate_left
      · simp only [Act.put, List.setIfInBounds_toArray, List.set_cons_zero, List.set_cons_succ]
        rfl
      refine pure_ (i := 5) (N := (some 35)) (v := ?_) (a' := ?_) #[true, true, true, true, true, true, false, false, false, false, false, false] rfl rfl (by kernel_rfl) (fun _ _ _ h => h) (Or.inl ⟨by rfl, ?_⟩) ?_ ?_
      rotate_left
      · intro w'
        go_simp
        first | done | with_reducible rfl | rfl
      rotate_left
      · simp only [Act.put, List.setIfInBounds_toArray, List.set_cons_zero, List.set_cons_succ]
        rfl
      refine pure_ (i := 6) (N := (some 36)) (v := ?_) (a' := ?_) #[true, true, true, true, true, true, true, false, false, false, false, false] rfl rfl (by kernel_rfl) (fun _ _ _ h => h) (Or.inl ⟨by rfl, ?_⟩) ?_ ?_
      rotate_left
      · intro w'
        go_simp
        first | done | with_reducible rfl | rfl
      rotate_left
      · simp only [Act.put, List.setIfInBounds_toArray, List.set_cons_zero, List.set_cons_succ]
        rfl
      refine pure_ (i := 7) (N := (some 37)) (v := ?_) (a' := ?_) #[true, true, true, true, true, true, true, true, false, false, false, false] rfl rfl (by kernel_rfl) (fun _ _ _ h => h) (Or.inl ⟨by rfl, ?_⟩) ?_ ?_
      rotate_left
      · intro w'
        go_simp
        first | done | with_reducible rfl | rfl
      rotate_left
      · simp only [Act.put, List.setIfInBounds_toArray, List.set_cons_zero, List.set_cons_succ]
        rfl
      refine one_ (i := 8) (N := (some 38)) #[true, true, true, true, true, true, true, true, true, false, false, false] rfl rfl (by kernel_rfl) (by decide) (fun K hK => ?_)
      refine value_ (v := .slice (some ⟨wr.heap.size, 0, none⟩) 1 1) (w1 := wr.drew.alloc (.cells #[.int .u8 (k : Int)] 5)) (by rfl) rfl (by go_simp; first | done | rfl) ?_
      refine hK.out _ _ ((World.cell?_alloc_lt _ _ _ (World.block_lt_of_cell? wr _ hce)).trans hce) (fun hHeld => ?_)
      clear hK K
      refine norm_ (a' := ?_) ?_ ?_
      rotate_left
      · show Act.put _ (some 38) _ = _
        simp only [Act.put, List.setIfInBounds_toArray, List.set_cons_zero, List.set_cons_succ]
        rfl
      refine one_ (i := 9) (N := (some 39)) #[true, true, true, true, true, true, true, true, true, true, false, false] rfl rfl (by kernel_rfl) (by decide) (fun K hK => ?_)
      have hrow : ((wr.alloc (.cells #[.int .u8 (k : Int)] 5)).drew).ownsRow 0 5 1 (.slice (some ⟨wr.heap.size, 0, none⟩) 1 1) 1 (nums .u8 [(k : Int)]) := own_lit wr 0 5 .u8 [(k : Int)] (Nat.zero_le _) (by simp)
      have hstr := own_string (P := Try.prog) Try.underlying40 Try.underlying5 Try.underlying9 hrow
      refine value_ (v := .string (str k)) (w1 := wr.drew.alloc (.cells #[.int .u8 (k : Int)] 5)) (by rfl) rfl (by go_simp; first | done | rfl) ?_
      refine hK.out _ _ hHeld (fun hHeld => ?_)
      clear hK K
      refine norm_ (a' := ?_) ?_ ?_
      rotate_left
      · show Act.put _ (some 39) _ = _
        simp only [Act.put, List.setIfInBounds_toArray, List.set_cons_zero, List.set_cons_succ]
        rfl
      refine one_ (i := 10) (N := (some 40)) #[true, true, true, true, true, true, true, true, true, true, true, false] rfl rfl (by kernel_rfl) (by decide) (fun K hK => ?_)
      refine goes_ Try.func9 (by kernel_rfl) rfl #[.pointer (some ⟨p, 0, none⟩), .int .i64 k8, .string (str k)] (by rfl) rfl rfl (by (try simp only [List.map_toArray, List.map_cons, List.map_nil]); first | done | rfl) ?_
      have hbA : Below wr.heap.size wr (wr.drew.alloc (.cells #[.int .u8 (k : Int)] 5)) := ⟨rfl, rfl, rfl, by simp, fun i hi => Below.heap_alloc wr.drew _ i hi⟩
      refine (o_post (HO.out.later hbA) (str k) hs0 hs8 (by omega) (Nat.le_trans (HT.out k8) (by omega))).mono ?_
      rintro e w3 ⟨rfl, h3⟩
      have H3 := hid h3
      clear h3
      refine ⟨_, rfl, ?_⟩
      refine hK.out _ _ ?_ (fun hHeld => ?_)
      · obtain ⟨ad1, x1, e1, c1, g1⟩ := hcell.out w3 H3.out.below k hkl
        cases e1
        rw [c1, ← g1, HXX.out]
      clear hK K
      refine norm_ (a' := ?_) ?_ ?_
      rotate_left
      · show Act.put _ (some 40) _ = _
        simp only [Act.put, List.setIfInBounds_toArray, List.set_cons_zero, List.set_cons_succ]
        rfl
      refine pure_ (i := 11) (N := (some 41)) (v := ?_) (a' := ?_) #[true, true, true, true, true, true, true, true, true, true, true, true] rfl rfl (by kernel_rfl) (fun _ _ _ h => h) (Or.inl ⟨by rfl, ?_⟩) ?_ ?_
      rotate_left
      · intro w'
        go_simp
        first | done | with_reducible rfl | rfl
      rotate_left
      · simp only [Act.put, List.setIfInBounds_toArray, List.set_cons_zero, List.set_cons_succ]
        rfl
      refine done_ (by kernel_rfl) ?_
      go_wp2
      go_roundw
      case rel =>
        have et : upd (tasks Q) k8 (tasks Q k8 ++ [str k]) = tasks (updQ Q k8 (Q k8 ++ [k])) := by rw [← tasks_upd, List.map_append]; rfl
        exact ⟨k + 1, updQ Q k8 (Q k8 ++ [k]), by go_num, by omega, et ▸ H3.out, by
          have h := sumT_upd (tasks Q) k8 (tasks Q k8 ++ [str k]) hs0 hs8
          have h2 := HSUM.out
          rw [List.length_append, List.length_singleton] at h
          rw [← et]
          omega, fun j => by
          have h := HT.out j
          have h2 := HT.out k8
          rw [← et]
          by_cases e : j = k8
          · subst e; rw [upd_self, List.length_append, List.length_singleton]; omega
          · rw [upd_ne e]; omega, posted_step HP.out HX.out⟩
      case measure => simp [intOf]; omega
    · have hkn : k = n := by omega
      subst hkn
      clear hlt hk
      have hmk : ∀ W : World, (Instr.makeSlice 34 (.int .i64 8) (.int .i64 8)).run Try.prog W = .ok (.slice (some ⟨W.heap.size, 0, none⟩) 8 8) (W.alloc (.cells (madeCells #[.int .i64 0] 8) 3)) := fun W => HMK.out W
      have HX := hid (HO.out.beside (.cells (madeCells #[.int .i64 0] 8) 3))
      have HXB : Hid ((wr.alloc (.cells (madeCells #[.int .i64 0] 8) 3)).heap[wr.heap.size]? = some (.cells (nums .i64 (List.replicate 8 0)).toArray 3 (0, 0))) := hid ((blk_new wr _).trans (by rw [madeN]))
      obtain ⟨X, hXe⟩ : ∃ X, wr.heap.size = X := ⟨_, rfl⟩
      rw [hXe] at HX HXB
      go_wp2
      generalize wr.alloc (.cells (madeCells #[.int .i64 0] 8) 3) = W2 at HX HXB ⊢
      clear hmk hXe
      go_loopw [9, 10] (fun g i wr => ∃ (q gn mm : Nat) (Q : Int → List Nat) (lst : List Int), i = .int .i64 q ∧ q ≤ 200 ∧ g = .int .i64 gn ∧ mm ≤ k + q ∧ OwnX X w wr p mm (tasks Q) [] ∧ sumT (tasks Q) + gn = k ∧ Posted l k lst Q ∧ lst.length = 8 ∧ wr.heap[X]? = some (.cells (nums .i64 lst).toArray 3 (0, 0))) (fun _ i _ => 200 - (intOf i).toNat)
      case atStart => exact ⟨0, 0, k, Q, List.replicate 8 0, rfl, by omega, rfl, by omega, HX.out, HSUM.out, HP.out, rfl, HXB.out⟩
      case round =>
        obtain ⟨q, gn, mm, Q2, lst, rfl, hq, rfl, hmm, ho, hsum, hP, hlst, hblk⟩ := hrel
        have HO2 := hid ho
        have HSUM2 := hid hsum
        have HP2 := hid hP
        have HBLK := hid hblk
        have HLST := hid hlst
        clear ho hsum hP hblk hlst
        by_cases hlt : q < m.length ∧ q < 200
        · have hqm : q < m.length := hlt.1
          have hq60 : q < 200 := hlt.2
          have hb2 : decide (q < m.length) = true := decide_eq_true (by omega)
          have hb1 : decide ((q : Int) < 200) = true := decide_eq_true (by omega)
          obtain ⟨ad2, x, rfl, hce2, hx2⟩ := hcell2.out wr HO2.out.below q hqm
          have HX2 := hid hx2
          clear hx2
          have h7 := i64_and7 x
          obtain ⟨kn, hkn, hk8⟩ : ∃ kn : Nat, x % 8 = (kn : Int) ∧ kn < 8 := ⟨(x % 8).toNat, by omega, by omega⟩
          rw [hkn] at h7
          clear hlt hkn
          cases hTk : Q2 kn with
          | nil =>
            have HTK : Hid (tasks Q2 kn = []) := hid (by show (Q2 kn).map str = []; rw [hTk]; rfl)
            clear hTk
            go_wp2_with fail
            refine (o_pick0 HO2.out.own (by omega) (by omega) (by decide) (.inr HTK.out)).mono ?_
            rintro e w4 ⟨rfl, rfl⟩
            go_wp2
            go_roundw
            case rel => exact ⟨q + 1, gn, mm, Q2, lst, by go_num, by omega, rfl, by omega, HO2.out, HSUM2.out, HP2.out, HLST.out, HBLK.out⟩
            case measure => simp [intOf]; omega
          | cons i rest =>
            have HQ := hid hTk
            have HTK : Hid (tasks Q2 kn = str i :: rest.map str) := hid (by show (Q2 kn).map str = _; rw [hTk]; rfl)
            have hi := HP2.out.is kn i (by rw [hTk]; simp)
            have hla := HP2.out.last kn i (by rw [hTk]; simp)
            have hrl : (rest.map str).length + 1 ≤ k := by
              have h1 := le_sumT (tasks Q2) (k := (kn : Int)) (by omega) (by omega)
              rw [HTK.out, List.length_cons] at h1
              have := HSUM2.out
              omega
            rw [Int.toNat_natCast] at hla
            have hgn : gn ≤ 60 := by have := HSUM2.out; omega
            obtain ⟨la, hlae⟩ : ∃ la, lst.getD kn 0 = la := ⟨_, rfl⟩
            rw [hlae] at hla
            have hik : i < k := hi.1
            have HI := hid hi.2
            clear hTk hi
            go_wp2_with fail
            refine (x_pick HO2.out HTK.out (by omega) (by omega)).mono ?_
            rintro e w4 ⟨rfl, h4, hb4⟩
            have H4 := hid h4
            have HB4 := hid (hb4.trans HBLK.out)
            clear h4 hb4
            obtain ⟨ad, xi, rfl, hci, hxi⟩ := hcell.out w4 H4.out.below i (by omega)
            have hii := i64_and7 xi
            rw [show xi % 8 = (kn : Int) by rw [← hxi]; exact HI.out] at hii
            obtain ⟨ad2', x', e2, hcq, hxq⟩ := hcell2.out w4 H4.out.below q hqm
            cases e2
            have hsx : x' = x := hxq.symm.trans HX2.out
            subst hsx
            clear hxq
            have hsz := str_size i
            have hidx := str_index (i := i) (by omega)
            have hge : decide ((k : Int) ≤ (i : Int)) = false := decide_eq_false (by omega)
            have hlt2 : decide ((i : Int) < la) = false := decide_eq_false (by omega)
            have hcl : w4.cell? ⟨X, kn, none⟩ = some (.int .i64 la) := by rw [← hlae]; exact nums_cell HB4.out (by rw [HLST.out]; exact hk8)
            have HLA := hid hlae
            clear hxi hlae
            have hil : i < l.length := by omega
            have hwi : IntKind.i64.wrap (i : Int) = (i : Int) := by rw [IntKind.wrap_i64]; omega
            have hge2 : decide (k ≤ i) = false := decide_eq_false (by omega)
            have hkn8 : (kn : Int) < 8 := by omega
            go_wp2_with fail
            have hfz : w4.frozen? ⟨X, kn, none⟩ = false := blk_frozen HB4.out kn
            have hw1 : IntKind.i64.wrap ((i : Int) + 1) = (i : Int) + 1 := by rw [IntKind.wrap_i64]; omega
            go_quiet (fail)
            go_upto_region 19 with fail
            refine start_ (n := 12) (S := fun w' => w'.cell? (ad2.add q) = some (.int .i64 x')) (ds := [11]) #[false, false, false, false, false, false, false, false, false, false, false, false] mixed rfl rfl hcq (fun hHeld => ?_)
            refine pure_ (i := 0) (N := (some 103)) (v := ?_) (a' := ?_) #[true, false, false, false, false, false, false, false, false, false, false, false] rfl rfl (by kernel_rfl) (fun _ _ _ h => h) (Or.inl ⟨by rfl, ?_⟩) ?_ ?_
            rotate_left
            · intro w'
              go_simp
              first | done | with_reducible rfl | rfl
            rotate_left
            · simp only [Act.put, List.setIfInBounds_toArray, List.set_cons_zero, List.set_cons_succ]
              rfl
            refine pure_ (i := 1) (N := (some 104)) (v := ?_) (a' := ?_) #[true, true, false, false, false, false, false, false, false, false, false, false] rfl rfl (by kernel_rfl) (fun _ _ _ h => h) (Or.inl ⟨by rfl, ?_⟩) ?_ ?_
            rotate_left
            · intro w'
              go_simp
              first | done | with_reducible rfl | rfl
            rotate_left
            · simp only [Act.put, List.setIfInBounds_toArray, List.set_cons_zero, List.set_cons_succ]
              rfl
            refine pure_ (i := 2) (N := (some 105)) (v := ?_) (a' := ?_) #[true, true, true, false, false, false, false, false, false, false, false, false] rfl rfl (by kernel_rfl) (fun _ _ _ h => h) (Or.inl ⟨by rfl, ?_⟩) ?_ ?_
            rotate_left
            · intro w'
              go_simp
              first | done | with_reducible rfl | rfl
            rotate_left
            · simp only [Act.put, List.setIfInBounds_toArray, List.set_cons_zero, List.set_cons_succ]
              rfl
            refine pure_ (i := 3) (N := (some 106)) (v := ?_) (a' := ?_) #[true, true, true, true, false, false, false, false, false, false, false, false] rfl rfl (by kernel_rfl) (fun _ _ _ h => h) (Or.inl ⟨by rfl, ?_⟩) ?_ ?_
            rotate_left
            · intro w'
              go_simp
              first | done | with_reducible rfl | rfl
            rotate_left
            · simp only [Act.put, List.setIfInBounds_toArray, List.set_cons_zero, List.set_cons_succ]
              rfl
            refine take_ (i := 4) (N := (some 107)) (v := ?_) (a' := ?_) #[true, true, true, true, true, false, false, false, false, false, false, false] rfl rfl (by kernel_rfl) (fun _ _ _ h => h) (Or.inl ⟨by rfl, ?_⟩) hHeld ?_ ?_
            rotate_left
            · rintro w' s0
              go_simp
              first | done | with_reducible rfl | rfl
            rotate_left
            · simp only [Act.put, List.setIfInBounds_toArray, List.set_cons_zero, List.set_cons_succ]
              rfl
            refine pure_ (i := 5) (N := (some 108)) (v := ?_) (a' := ?_) #[true, true, true, true, true, true, false, false, false, false, false, false] rfl rfl (by kernel_rfl) (fun _ _ _ h => h) (Or.inl ⟨by rfl, ?_⟩) ?_ ?_
            rotate_left
            · intro w'
              go_simp
              first | done | with_reducible rfl | rfl
            rotate_left
            · simp only [Act.put, List.setIfInBounds_toArray, List.set_cons_zero, List.set_cons_succ]
              rfl
            refine pure_ (i := 6) (N := (some 109)) (v := ?_) (a' := ?_) #[true, true, true, true, true, true, true, false, false, false, false, false] rfl rfl (by kernel_rfl) (fun _ _ _ h => h) (Or.inl ⟨by rfl, ?_⟩) ?_ ?_
            rotate_left
            · intro w'
              go_simp
              first | done | with_reducible rfl | rfl
            rotate_left
            · simp only [Act.put, List.setIfInBounds_toArray, List.set_cons_zero, List.set_cons_succ]
              rfl
            refine pure_ (i := 7) (N := (some 110)) (v := ?_) (a' := ?_) #[true, true, true, true, true, true, true, true, false, false, false, false] rfl rfl (by kernel_rfl) (fun _ _ _ h => h) (Or.inl ⟨by rfl, ?_⟩) ?_ ?_
            rotate_left
            · intro w'
              go_simp
              first | done | with_reducible rfl | rfl
            rotate_left
            · simp only [Act.put, List.setIfInBounds_toArray, List.set_cons_zero, List.set_cons_succ]
              rfl
            refine pure_ (i := 8) (N := (some 111)) (v := ?_) (a' := ?_) #[true, true, true, true, true, true, true, true, true, false, false, false] rfl rfl (by kernel_rfl) (fun _ _ _ h => h) (Or.inl ⟨by rfl, ?_⟩) ?_ ?_
            rotate_left
            · intro w'
              go_simp
              first | done | with_reducible rfl | rfl
            rotate_left
            · simp only [Act.put, List.setIfInBounds_toArray, List.set_cons_zero, List.set_cons_succ]
              rfl
            refine pure_ (i := 9) (N := (some 112)) (v := ?_) (a' := ?_) #[true, true, true, true, true, true, true, true, true, true, false, false] rfl rfl (by kernel_rfl) (fun _ _ _ h => h) (Or.inl ⟨by rfl, ?_⟩) ?_ ?_
            rotate_left
            · intro w'
              go_simp
              first | done | with_reducible rfl | rfl
            rotate_left
            · simp only [Act.put, List.setIfInBounds_toArray, List.set_cons_zero, List.set_cons_succ]
              rfl
            refine pure_ (i := 10) (N := (some 113)) (v := ?_) (a' := ?_) #[true, true, true, true, true, true, true, true, true, true, true, false] rfl rfl (by kernel_rfl) (fun _ _ _ h => h) (Or.inl ⟨by rfl, ?_⟩) ?_ ?_
            rotate_left
            · intro w'
              go_simp
              first | done | with_reducible rfl | rfl
            rotate_left
            · simp only [Act.put, List.setIfInBounds_toArray, List.set_cons_zero, List.set_cons_succ]
              rfl
            refine last_ (i := 11) (N := none) #[true, true, true, true, true, true, true, true, true, true, true, true] rfl rfl (by kernel_rfl) (by decide) (fun K hK => ?_)
            refine skip_ (w1 := ?_) (by rfl) rfl ?_ ?_
            rotate_left
            · go_simp
              first | done | rfl
            refine hK.out _ _ ?_
            clear hK K
            refine done_ (by kernel_rfl) ?_
            go_wp2
            go_roundw
            case rel =>
              have hs := sumT_upd (tasks Q2) kn (rest.map str) (by omega) (by omega)
              have hs2 := HSUM2.out
              rw [HTK.out, List.length_cons] at hs
              have hT := (H4.out.drew (nq + 1)).set kn (.int .i64 ((i : Int) + 1))
              rw [tasks_upd] at hT hs
              refine ⟨q + 1, gn + 1, mm + 1, _, lst.set kn ((i : Int) + 1), by go_num, by omega, by go_num, by omega, hT, by omega, posted_pick HP2.out HQ.out (by rw [HLST.out]; exact hk8), by rw [List.length_set]; exact HLST.out, ?_⟩
              rw [blk_set (w := w4.drewN (nq + 1)) HB4.out, nums_set]
            case measure => simp [intOf]; omega
        · have rest2 : Hid (decide (q < m.length) = false ∨ (decide (q < m.length) = true ∧ decide ((q : Int) < 200) = false)) := hid (by
            by_cases g : q < m.length
            · exact .inr ⟨decide_eq_true (by omega), decide_eq_false (by omega)⟩
            · exact .inl (decide_eq_false (by omega)))
          clear hlt hcell hcell2
          rcases rest2.out with g3 | ⟨g3, g4⟩
          all_goals
            go_wp2
            go_loopw [9, 13] (fun g i wr => ∃ (kk gn mm : Nat) (T' : Int → List ByteArray), i = .int .i64 kk ∧ kk ≤ 8 ∧ g = .int .i64 gn ∧ mm ≤ 260 + 60 * kk ∧ Own w wr p mm T' [] ∧ sumT T' + gn = k ∧ ∀ j : Int, 0 ≤ j → j < kk → T' j = []) (fun _ i _ => 8 - (intOf i).toNat)
            case atStart => exact ⟨0, gn, mm, tasks Q2, rfl, by omega, rfl, by omega, HO2.out.own, HSUM2.out, fun j h0 h1 => by omega⟩
            case round =>
              obtain ⟨kk, g5, m5, T5, rfl, hkk, rfl, hm5, ho5, hsum5, hg5⟩ := hrel
              have HO5 := hid ho5
              have HS5 := hid hsum5
              have HG5 := hid hg5
              clear ho5 hsum5 hg5
              by_cases hlt : kk < 8
              · have hb8 : decide ((kk : Int) < 8) = true := decide_eq_true (by omega)
                go_wp2
                obtain ⟨wo, rfl⟩ : ∃ wo : World, wo = wr := ⟨_, rfl⟩
                go_loopw [9, 14] (fun g i wr => ∃ (i' gn' m' : Nat) (T6 : Int → List ByteArray), i = .int .i64 i' ∧ i' ≤ 60 ∧ g = .int .i64 gn' ∧ m' ≤ m5 + i' ∧ Own w wr p m' T6 [] ∧ sumT T6 + gn' = k ∧ (∀ j : Int, 0 ≤ j → j < kk → T6 j = []) ∧ (T6 kk).length ≤ 60 - i') (fun _ i _ => 60 - (intOf i).toNat)
                case atStart =>
                  have h1 := le_sumT T5 (k := (kk : Int)) (by omega) (by omega)
                  have h2 := HS5.out
                  exact ⟨0, g5, m5, T5, rfl, by omega, rfl, by omega, HO5.out, HS5.out, HG5.out, by omega⟩
                case round =>
                  obtain ⟨i', g6, m6, T6, rfl, hi', rfl, hm6, ho6, hsum6, hg6, hlen6⟩ := hrel
                  have HO6 := hid ho6
                  have HS6 := hid hsum6
                  have HG6 := hid hg6
                  have hg60 : g6 ≤ 60 := by omega
                  clear ho6 hsum6 hg6
                  by_cases hil : i' < 60
                  · cases hTk : T6 kk with
                    | nil =>
                      have HTK := hid hTk
                      clear hTk hlen6
                      go_wp2_with fail
                      refine (o_pick0 HO6.out (by omega) (by omega) (by decide) (.inr HTK.out)).mono ?_
                      rintro e w4 ⟨rfl, rfl⟩
                      go_wp2
                      go_roundw
                      case rel => exact ⟨i' + 1, g6, m6, T6, by go_num, by omega, rfl, by omega, HO6.out, HS6.out, HG6.out, by rw [HTK.out]; exact Nat.zero_le _⟩
                      case measure => simp [intOf]; omega
                    | cons t ts =>
                      have HTK := hid hTk
                      rw [hTk, List.length_cons] at hlen6
                      clear hTk
                      go_wp2_with fail
                      refine (o_pick HO6.out HTK.out (by omega) (by omega)).mono ?_
                      rintro e w4 ⟨rfl, h4⟩
                      have H4 := hid h4
                      clear h4
                      go_wp2
                      go_roundw
                      case rel =>
                        have hs := sumT_upd T6 kk ts (by omega) (by omega)
                        have hs2 := HS6.out
                        rw [HTK.out, List.length_cons] at hs
                        exact ⟨i' + 1, g6 + 1, m6 + 1, _, by go_num, by omega, by go_num, by omega, H4.out, by omega, fun j h0 h1 => by rw [upd_ne (by omega)]; exact HG6.out j h0 h1, by rw [upd_self]; omega⟩
                      case measure => simp [intOf]; omega
                  · have hTk : T6 kk = [] := List.eq_nil_of_length_eq_zero (by omega)
                    have HTK := hid hTk
                    clear hTk hlen6
                    go_wp2
                    go_roundw
                    case rel => exact ⟨kk + 1, g6, m6, T6, by go_num, by omega, rfl, by omega, HO6.out, HS6.out, fun j h0 h1 => by
                      by_cases e : j = kk
                      · rw [e]; exact HTK.out
                      · exact HG6.out j h0 (by omega)⟩
                    case measure => simp [intOf]; omega
              · have hk8 : kk = 8 := by omega
                subst hk8
                have hs0 : sumT T5 = 0 := sumT_nil (fun j h0 h1 => HG5.out j h0 (by omega))
                have hall : ∀ j, T5 j = [] := fun j => by
                  by_cases g : 0 ≤ j ∧ j < 8
                  · exact HG5.out j g.1 (by omega)
                  · exact HO5.out.at_.empty j g
                have hsr : srcs T5 = [] := by
                  unfold srcs
                  rw [List.filter_eq_nil_iff]
                  intro j _
                  simp [hall j]
                have hgk : g5 = k := by have := HS5.out; omega
                subst hgk
                have HS0 := hid hs0
                have HSR := hid hsr
                have HALL := hid hall
                clear hs0 hall hsr hlt
                go_wp2_with fail
                refine (waits_calls (fun j => by rw [HALL.out j]; exact Nat.zero_le _) HO5.out.at_).mono ?_
                rintro e w5 ⟨rfl, hb5⟩
                have H5 := hid (HO5.out.later hb5)
                rw [HS0.out]
                clear hb5
                go_wp2_with fail
                refine (o_sources H5.out (by omega)).mono ?_
                rintro e w6 ⟨A6, c6, rfl, hc6, _, h6⟩
                have H6 := hid h6
                rw [HSR.out]
                clear h6 hc6
                go_wp2_with fail
                refine (fixed_calls _).mono ?_
                rintro e w7 ⟨rfl, hb⟩
                have HB := hid hb
                clear hb
                go_wp2
                go_ret
                exact ⟨rfl, H6.out.below.trans (HB.out.mono H6.out.below.size)⟩
end Go.Proofs.Ytldbplagenjooaa
