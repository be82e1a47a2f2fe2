/- boltinglaw09.LinkHides answers true, walked by hand. -/
import Derived.Test.YthnakndpdfgapaaHides
import Derived.Outline
import Derived.Lib.Hide
namespace Go.Proofs.Ythnakndpdfgapaa.Pure
set_option linter.unusedVariables false
set_option linter.unusedSimpArgs false
open Go.RowKit Go.Lib Go.Proofs.Ythnakndpdfgapaa.Pr Go.Proofs.YthnakndpdfgapaaW.PrintWords Go.Proofs.YthnakndpdfgapaaW.PrintLast

theorem i64_and (n : Int) (m : Nat) (hm : m < 63) : bits .and .i64 n ((2 ^ m - 1 : Nat) : Int) = n % (2 ^ m : Nat) := by
  have hlt : (2 : Nat) ^ m < 2 ^ 63 := Nat.pow_lt_pow_right (by omega) hm
  have h127 : (BitVec.ofInt 64 ((2 ^ m - 1 : Nat) : Int)).toNat = 2 ^ m - 1 := by
    rw [BitVec.toNat_ofInt]
    omega
  have key : (BitVec.ofInt 64 n &&& BitVec.ofInt 64 ((2 ^ m - 1 : Nat) : Int)).toNat = (n % ((2 ^ 64 : Nat) : Int)).toNat % 2 ^ m := by
    rw [BitVec.toNat_and, BitVec.toNat_ofInt, h127, Nat.and_two_pow_sub_one_eq_mod]
  show IntKind.i64.wrap ((BitVec.ofInt 64 n &&& BitVec.ofInt 64 ((2 ^ m - 1 : Nat) : Int)).toNat : Nat) = n % (2 ^ m : Nat)
  rw [key, IntKind.wrap_i64]
  have h0 : 0 < (2 : Nat) ^ m := Nat.pow_pos (by omega)
  have hd : ((2 ^ m : Nat) : Int) ∣ ((2 ^ 64 : Nat) : Int) := by
    rw [Int.natCast_dvd_natCast]
    exact Nat.pow_dvd_pow 2 (by omega)
  have e1 : (((n % ((2 ^ 64 : Nat) : Int)).toNat % 2 ^ m : Nat) : Int) = n % (2 ^ m : Nat) := by
    rw [Int.natCast_emod, Int.toNat_of_nonneg (Int.emod_nonneg _ (by decide)), Int.emod_emod_of_dvd _ hd]
  rw [e1]
  have h1 := Int.emod_nonneg n (b := ((2 ^ m : Nat) : Int)) (by omega)
  have h2 := Int.emod_lt_of_pos n (b := ((2 ^ m : Nat) : Int)) (by omega)
  omega
theorem i64_and16 (n : Int) : bits .and .i64 n 65535 = n % 65536 := i64_and n 16 (by omega)
theorem i64_and8 (n : Int) : bits .and .i64 n 255 = n % 256 := i64_and n 8 (by omega)
/-- Done so many, so many to do. -/
abbrev tf (n m : Nat) : Array Bool := ⟨List.replicate n true ++ List.replicate m false⟩
theorem Buf.below {w w' : World} {g : Nat} {l : List UInt8} (h : Buf w g l) (hb : Below w.heap.size w w') : Buf w' g l := by
  intro j c hj
  obtain ⟨h1, h2⟩ := h j c hj
  have hlt := World.block_lt_of_cell? w _ h1
  exact ⟨(hb.cell (p := ⟨g, j, none⟩) hlt).trans h1, (hb.frozen (p := ⟨g, j, none⟩) hlt).trans h2⟩
structure HS (w0 : World) (g : Nat) (l : List UInt8) (w : World) : Prop where
  buf : Buf w g l
  below : Below w0.heap.size w0 w
theorem HS.next {w0 w w' : World} {g : Nat} {l : List UInt8} (h : HS w0 g l w) (hb : Below w.heap.size w w') : HS w0 g l w' := ⟨Buf.below h.buf hb, h.below.trans (hb.mono h.below.size)⟩
theorem data_app (a b : ByteArray) : (a ++ b).data.toList = a.data.toList ++ b.data.toList := by simp
theorem bytes_ins {t ta tb : ByteArray} {q : Nat} {c : UInt8} (h1 : t.extract 0 q = ta) (h2 : t.extract q t.size = tb) : (ta ++ ⟨#[c]⟩ ++ tb).data.toList = t.data.toList.take q ++ c :: t.data.toList.drop q := by
  subst h1 h2
  have e1 : (t.extract 0 q).data.toList = t.data.toList.take q := by simp
  have e2 : (t.extract q t.size).data.toList = t.data.toList.drop q := by
    rw [Lib.extract_eq]
    rw [List.take_of_length_le (by rw [List.length_drop, ← Lib.size_eq]; omega)]
  rw [data_app, data_app, e1, e2]
  simp
theorem conv1 (w : World) (g : Nat) (hg : w.heap.size = g) (x : UInt8) (n : Int) (hn : n = (x.toNat : Int)) : (convert 28 9 (.slice (some ⟨g, 0, none⟩) 1 1)).run Try.prog ((w.alloc (.cells #[.int .u8 n] 5)).drew) = .ok (.string ⟨#[x]⟩) ((w.alloc (.cells #[.int .u8 n] 5)).drew) := by
  subst hg hn
  have hr : ReadsInt ((w.alloc (.cells #[.int .u8 (x.toNat : Int)] 5)).drew) .u8 (some ⟨w.heap.size, 0, none⟩) 1 [(x.toNat : Int)] := by
    refine ⟨rfl, by decide, fun _ => ⟨_, rfl, fun j hj => ?_⟩⟩
    obtain rfl : j = 0 := by omega
    exact (blk_cell (blk_new w (.cells #[.int .u8 (x.toNat : Int)] 5)) 0).trans rfl
  have h := string_of_reads (P := Try.prog) (src := 28) (dst := 9) (e := 5) (c := 1) Try.underlying28 Try.underlying5 Try.underlying9 hr
  have e : strOfNums [(x.toNat : Int)] = ⟨#[x]⟩ := by
    simp [strOfNums]
  rw [e] at h
  exact h
set_option maxHeartbeats 4000000 in
set_option maxRecDepth 100000 in
theorem hides_law {A : Option Addr} {c : Nat} {l : List Int} {w : World} (s : ByteArray) (great : Bool) (hs : s.size ≤ 140737488351232) (hl : Kd.C (Kd.int .i64) w A l.length l) (hc : l.length ≤ c) :
    Calls Try.prog 5 #[.string s, .slice A l.length c, .bool great] w fun e w' => e = .returned (.bool true) ∧ Below w.heap.size w w' := by
  obtain ⟨n, hn⟩ : ∃ n, min s.size 300 = n := ⟨_, rfl⟩
  have hn300 : n ≤ 300 := by omega
  have hns : n ≤ s.size := by omega
  have hmin : min (s.size : Int) 300 = (n : Int) := by omega
  obtain ⟨X, hX⟩ : ∃ X, s.extract 0 n = X := ⟨_, rfl⟩
  have hXs : X.size = n := by rw [← hX, ByteArray.size_extract]; omega
  have HL := hid hl
  have HC := hid hc
  have HXs := hid hXs
  clear hn hl hc hXs
  go_enter Try.func5, Try.ntmps5
  go_wp2
  go_loopw [7, 8] (fun tv iv wr => ∃ (k : Nat) (t : ByteArray), tv = .string t ∧ iv = .int .i64 k ∧ k ≤ l.length ∧ k ≤ 10 ∧ t.size ≤ 300 + k ∧ Aside (Alike X.data.toList t.data.toList) ∧ Below w.heap.size w wr) (fun _ iv _ => 10 - (intOf iv).toNat)
  case atStart => exact ⟨0, X, rfl, rfl, by omega, by omega, by rw [HXs.out]; omega, Alike.refl _, Below.refl _ _⟩
  case round =>
    obtain ⟨k, t, rfl, rfl, hkl, hk10, ht, hal, hb⟩ := hrel
    have HB := hid hb
    have HAL := hid hal.out
    have hll : l.length ≤ 9223372036854775807 := HL.out.2.1
    clear hb hal
    by_cases hlt : k < l.length ∧ k < 10
    · obtain ⟨h1, h2⟩ := hlt
      obtain ⟨ad, rfl, hce⟩ := Kd.at_int (Kd.C_below HL.out HB.out) (k : Int) (by omega) (by omega)
      obtain ⟨y, hy⟩ : ∃ y, rd l (k : Int) = y := ⟨_, rfl⟩
      rw [hy, Int.toNat_natCast] at hce
      clear hy
      have e1 := i64_and16 y
      have e2 : decide (k < l.length) = true := decide_eq_true h1
      obtain ⟨z, hz⟩ : ∃ z, y % 65536 = z := ⟨_, rfl⟩
      have z0 : 0 ≤ z := by omega
      have z1 : z < 65536 := by omega
      rw [hz] at e1
      clear hz
      have hce2 : ∀ o, (wr.alloc o).cell? (ad.add k) = some (Value.int IntKind.i64 y) := fun o => pw_cell_below ((Below.refl _ wr).alloc (Nat.le_refl _) o) hce
      obtain ⟨q, hq⟩ : ∃ q, z.toNat % (t.size + 1) = q := ⟨_, rfl⟩
      have q1 : q < t.size + 1 := by rw [← hq]; exact Nat.mod_lt _ (by omega)
      have e3 : Int.tmod z ((t.size : Int) + 1) = (q : Int) := by
        rw [Int.tmod_eq_emod_of_nonneg z0, ← hq, Int.natCast_emod, Int.toNat_of_nonneg z0]; rfl
      clear hq
      have e4 := i64_and8 (y / 65536)
      obtain ⟨z2, hz2⟩ : ∃ z2, (y / 65536) % 256 = z2 := ⟨_, rfl⟩
      have z20 : 0 ≤ z2 := by omega
      rw [hz2] at e4
      clear hz2
      have e5 : Int.tmod z2 3 = z2 % 3 := Int.tmod_eq_emod_of_nonneg z20
      have e6 : z2 % 3 = 0 ∨ z2 % 3 = 1 ∨ z2 % 3 = 2 := by omega
      have cv := fun (o : Obj) (x : UInt8) (n : Int) (hn : n = (x.toNat : Int)) => conv1 (wr.alloc o) (wr.heap.size + 1) (World.size_alloc ..) x n hn
      have cv1 := cv (.cells #[.int .u8 9, .int .u8 10, .int .u8 13] 5) 9 9 rfl
      have cv2 := cv (.cells #[.int .u8 9, .int .u8 10, .int .u8 13] 5) 10 10 rfl
      have cv3 := cv (.cells #[.int .u8 9, .int .u8 10, .int .u8 13] 5) 13 13 rfl
      clear cv
      have q2 : q ≤ t.size := by omega
      obtain ⟨ta, hta⟩ : ∃ ta, t.extract 0 q = ta := ⟨_, rfl⟩
      obtain ⟨tb, htb⟩ : ∃ tb, t.extract q t.size = tb := ⟨_, rfl⟩
      have s1 : ta.size = q := by rw [← hta, ByteArray.size_extract]; omega
      have s2 : tb.size = t.size - q := by rw [← htb, ByteArray.size_extract]; omega
      have s3 : ta.size ≤ 310 := by omega
      have s4 : tb.size ≤ 310 := by omega
      have S1 := hid s1
      have S2 := hid s2
      have HTA := hid hta
      have HTB := hid htb
      clear s1 s2
      rcases e6 with e6 | e6 | e6
      all_goals
        rw [e6] at e5
        clear e6
      all_goals
        go_upto_region 8 with fail
        go_region
        go_wp2
        go_roundw
        case measure => simp [intOf]; omega
        case rel => exact ⟨k + 1, _, rfl, by go_num, by omega, by omega, by
          simp only [ByteArray.size_append]
          rw [S1.out, S2.out]
          show q + 1 + (t.size - q) ≤ _
          omega, by
          rw [bytes_ins HTA.out HTB.out]
          exact alike_step HAL.out q _ (by decide), (HB.out.trans ((((Below.refl _ wr).alloc (Nat.le_refl _) _).alloc (by simp) _).mono HB.out.size)).drew⟩
    · obtain ⟨W, cap, hcv, hbuf, hbel⟩ := Buf.of_conv (P := Try.prog) wr 9 28 5 t Try.underlying9 Try.underlying28 Try.underlying5
      have HBW := hid (HB.out.trans (hbel.mono HB.out.size))
      have HBU := hid hbuf
      obtain ⟨g, hg⟩ : ∃ g, wr.heap.size = g := ⟨_, rfl⟩
      rw [hg] at hcv HBU
      have hgw : w.heap.size ≤ g := by rw [← hg]; exact HB.out.size
      clear hbuf hbel hg
      have ht2 : t.size ≤ 310 := by omega
      have hcase : (decide (k < l.length) = false ∨ (decide (k < l.length) = true ∧ decide ((k : Int) < 10) = false)) := by
        by_cases h1 : k < l.length
        · right; exact ⟨decide_eq_true h1, decide_eq_false (by omega)⟩
        · left; exact decide_eq_false h1
      clear hlt
      rcases hcase with e1 | ⟨e1, e2⟩
      all_goals
        go_wp2
        go_loopw [12] (fun iv wr => ∃ i : Nat, iv = .int .i64 i ∧ i ≤ t.size ∧ Aside (Buf wr g (gcur great t.data.toList i)) ∧ Aside (Below w.heap.size w wr)) (fun iv _ => t.size - (intOf iv).toNat)
        case atStart => exact ⟨0, rfl, by omega, (show Buf W g (gcur great t.data.toList 0) from by have h := HBU.out; simpa [gcur] using h), HBW.out⟩
        case round =>
          clear hcv HBU HBW HB W
          obtain ⟨i, rfl, hi, hbf, hbl⟩ := hrel
          have HBF := hid hbf.out
          have HBL := hid hbl.out
          clear hbf hbl
          by_cases hlt : i < t.size
          · have hc := byte_at t i hlt
            obtain ⟨ch, hcc⟩ : ∃ ch, t[i] = ch := ⟨_, rfl⟩
            rw [hcc] at hc
            clear hcc
            obtain ⟨hcell, hfr⟩ := HBF.out i ch (by rw [gcur_at _ _ _ (by simpa using hlt)]; exact hc)
            have HCH := hid hc
            clear hc
            have hlt2 : decide (i < t.size) = true := decide_eq_true hlt
            rcases (by cases great; exact .inl rfl; exact .inr rfl : great = false ∨ great = true) with rfl | rfl
            · go_wp2
              go_roundw
              case rel => exact ⟨i + 1, by go_num, by omega, by rw [← gcur_same HCH.out rfl]; exact HBF.out, HBL.out⟩
              case measure => simp [intOf]; omega
            · by_cases hup : 97 ≤ ch.toNat ∧ ch.toNat ≤ 122
              · obtain ⟨u0, u1⟩ := hup
                have GR := hid (gr_in u0 u1)
                go_wp2
                go_roundw
                case rel => exact ⟨i + 1, by go_num, by omega, by
                  have h1 := HBF.out.set_ i (ug true ch)
                  rw [gcur_step HCH.out, show ug true ch = gr ch from rfl, GR.out] at h1
                  exact h1, HBL.out.setCell (p := ⟨g, i, none⟩) hgw _⟩
                case measure => simp [intOf]; omega
              · have GS := hid (gcur_same (g := true) HCH.out (gr_out hup))
                rcases (by omega : ch.toNat < 97 ∨ (97 ≤ ch.toNat ∧ 122 < ch.toNat)) with u0 | ⟨u0, u1⟩
                all_goals
                  clear hup
                  go_wp2
                  go_roundw
                  case rel => exact ⟨i + 1, by go_num, by omega, by rw [← GS.out]; exact HBF.out, HBL.out⟩
                  case measure => simp [intOf]; omega
          · obtain rfl : i = t.size := by omega
            have hlt2 : decide (t.size < t.size) = false := decide_eq_false hlt
            obtain ⟨Y, hY⟩ : ∃ Y : List UInt8, t.data.toList.map (ug great) = Y := ⟨_, rfl⟩
            have HY : Hid (Buf wr g Y) := hid (by rw [← hY, ← gcur_end]; exact HBF.out)
            have hYl : Y.length = t.size := by rw [← hY, List.length_map]; rfl
            have hal : Alike X.data.toList Y := HAL.out.trans (by rw [← hY]; exact alike_ug _ _)
            clear HBF hY HAL
            have hXs := HXs.out
            obtain ⟨x1, hx1⟩ : ∃ x1, (⟨((scheme X.data.toList).getD []).toArray⟩ : ByteArray) = x1 := ⟨_, rfl⟩
            obtain ⟨b1, hb1⟩ : ∃ b1, (scheme X.data.toList).isSome = b1 := ⟨_, rfl⟩
            obtain ⟨b2, hb2⟩ : ∃ b2, script X.data.toList = b2 := ⟨_, rfl⟩
            have k1 : Hid (∀ W, Calls Try.prog 11 #[.string X] W fun e w' => e = .returned (.tuple #[.string x1, .bool b1]) ∧ Below W.heap.size W w') := hid (fun W => by
              have h := scheme_calls X W (by omega)
              rw [hx1, hb1] at h
              exact h)
            have k2 : Hid (∀ W, Calls Try.prog 11 #[.string (⟨#[1, 32]⟩ ++ ⟨Y.toArray⟩ ++ ⟨#[32, 31]⟩)] W fun e w' => e = .returned (.tuple #[.string x1, .bool b1]) ∧ Below W.heap.size W w') := hid (fun W => by
              have e0 : ((⟨#[1, 32]⟩ : ByteArray) ++ ⟨Y.toArray⟩ ++ ⟨#[32, 31]⟩).data.toList = [1, 32] ++ Y ++ [32, 31] := by rw [data_app, data_app]
              have h := scheme_calls (⟨#[1, 32]⟩ ++ ⟨Y.toArray⟩ ++ ⟨#[32, 31]⟩) W (by
                rw [Lib.size_eq, e0, List.length_append, List.length_append, hYl]
                show 2 + t.size + 2 ≤ _
                omega)
              rw [e0, scheme_around, ← hal.scheme, hx1, hb1] at h
              exact h)
            have k3 : Hid (∀ W, Calls Try.prog 18 #[.string X] W fun e w' => e = .returned (.bool b2) ∧ Below W.heap.size W w') := hid (fun W => by
              have h := script_calls X W (by omega)
              rw [hb2] at h
              exact h)
            have k4 : Hid (∀ W, Calls Try.prog 18 #[.string ⟨Y.toArray⟩] W fun e w' => e = .returned (.bool b2) ∧ Below W.heap.size W w') := hid (fun W => by
              have h := script_calls ⟨Y.toArray⟩ W (by
                rw [Lib.size_eq]
                show Y.length ≤ _
                omega)
              rw [show (⟨Y.toArray⟩ : ByteArray).data.toList = Y from rfl, ← script_alike hal, hb2] at h
              exact h)
            have hYs : (⟨Y.toArray⟩ : ByteArray).size = t.size := by rw [Lib.size_eq]; exact hYl
            have HYL := hid hYl
            have HYS : Hid (∀ W, Buf W g Y → (convert 28 9 (.slice (some ⟨g, 0, none⟩) t.size cap)).run Try.prog W = .ok (.string ⟨Y.toArray⟩) W) := hid (fun W h => h.string (P := Try.prog) 28 5 9 t.size cap hYl Try.underlying28 Try.underlying5 Try.underlying9)
            clear hx1 hb1 hb2 hal hYl hXs
            go_wp2_with fail
            refine (k1.out _).mono ?_
            rintro e wa ⟨rfl, hba⟩
            have HA := hid (HS.mk HY.out HBL.out |>.next hba)
            clear hba
            have cva := HYS.out _ HA.out.buf
            obtain ⟨Ys, hYs0⟩ : ∃ Ys : ByteArray, ⟨Y.toArray⟩ = Ys := ⟨_, rfl⟩
            rw [hYs0] at k2 k4 cva hYs HYS
            have hYs1 : Ys.size ≤ 310 := by omega
            have HYZ := hid hYs
            clear hYs
            go_wp2_with fail
            refine (k2.out _).mono ?_
            rintro e wb ⟨rfl, hbb⟩
            have HB2 := hid (HA.out.next hbb)
            have mixed : Try.prog.follows Departure.mixedOrders = true := by kernel_rfl
            clear cva hbb HA HBL HY
            go_upto_region 17 with fail
            refine start_ (n := 20) (S := HS w g Y) (ds := []) (tf 0 20) mixed rfl rfl (HB2.out.next (below_drew (Below.refl _ _))) (fun hHeld => ?_)
            generalize (World.drew _) = wd at hHeld ⊢
            refine pure_ (i := 0) (N := (some 105)) (v := ?_) (a' := ?_) #[true, false, false, false, false, false, false, false, false, false, false, false, false, false, false, false, false, false, false, false] rfl rfl (by kernel_rfl) (fun _ _ _ h => h) (Or.inl ⟨by rfl, ?_⟩) ?_ ?_
            rotate_left
            · intro w'
              go_simp
              first | done | with_reducible rfl | rfl
            rotate_left
            · simp only [Act.put, List.setIfInBounds_toArray, List.set_cons_zero, List.set_cons_succ]
              rfl
            refine pure_ (i := 1) (N := (some 106)) (v := ?_) (a' := ?_) #[true, true, false, false, false, false, false, false, false, false, false, false, false, false, false, false, false, false, false, false] rfl rfl (by kernel_rfl) (fun _ _ _ h => h) (Or.inl ⟨by rfl, ?_⟩) ?_ ?_
            rotate_left
            · intro w'
              go_simp
              first | done | with_reducible rfl | rfl
            rotate_left
            · simp only [Act.put, List.setIfInBounds_toArray, List.set_cons_zero, List.set_cons_succ]
              rfl
            refine pure_ (i := 2) (N := (some 107)) (v := ?_) (a' := ?_) #[true, true, true, false, false, false, false, false, false, false, false, false, false, false, false, false, false, false, false, false] rfl rfl (by kernel_rfl) (fun _ _ _ h => h) (Or.inl ⟨by rfl, ?_⟩) ?_ ?_
            rotate_left
            · intro w'
              go_simp
              first | done | with_reducible rfl | rfl
            rotate_left
            · simp only [Act.put, List.setIfInBounds_toArray, List.set_cons_zero, List.set_cons_succ]
              rfl
            refine pure_ (i := 3) (N := (some 108)) (v := ?_) (a' := ?_) #[true, true, true, true, false, false, false, false, false, false, false, false, false, false, false, false, false, false, false, false] rfl rfl (by kernel_rfl) (fun _ _ _ h => h) (Or.inl ⟨by rfl, ?_⟩) ?_ ?_
            rotate_left
            · intro w'
              go_simp
              first | done | with_reducible rfl | rfl
            rotate_left
            · simp only [Act.put, List.setIfInBounds_toArray, List.set_cons_zero, List.set_cons_succ]
              rfl
            refine pure_ (i := 4) (N := (some 109)) (v := ?_) (a' := ?_) #[true, true, true, true, true, false, false, false, false, false, false, false, false, false, false, false, false, false, false, false] rfl rfl (by kernel_rfl) (fun _ _ _ h => h) (Or.inl ⟨by rfl, ?_⟩) ?_ ?_
            rotate_left
            · intro w'
              go_simp
              first | done | with_reducible rfl | rfl
            rotate_left
            · simp only [Act.put, List.setIfInBounds_toArray, List.set_cons_zero, List.set_cons_succ]
              rfl
            refine pure_ (i := 5) (N := (some 110)) (v := ?_) (a' := ?_) #[true, true, true, true, true, true, false, false, false, false, false, false, false, false, false, false, false, false, false, false] rfl rfl (by kernel_rfl) (fun _ _ _ h => h) (Or.inl ⟨by rfl, ?_⟩) ?_ ?_
            rotate_left
            · intro w'
              go_simp
              first | done | with_reducible rfl | rfl
            rotate_left
            · simp only [Act.put, List.setIfInBounds_toArray, List.set_cons_zero, List.set_cons_succ]
              rfl
            refine pure_ (i := 6) (N := (some 111)) (v := ?_) (a' := ?_) #[true, true, true, true, true, true, true, false, false, false, false, false, false, false, false, false, false, false, false, false] rfl rfl (by kernel_rfl) (fun _ _ _ h => h) (Or.inl ⟨by rfl, ?_⟩) ?_ ?_
            rotate_left
            · intro w'
              go_simp
              first | done | with_reducible rfl | rfl
            rotate_left
            · simp only [Act.put, List.setIfInBounds_toArray, List.set_cons_zero, List.set_cons_succ]
              rfl
            refine pure_ (i := 7) (N := (some 112)) (v := ?_) (a' := ?_) #[true, true, true, true, true, true, true, true, false, false, false, false, false, false, false, false, false, false, false, false] rfl rfl (by kernel_rfl) (fun _ _ _ h => h) (Or.inl ⟨by rfl, ?_⟩) ?_ ?_
            rotate_left
            · intro w'
              go_simp
              first | done | with_reducible rfl | rfl
            rotate_left
            · simp only [Act.put, List.setIfInBounds_toArray, List.set_cons_zero, List.set_cons_succ]
              rfl
            refine pure_ (i := 8) (N := (some 113)) (v := ?_) (a' := ?_) #[true, true, true, true, true, true, true, true, true, false, false, false, false, false, false, false, false, false, false, false] rfl rfl (by kernel_rfl) (fun _ _ _ h => h) (Or.inl ⟨by rfl, ?_⟩) ?_ ?_
            rotate_left
            · intro w'
              go_simp
              first | done | with_reducible rfl | rfl
            rotate_left
            · simp only [Act.put, List.setIfInBounds_toArray, List.set_cons_zero, List.set_cons_succ]
              rfl
            refine pure_ (i := 9) (N := (some 114)) (v := ?_) (a' := ?_) #[true, true, true, true, true, true, true, true, true, true, false, false, false, false, false, false, false, false, false, false] rfl rfl (by kernel_rfl) (fun _ _ _ h => h) (Or.inl ⟨by rfl, ?_⟩) ?_ ?_
            rotate_left
            · intro w'
              go_simp
              first | done | with_reducible rfl | rfl
            rotate_left
            · simp only [Act.put, List.setIfInBounds_toArray, List.set_cons_zero, List.set_cons_succ]
              rfl
            refine pure_ (i := 11) (N := (some 116)) (v := ?_) (a' := ?_) #[true, true, true, true, true, true, true, true, true, true, false, true, false, false, false, false, false, false, false, false] rfl rfl (by kernel_rfl) (fun _ _ _ h => h) (Or.inl ⟨by rfl, ?_⟩) ?_ ?_
            rotate_left
            · intro w'
              go_simp
              first | done | with_reducible rfl | rfl
            rotate_left
            · simp only [Act.put, List.setIfInBounds_toArray, List.set_cons_zero, List.set_cons_succ]
              rfl
            refine take_ (i := 12) (N := (some 117)) (v := ?_) (a' := ?_) #[true, true, true, true, true, true, true, true, true, true, false, true, true, false, false, false, false, false, false, false] rfl rfl (by kernel_rfl) (fun _ _ _ h => h) (Or.inl ⟨by rfl, ?_⟩) hHeld ?_ ?_
            rotate_left
            · rintro w' hS
              have cva := HYS.out w' hS.buf
              go_simp
              first | done | with_reducible rfl | rfl
            rotate_left
            · simp only [Act.put, List.setIfInBounds_toArray, List.set_cons_zero, List.set_cons_succ]
              rfl
            refine one_ (i := 10) (N := (some 115)) #[true, true, true, true, true, true, true, true, true, true, true, true, true, false, false, false, false, false, false, false] rfl rfl (by kernel_rfl) (by decide) (fun K hK => ?_)
            refine goes_ Try.func18 (by kernel_rfl) rfl #[.string X] (by rfl) rfl rfl (by (try simp only [List.map_toArray, List.map_cons, List.map_nil]); first | done | rfl) ?_
            refine (k3.out _).mono ?_
            rintro e w' ⟨rfl, hb⟩
            refine ⟨_, rfl, ?_⟩
            refine hK.out _ _ (hHeld.next hb) (fun hHeld => ?_)
            clear hK K
            refine norm_ (a' := ?_) ?_ ?_
            rotate_left
            · show Act.put _ (some 115) _ = _
              simp only [Act.put, List.setIfInBounds_toArray, List.set_cons_zero, List.set_cons_succ]
              rfl
            refine one_ (i := 13) (N := (some 118)) #[true, true, true, true, true, true, true, true, true, true, true, true, true, true, false, false, false, false, false, false] rfl rfl (by kernel_rfl) (by decide) (fun K hK => ?_)
            refine goes_ Try.func18 (by kernel_rfl) rfl #[.string Ys] (by rfl) rfl rfl (by (try simp only [List.map_toArray, List.map_cons, List.map_nil]); first | done | rfl) ?_
            refine (k4.out _).mono ?_
            rintro e w' ⟨rfl, hb⟩
            refine ⟨_, rfl, ?_⟩
            refine hK.out _ _ (hHeld.next hb) (fun hHeld => ?_)
            clear hK K
            refine norm_ (a' := ?_) ?_ ?_
            rotate_left
            · show Act.put _ (some 118) _ = _
              simp only [Act.put, List.setIfInBounds_toArray, List.set_cons_zero, List.set_cons_succ]
              rfl
            refine pure_ (i := 14) (N := (some 119)) (v := ?_) (a' := ?_) #[true, true, true, true, true, true, true, true, true, true, true, true, true, true, true, false, false, false, false, false] rfl rfl (by kernel_rfl) (fun _ _ _ h => h) (Or.inl ⟨by rfl, ?_⟩) ?_ ?_
            rotate_left
            · intro w'
              go_simp
              first | done | with_reducible rfl | rfl
            rotate_left
            · simp only [Act.put, List.setIfInBounds_toArray, List.set_cons_zero, List.set_cons_succ]
              rfl
            refine pure_ (i := 15) (N := (some 120)) (v := ?_) (a' := ?_) #[true, true, true, true, true, true, true, true, true, true, true, true, true, true, true, true, false, false, false, false] rfl rfl (by kernel_rfl) (fun _ _ _ h => h) (Or.inl ⟨by rfl, ?_⟩) ?_ ?_
            rotate_left
            · intro w'
              go_simp
              first | done | with_reducible rfl | rfl
            rotate_left
            · simp only [Act.put, List.setIfInBounds_toArray, List.set_cons_zero, List.set_cons_succ]
              rfl
            refine pure_ (i := 16) (N := (some 121)) (v := ?_) (a' := ?_) #[true, true, true, true, true, true, true, true, true, true, true, true, true, true, true, true, true, false, false, false] rfl rfl (by kernel_rfl) (fun _ _ _ h => h) (Or.inl ⟨by rfl, ?_⟩) ?_ ?_
            rotate_left
            · intro w'
              go_simp
              first | done | with_reducible rfl | rfl
            rotate_left
            · simp only [Act.put, List.setIfInBounds_toArray, List.set_cons_zero, List.set_cons_succ]
              rfl
            refine one_ (i := 17) (N := (some 122)) #[true, true, true, true, true, true, true, true, true, true, true, true, true, true, true, true, true, true, false, false] rfl rfl (by kernel_rfl) (by decide) (fun K hK => ?_)
            refine goes_ Try.func13 (by kernel_rfl) rfl #[] (by rfl) rfl rfl (by (try simp only [List.map_toArray, List.map_cons, List.map_nil]); first | done | rfl) ?_
            refine (boltinglaw09_fixed.calls true _ fixed_true).mono ?_
            rintro e w' ⟨rfl, hb⟩
            refine ⟨_, rfl, ?_⟩
            refine hK.out _ _ (hHeld.next hb) (fun hHeld => ?_)
            clear hK K
            refine norm_ (a' := ?_) ?_ ?_
            rotate_left
            · show Act.put _ (some 122) _ = _
              simp only [Act.put, List.setIfInBounds_toArray, List.set_cons_zero, List.set_cons_succ]
              rfl
            refine pure_ (i := 18) (N := (some 123)) (v := ?_) (a' := ?_) #[true, true, true, true, true, true, true, true, true, true, true, true, true, true, true, true, true, true, true, false] rfl rfl (by kernel_rfl) (fun _ _ _ h => h) (Or.inl ⟨by rfl, ?_⟩) ?_ ?_
            rotate_left
            · intro w'
              go_simp
              first | done | with_reducible rfl | rfl
            rotate_left
            · simp only [Act.put, List.setIfInBounds_toArray, List.set_cons_zero, List.set_cons_succ]
              rfl
            refine pure_ (i := 19) (N := (some 6)) (v := ?_) (a' := ?_) #[true, true, true, true, true, true, true, true, true, true, true, true, true, true, true, true, true, true, true, true] rfl rfl (by kernel_rfl) (fun _ _ _ h => h) (Or.inl ⟨by rfl, ?_⟩) ?_ ?_
            rotate_left
            · intro w'
              go_simp
              first | done | with_reducible rfl | rfl
            rotate_left
            · simp only [Act.put, List.setIfInBounds_toArray, List.set_cons_zero, List.set_cons_succ]
              rfl
            refine done_ (by kernel_rfl) ?_
            go_wp2
            go_ret
            exact ⟨rfl, hHeld.below⟩
end Go.Proofs.Ythnakndpdfgapaa.Pure
