import Derived.Test.YticacakoefojbaaGreatJCleanReplaces1
import Derived.Test.YticacakoefojbaaGreatJCleanReplaces3
import Derived.Test.YticacakoefojbaaGreatJCleanReplaces2
namespace Go.Proofs.YticacakoefojbaaGreat.Pr
open Go.RowKit Go.Proofs.YticacakoefojbaaGreatW.PrintWords Go.Proofs.YticacakoefojbaaGreatW.PrintLast Go.Proofs.YticacakoefojbaaGreatW.PrintMore
attribute [local go_sem] max2_int min2_int max_two min_two max_three min_three max_four min_four   -- for this text's walks alone
set_option linter.unusedVariables false
set_option linter.unusedSimpArgs false

def boltinglaw13_treeP.f  : Option ((List (S38))) := some (([(⟨0, 0, (⟨#[98]⟩ : ByteArray), (⟨#[]⟩ : ByteArray), (([(⟨(⟨#[111, 110, 99, 108, 105, 99, 107]⟩ : ByteArray), (⟨#[120]⟩ : ByteArray)⟩ : S45), (⟨(⟨#[105, 100]⟩ : ByteArray), (⟨#[]⟩ : ByteArray)⟩ : S45)] : List (S45)))⟩ : S38), (⟨1, 1, (⟨#[]⟩ : ByteArray), (⟨#[97]⟩ : ByteArray), ([] : List (S45))⟩ : S38), (⟨1, 0, (⟨#[115, 99, 114, 105, 112, 116]⟩ : ByteArray), (⟨#[]⟩ : ByteArray), ([] : List (S45))⟩ : S38), (⟨2, 1, (⟨#[]⟩ : ByteArray), (⟨#[121]⟩ : ByteArray), ([] : List (S45))⟩ : S38)] : List (S38)))
set_option maxHeartbeats 8000000 in
set_option maxRecDepth 100000 in
theorem boltinglaw13_treeP.calls  (r : List (S38)) (w : World) (h : boltinglaw13_treeP.f  = some r) :
  Calls Tryz.prog 31 #[] w fun e w' => ∃ v0_ : Value, e = .returned (v0_) ∧ Kd.N k38 38 w' w.heap.size (fun k_ => (w.heap.size ≤ k_)) v0_ r ∧ Below w.heap.size w w' := by
 have hu45 := Tryz.underlying45
 have hu38 := Tryz.underlying38
 have HB := Aside0.mk (Below.refl w.heap.size w)
 have H : (some (([(⟨0, 0, (⟨#[98]⟩ : ByteArray), (⟨#[]⟩ : ByteArray), (([(⟨(⟨#[111, 110, 99, 108, 105, 99, 107]⟩ : ByteArray), (⟨#[120]⟩ : ByteArray)⟩ : S45), (⟨(⟨#[105, 100]⟩ : ByteArray), (⟨#[]⟩ : ByteArray)⟩ : S45)] : List (S45)))⟩ : S38), (⟨1, 1, (⟨#[]⟩ : ByteArray), (⟨#[97]⟩ : ByteArray), ([] : List (S45))⟩ : S38), (⟨1, 0, (⟨#[115, 99, 114, 105, 112, 116]⟩ : ByteArray), (⟨#[]⟩ : ByteArray), ([] : List (S45))⟩ : S38), (⟨2, 1, (⟨#[]⟩ : ByteArray), (⟨#[121]⟩ : ByteArray), ([] : List (S45))⟩ : S38)] : List (S38)))) = some r := h
 clear h
 obtain ⟨y396, hy396⟩ : ∃ y_ : List (S45), y_ = (([(⟨(⟨#[111, 110, 99, 108, 105, 99, 107]⟩ : ByteArray), (⟨#[120]⟩ : ByteArray)⟩ : S45), (⟨(⟨#[105, 100]⟩ : ByteArray), (⟨#[]⟩ : ByteArray)⟩ : S45)] : List (S45))) := ⟨_, rfl⟩
 replace H : (some (([(⟨0, 0, (⟨#[98]⟩ : ByteArray), (⟨#[]⟩ : ByteArray), y396⟩ : S38), (⟨1, 1, (⟨#[]⟩ : ByteArray), (⟨#[97]⟩ : ByteArray), ([] : List (S45))⟩ : S38), (⟨1, 0, (⟨#[115, 99, 114, 105, 112, 116]⟩ : ByteArray), (⟨#[]⟩ : ByteArray), ([] : List (S45))⟩ : S38), (⟨2, 1, (⟨#[]⟩ : ByteArray), (⟨#[121]⟩ : ByteArray), ([] : List (S45))⟩ : S38)] : List (S38)))) = some r := by first | (rw [hy396]; with_reducible exact H) | (have H2_ := (Option.bind_some _ _).symm.trans H; rw [hy396]; with_reducible exact H2_) | (have H2_ := (Option.bind_some _ _).symm.trans H; with_reducible exact H2_) | with_reducible exact H | (rw [hy396]; exact H) | exact H
 have Ny396 := Aside0.mk hy396
 clear hy396
 obtain ⟨y399, hy399⟩ : ∃ y_ : List (S38), y_ = (([(⟨0, 0, (⟨#[98]⟩ : ByteArray), (⟨#[]⟩ : ByteArray), y396⟩ : S38), (⟨1, 1, (⟨#[]⟩ : ByteArray), (⟨#[97]⟩ : ByteArray), ([] : List (S45))⟩ : S38), (⟨1, 0, (⟨#[115, 99, 114, 105, 112, 116]⟩ : ByteArray), (⟨#[]⟩ : ByteArray), ([] : List (S45))⟩ : S38), (⟨2, 1, (⟨#[]⟩ : ByteArray), (⟨#[121]⟩ : ByteArray), ([] : List (S45))⟩ : S38)] : List (S38))) := ⟨_, rfl⟩
 replace H : (some y399) = some r := by first | (rw [hy399]; with_reducible exact H) | (have H2_ := (Option.bind_some _ _).symm.trans H; rw [hy399]; with_reducible exact H2_) | (have H2_ := (Option.bind_some _ _).symm.trans H; with_reducible exact H2_) | with_reducible exact H | (rw [hy399]; exact H) | exact H
 have Ny399 := Aside0.mk hy399
 clear hy399
 obtain rfl := Option.some.inj H
 go_enter Tryz.func31, Tryz.ntmps31
 go_wp2_with (first | ((with_reducible refine gate_dst (N := 3) rfl ?_); refine Kd.R_lit k45 _ 45 ?hg (N := 3) ?hd (xs := ([(⟨(⟨#[111, 110, 99, 108, 105, 99, 107]⟩ : ByteArray), (⟨#[120]⟩ : ByteArray)⟩ : S45), (⟨(⟨#[105, 100]⟩ : ByteArray), (⟨#[]⟩ : ByteArray)⟩ : S45)] : List (S45))) (inner := [.string (⟨#[111, 110, 99, 108, 105, 99, 107]⟩ : ByteArray), .string (⟨#[120]⟩ : ByteArray), .string (⟨#[105, 100]⟩ : ByteArray), .string (⟨#[]⟩ : ByteArray)]) (ok := fun _ => True) (okp := fun _ => True) ?hr ?hp (fun _ hk => hk) trivial (Below.refl _ _) (Nat.le_refl _) (by simp) ?_; (case hd => rfl); (case hg => rfl); (case hr => first | (go_simp; done) | (go_simp; rfl)); (case hp => exact (Reps.c2 (show Kd.M k45 _ _ _ (⟨(⟨#[111, 110, 99, 108, 105, 99, 107]⟩ : ByteArray), (⟨#[120]⟩ : ByteArray)⟩ : S45) [.string (⟨#[111, 110, 99, 108, 105, 99, 107]⟩ : ByteArray), .string (⟨#[120]⟩ : ByteArray)] from (k45_mkM _ _ _ (⟨(⟨#[111, 110, 99, 108, 105, 99, 107]⟩ : ByteArray), (⟨#[120]⟩ : ByteArray)⟩ : S45) )) (Reps.c2 (show Kd.M k45 _ _ _ (⟨(⟨#[105, 100]⟩ : ByteArray), (⟨#[]⟩ : ByteArray)⟩ : S45) [.string (⟨#[105, 100]⟩ : ByteArray), .string (⟨#[]⟩ : ByteArray)] from (k45_mkM _ _ _ (⟨(⟨#[105, 100]⟩ : ByteArray), (⟨#[]⟩ : ByteArray)⟩ : S45) )) (Reps.none _ _)))); intro v397 w1 ho2 hb hg_ hnew_; clear hg_ hnew_; (first | rw [← Ny396.out] at ho2 | (simp only [Int.reduceToNat] at ho2; rw [← Ny396.out] at ho2)); have n0_ := Aside0.mk (Kd.R_lower (Kd.R_newM (M := fun k_ => (w.heap.size ≤ k_)) ho2 (below_size (zb HB)) (fun k_ h_ => h_)) (below_size (zb HB))); have n1_ := Aside0.mk (below_step (zb HB) hb); clear HB; have HO398 := n0_; have HB := n1_; clear n0_ n1_; clear hb ho2; obtain ⟨Ao3, co3, eo3⟩ := Kd.R_slice HO398.out; subst eo3) | ((with_reducible refine gate_dst (N := 8) rfl ?_); refine Kd.N_lit k38 _ 38 ?hg (N' := 8) ?hd (xs := ([(⟨0, 0, (⟨#[98]⟩ : ByteArray), (⟨#[]⟩ : ByteArray), y396⟩ : S38), (⟨1, 1, (⟨#[]⟩ : ByteArray), (⟨#[97]⟩ : ByteArray), ([] : List (S45))⟩ : S38), (⟨1, 0, (⟨#[115, 99, 114, 105, 112, 116]⟩ : ByteArray), (⟨#[]⟩ : ByteArray), ([] : List (S45))⟩ : S38), (⟨2, 1, (⟨#[]⟩ : ByteArray), (⟨#[121]⟩ : ByteArray), ([] : List (S45))⟩ : S38)] : List (S38))) (inner := [.int .i64 0, .int .i64 0, .string (⟨#[98]⟩ : ByteArray), .string (⟨#[]⟩ : ByteArray), .slice Ao3 y396.length co3, .int .i64 1, .int .i64 1, .string (⟨#[]⟩ : ByteArray), .string (⟨#[97]⟩ : ByteArray), .slice none 0 0, .int .i64 1, .int .i64 0, .string (⟨#[115, 99, 114, 105, 112, 116]⟩ : ByteArray), .string (⟨#[]⟩ : ByteArray), .slice none 0 0, .int .i64 2, .int .i64 1, .string (⟨#[]⟩ : ByteArray), .string (⟨#[121]⟩ : ByteArray), .slice none 0 0]) (ok := (fun k_ => (w.heap.size ≤ k_))) (okp := (fun k_ => (w.heap.size ≤ k_))) ?hr ?hp (fun _ hk => hk) ((show ∀ k_, w1.heap.size ≤ k_ → (fun k_ => (w.heap.size ≤ k_)) k_ from fun k_ hk => (Nat.le_trans (below_size (zb HB)) hk)) _ (Nat.le_refl _)) (Below.refl _ _) (Nat.le_refl _) (by simp) ?_; (case hd => rfl); (case hg => rfl); (case hr => first | (go_simp; done) | (go_simp; rfl)); (case hp => exact (Reps.c5 (show Kd.FK k38 _ _ (⟨0, 0, (⟨#[98]⟩ : ByteArray), (⟨#[]⟩ : ByteArray), y396⟩ : S38) [.int .i64 0, .int .i64 0, .string (⟨#[98]⟩ : ByteArray), .string (⟨#[]⟩ : ByteArray), .slice Ao3 y396.length co3] from (k38_mkF _ _ (⟨0, 0, (⟨#[98]⟩ : ByteArray), (⟨#[]⟩ : ByteArray), y396⟩ : S38) (Kd.R_reads' (Kd.R_mono (ok' := (fun k_ => (w.heap.size ≤ k_))) (HO398.out) (fun k_ hk => hk.1))).2.1 (Kd.R_F (Kd.R_mono (ok' := (fun k_ => (w.heap.size ≤ k_))) (HO398.out) (fun k_ hk => hk.1))))) (Reps.c5 (show Kd.FK k38 _ _ (⟨1, 1, (⟨#[]⟩ : ByteArray), (⟨#[97]⟩ : ByteArray), ([] : List (S45))⟩ : S38) [.int .i64 1, .int .i64 1, .string (⟨#[]⟩ : ByteArray), .string (⟨#[97]⟩ : ByteArray), .slice none 0 0] from (k38_mkF _ _ (⟨1, 1, (⟨#[]⟩ : ByteArray), (⟨#[97]⟩ : ByteArray), ([] : List (S45))⟩ : S38) (Nat.le_refl _) (Kd.F_nil _ _ _))) (Reps.c5 (show Kd.FK k38 _ _ (⟨1, 0, (⟨#[115, 99, 114, 105, 112, 116]⟩ : ByteArray), (⟨#[]⟩ : ByteArray), ([] : List (S45))⟩ : S38) [.int .i64 1, .int .i64 0, .string (⟨#[115, 99, 114, 105, 112, 116]⟩ : ByteArray), .string (⟨#[]⟩ : ByteArray), .slice none 0 0] from (k38_mkF _ _ (⟨1, 0, (⟨#[115, 99, 114, 105, 112, 116]⟩ : ByteArray), (⟨#[]⟩ : ByteArray), ([] : List (S45))⟩ : S38) (Nat.le_refl _) (Kd.F_nil _ _ _))) (Reps.c5 (show Kd.FK k38 _ _ (⟨2, 1, (⟨#[]⟩ : ByteArray), (⟨#[121]⟩ : ByteArray), ([] : List (S45))⟩ : S38) [.int .i64 2, .int .i64 1, .string (⟨#[]⟩ : ByteArray), .string (⟨#[121]⟩ : ByteArray), .slice none 0 0] from (k38_mkF _ _ (⟨2, 1, (⟨#[]⟩ : ByteArray), (⟨#[121]⟩ : ByteArray), ([] : List (S45))⟩ : S38) (Nat.le_refl _) (Kd.F_nil _ _ _))) (Reps.none _ _)))))); intro v400 w4 ho5 hb hg_ hnew_; clear hg_ hnew_; (first | rw [← Ny399.out] at ho5 | (simp only [Int.reduceToNat] at ho5; rw [← Ny399.out] at ho5)); have n0_ := Aside0.mk (Kd.N_lower ho5 (below_size (zb HB))); have n1_ := Aside0.mk (below_step (zb HB) hb); clear HB; clear HO398; have HO401 := n0_; have HB := n1_; clear n0_ n1_; clear hb ho5))
 go_ret
 exact ⟨_, ze, by exact HO401.out, zb HB⟩

def boltinglaw13_fixedP.f (k : Nat)  : Option (Bool) := (boltinglaw13_treeP.f).bind fun t402 => ((config_All.f).bind fun bt405 => ((clean_Rows.f k t402 bt405.1 bt405.2.1 bt405.2.2.1 bt405.2.2.2.1 bt405.2.2.2.2.1 bt405.2.2.2.2.2.1 bt405.2.2.2.2.2.2.1 bt405.2.2.2.2.2.2.2 true).bind fun bt421 => ((boltinglaw13_treeP.f).bind fun t425 => ((clean_Rows.f k t425 false false ([] : List ByteArray) (([(⟨#[98]⟩ : ByteArray)] : List ByteArray)) ([] : List ByteArray) ([] : List (S60)) false false true).bind fun bt431 => ((boltinglaw13_treeP.f).bind fun t435 => ((config_All.f).bind fun bt438 => ((clean_Rows.f k t435 bt438.1 bt438.2.1 bt438.2.2.1 bt438.2.2.2.1 bt438.2.2.2.2.1 bt438.2.2.2.2.2.1 bt438.2.2.2.2.2.2.1 bt438.2.2.2.2.2.2.2 false).bind fun bt454 => ((boltinglaw13_treeP.f).bind fun t458 => ((clean_Rows.f k t458 false false ([] : List ByteArray) ([] : List ByteArray) ([] : List ByteArray) ([] : List (S60)) false true true).bind fun bt461 => ((boltinglaw13_treeP.f).bind fun t465 => (if 1 ≤ (t465.length : Int) then ((config_All.f).bind fun bt473 => ((clean_Rows.f k (t465.drop 1) bt473.1 bt473.2.1 bt473.2.2.1 bt473.2.2.2.1 bt473.2.2.2.2.1 bt473.2.2.2.2.2.1 bt473.2.2.2.2.2.2.1 bt473.2.2.2.2.2.2.2 true).bind fun bt489 => ((boltingref04_Same.f k bt421.1 (([(⟨0, 0, (⟨#[98]⟩ : ByteArray), (⟨#[]⟩ : ByteArray), (([(⟨(⟨#[105, 100]⟩ : ByteArray), (⟨#[]⟩ : ByteArray)⟩ : S45)] : List (S45)))⟩ : S38), (⟨1, 1, (⟨#[]⟩ : ByteArray), (⟨#[97]⟩ : ByteArray), ([] : List (S45))⟩ : S38)] : List (S38)))).bind fun t499 => (if t499 = true then (if bt421.2 = 0 then ((boltingref04_Same.f k bt431.1 (([(⟨0, 1, (⟨#[]⟩ : ByteArray), (⟨#[97]⟩ : ByteArray), ([] : List (S45))⟩ : S38)] : List (S38)))).bind fun t503 => (if t503 = true then (if bt431.2 = 0 then ((boltinglaw13_treeP.f).bind fun t504 => ((boltingref04_Same.f k bt454.1 t504).bind fun t507 => (if t507 = true then (if bt454.2 = 0 then (if bt461.2 = 120 then (some (bt489.2 == 40)) else (some false)) else (some false)) else (some false)))) else (some false)) else (some false))) else (some false)) else (some false))))) else (none))))))))))))
theorem boltinglaw13_fixedP.mono : ∀ k, LeO (boltinglaw13_fixedP.f k ) (boltinglaw13_fixedP.f (k + 1) ) := by
 intro  k
 unfold boltinglaw13_fixedP.f
 repeat' first
   | (with_reducible exact boltingref04_Same.mono _ _ _)
   | (with_reducible exact clean_Rows.mono _ _ _ _ _ _ _ _ _ _ _)
   | (with_reducible exact LeO.refl _)
   | (with_reducible exact LeO.none _)
   | (with_reducible refine LeO.ite ?_ ?_)
   | (with_reducible refine LeO.bind ?_ (fun _ => ?_))
   | exact boltingref04_Same.mono _ _ _
   | exact clean_Rows.mono _ _ _ _ _ _ _ _ _ _ _
   | exact LeO.none _
   | refine LeO.ite ?_ ?_
   | refine LeO.bind ?_ (fun _ => ?_)
def boltinglaw13_fixedP.T5 : Bool × List (List Nat × List Nat) := (true, [([], []), ([0], [0]), ([0], []), ([1, 2, 2], [1, 2]), ([3], [3]), ([4], [4]), ([4], [4]), ([5, 3, 0, 1, 2, 3, 4, 5], [5]), ([6, 7, 0, 1, 2, 3, 4, 5, 6, 7], [6])])
def boltinglaw13_fixedP.B5 : List Nat := [0, 1, 1, 7, 15, 31, 31, 63, 255]
theorem boltinglaw13_fixedP.tab5 : rtab .any (opsOf Tryz.f12 5) = boltinglaw13_fixedP.T5 := by kernel_rfl
theorem boltinglaw13_fixedP.bits5 : waitsOk boltinglaw13_fixedP.T5.2 boltinglaw13_fixedP.B5 = true := by kernel_rfl
set_option maxHeartbeats 8000000 in
set_option maxRecDepth 100000 in
theorem boltinglaw13_fixedP.calls_true (k : Nat)  (r : Bool) (w : World) (h : boltinglaw13_fixedP.f k  = some r) (hT : Aside0 (r = true)) :
  Calls Tryz.prog 12 #[] w fun e w' => e = .returned (.bool r) ∧ Below w.heap.size w w' := by
 have hu32 := Tryz.underlying32
 have hu45 := Tryz.underlying45
 have hu38 := Tryz.underlying38
 have HB := Aside0.mk (Below.refl w.heap.size w)
 have H : ((boltinglaw13_treeP.f).bind fun t402 => ((config_All.f).bind fun bt405 => ((clean_Rows.f k t402 bt405.1 bt405.2.1 bt405.2.2.1 bt405.2.2.2.1 bt405.2.2.2.2.1 bt405.2.2.2.2.2.1 bt405.2.2.2.2.2.2.1 bt405.2.2.2.2.2.2.2 true).bind fun bt421 => ((boltinglaw13_treeP.f).bind fun t425 => ((clean_Rows.f k t425 false false ([] : List ByteArray) (([(⟨#[98]⟩ : ByteArray)] : List ByteArray)) ([] : List ByteArray) ([] : List (S60)) false false true).bind fun bt431 => ((boltinglaw13_treeP.f).bind fun t435 => ((config_All.f).bind fun bt438 => ((clean_Rows.f k t435 bt438.1 bt438.2.1 bt438.2.2.1 bt438.2.2.2.1 bt438.2.2.2.2.1 bt438.2.2.2.2.2.1 bt438.2.2.2.2.2.2.1 bt438.2.2.2.2.2.2.2 false).bind fun bt454 => ((boltinglaw13_treeP.f).bind fun t458 => ((clean_Rows.f k t458 false false ([] : List ByteArray) ([] : List ByteArray) ([] : List ByteArray) ([] : List (S60)) false true true).bind fun bt461 => ((boltinglaw13_treeP.f).bind fun t465 => (if 1 ≤ (t465.length : Int) then ((config_All.f).bind fun bt473 => ((clean_Rows.f k (t465.drop 1) bt473.1 bt473.2.1 bt473.2.2.1 bt473.2.2.2.1 bt473.2.2.2.2.1 bt473.2.2.2.2.2.1 bt473.2.2.2.2.2.2.1 bt473.2.2.2.2.2.2.2 true).bind fun bt489 => ((boltingref04_Same.f k bt421.1 (([(⟨0, 0, (⟨#[98]⟩ : ByteArray), (⟨#[]⟩ : ByteArray), (([(⟨(⟨#[105, 100]⟩ : ByteArray), (⟨#[]⟩ : ByteArray)⟩ : S45)] : List (S45)))⟩ : S38), (⟨1, 1, (⟨#[]⟩ : ByteArray), (⟨#[97]⟩ : ByteArray), ([] : List (S45))⟩ : S38)] : List (S38)))).bind fun t499 => (if t499 = true then (if bt421.2 = 0 then ((boltingref04_Same.f k bt431.1 (([(⟨0, 1, (⟨#[]⟩ : ByteArray), (⟨#[97]⟩ : ByteArray), ([] : List (S45))⟩ : S38)] : List (S38)))).bind fun t503 => (if t503 = true then (if bt431.2 = 0 then ((boltinglaw13_treeP.f).bind fun t504 => ((boltingref04_Same.f k bt454.1 t504).bind fun t507 => (if t507 = true then (if bt454.2 = 0 then (if bt461.2 = 120 then (some (bt489.2 == 40)) else (some false)) else (some false)) else (some false)))) else (some false)) else (some false))) else (some false)) else (some false))))) else (none))))))))))))) = some r := h
 clear h
 replace H := Option.bind_eq_some_iff.mp H
 obtain ⟨t402, A10, H⟩ := H
 have A1 := Aside0.mk A10
 clear A10
 replace H := Option.bind_eq_some_iff.mp H
 obtain ⟨⟨t405, t406, t407, t410, t413, t416, t419, t420⟩, A20, H⟩ := H
 try dsimp only at H
 have A2 := Aside0.mk A20
 clear A20
 replace H := Option.bind_eq_some_iff.mp H
 obtain ⟨⟨t421, t424⟩, A30, H⟩ := H
 try dsimp only at H
 have A3 := Aside0.mk A30
 clear A30
 replace H := Option.bind_eq_some_iff.mp H
 obtain ⟨t425, A40, H⟩ := H
 have A4 := Aside0.mk A40
 clear A40
 obtain ⟨y428, hy428⟩ : ∃ y_ : List ByteArray, y_ = (([(⟨#[98]⟩ : ByteArray)] : List ByteArray)) := ⟨_, rfl⟩
 replace H : ((clean_Rows.f k t425 false false ([] : List ByteArray) y428 ([] : List ByteArray) ([] : List (S60)) false false true).bind fun bt431 => ((boltinglaw13_treeP.f).bind fun t435 => ((config_All.f).bind fun bt438 => ((clean_Rows.f k t435 bt438.1 bt438.2.1 bt438.2.2.1 bt438.2.2.2.1 bt438.2.2.2.2.1 bt438.2.2.2.2.2.1 bt438.2.2.2.2.2.2.1 bt438.2.2.2.2.2.2.2 false).bind fun bt454 => ((boltinglaw13_treeP.f).bind fun t458 => ((clean_Rows.f k t458 false false ([] : List ByteArray) ([] : List ByteArray) ([] : List ByteArray) ([] : List (S60)) false true true).bind fun bt461 => ((boltinglaw13_treeP.f).bind fun t465 => (if 1 ≤ (t465.length : Int) then ((config_All.f).bind fun bt473 => ((clean_Rows.f k (t465.drop 1) bt473.1 bt473.2.1 bt473.2.2.1 bt473.2.2.2.1 bt473.2.2.2.2.1 bt473.2.2.2.2.2.1 bt473.2.2.2.2.2.2.1 bt473.2.2.2.2.2.2.2 true).bind fun bt489 => ((boltingref04_Same.f k t421 (([(⟨0, 0, (⟨#[98]⟩ : ByteArray), (⟨#[]⟩ : ByteArray), (([(⟨(⟨#[105, 100]⟩ : ByteArray), (⟨#[]⟩ : ByteArray)⟩ : S45)] : List (S45)))⟩ : S38), (⟨1, 1, (⟨#[]⟩ : ByteArray), (⟨#[97]⟩ : ByteArray), ([] : List (S45))⟩ : S38)] : List (S38)))).bind fun t499 => (if t499 = true then (if t424 = 0 then ((boltingref04_Same.f k bt431.1 (([(⟨0, 1, (⟨#[]⟩ : ByteArray), (⟨#[97]⟩ : ByteArray), ([] : List (S45))⟩ : S38)] : List (S38)))).bind fun t503 => (if t503 = true then (if bt431.2 = 0 then ((boltinglaw13_treeP.f).bind fun t504 => ((boltingref04_Same.f k bt454.1 t504).bind fun t507 => (if t507 = true then (if bt454.2 = 0 then (if bt461.2 = 120 then (some (bt489.2 == 40)) else (some false)) else (some false)) else (some false)))) else (some false)) else (some false))) else (some false)) else (some false))))) else (none))))))))) = some r := by first | (rw [hy428]; with_reducible exact H) | (have H2_ := (Option.bind_some _ _).symm.trans H; rw [hy428]; with_reducible exact H2_) | (have H2_ := (Option.bind_some _ _).symm.trans H; with_reducible exact H2_) | with_reducible exact H | (rw [hy428]; exact H) | exact H
 have Ny428 := Aside0.mk hy428
 clear hy428
 replace H := Option.bind_eq_some_iff.mp H
 obtain ⟨⟨t431, t434⟩, A50, H⟩ := H
 try dsimp only at H
 have A5 := Aside0.mk A50
 clear A50
 replace H := Option.bind_eq_some_iff.mp H
 obtain ⟨t435, A60, H⟩ := H
 have A6 := Aside0.mk A60
 clear A60
 replace H := Option.bind_eq_some_iff.mp H
 obtain ⟨⟨t438, t439, t440, t443, t446, t449, t452, t453⟩, A70, H⟩ := H
 try dsimp only at H
 have A7 := Aside0.mk A70
 clear A70
 replace H := Option.bind_eq_some_iff.mp H
 obtain ⟨⟨t454, t457⟩, A80, H⟩ := H
 try dsimp only at H
 have A8 := Aside0.mk A80
 clear A80
 replace H := Option.bind_eq_some_iff.mp H
 obtain ⟨t458, A90, H⟩ := H
 have A9 := Aside0.mk A90
 clear A90
 replace H := Option.bind_eq_some_iff.mp H
 obtain ⟨⟨t461, t464⟩, A100, H⟩ := H
 try dsimp only at H
 have A10 := Aside0.mk A100
 clear A100
 replace H := Option.bind_eq_some_iff.mp H
 obtain ⟨t465, A110, H⟩ := H
 have A11 := Aside0.mk A110
 clear A110
 by_cases c12 : 1 ≤ (t465.length : Int)
 ·rw [if_pos c12] at H
  have c12b0 := eq_true c12
  have c12b1 : decide (1 ≤ (t465.length : Int)) = true := decide_eq_true c12
  clear c12
  obtain ⟨y468, hy468⟩ : ∃ y_ : List (S38), y_ = (t465.drop 1) := ⟨_, rfl⟩
  replace H : ((config_All.f).bind fun bt473 => ((clean_Rows.f k y468 bt473.1 bt473.2.1 bt473.2.2.1 bt473.2.2.2.1 bt473.2.2.2.2.1 bt473.2.2.2.2.2.1 bt473.2.2.2.2.2.2.1 bt473.2.2.2.2.2.2.2 true).bind fun bt489 => ((boltingref04_Same.f k t421 (([(⟨0, 0, (⟨#[98]⟩ : ByteArray), (⟨#[]⟩ : ByteArray), (([(⟨(⟨#[105, 100]⟩ : ByteArray), (⟨#[]⟩ : ByteArray)⟩ : S45)] : List (S45)))⟩ : S38), (⟨1, 1, (⟨#[]⟩ : ByteArray), (⟨#[97]⟩ : ByteArray), ([] : List (S45))⟩ : S38)] : List (S38)))).bind fun t499 => (if t499 = true then (if t424 = 0 then ((boltingref04_Same.f k t431 (([(⟨0, 1, (⟨#[]⟩ : ByteArray), (⟨#[97]⟩ : ByteArray), ([] : List (S45))⟩ : S38)] : List (S38)))).bind fun t503 => (if t503 = true then (if t434 = 0 then ((boltinglaw13_treeP.f).bind fun t504 => ((boltingref04_Same.f k t454 t504).bind fun t507 => (if t507 = true then (if t457 = 0 then (if t464 = 120 then (some (bt489.2 == 40)) else (some false)) else (some false)) else (some false)))) else (some false)) else (some false))) else (some false)) else (some false))))) = some r := by first | (rw [hy468]; with_reducible exact H) | (have H2_ := (Option.bind_some _ _).symm.trans H; rw [hy468]; with_reducible exact H2_) | (have H2_ := (Option.bind_some _ _).symm.trans H; with_reducible exact H2_) | with_reducible exact H | (rw [hy468]; exact H) | exact H
  have Ny468 := Aside0.mk hy468
  clear hy468
  replace H := Option.bind_eq_some_iff.mp H
  obtain ⟨⟨t473, t474, t475, t478, t481, t484, t487, t488⟩, A130, H⟩ := H
  try dsimp only at H
  have A13 := Aside0.mk A130
  clear A130
  replace H := Option.bind_eq_some_iff.mp H
  obtain ⟨⟨t489, t492⟩, A140, H⟩ := H
  try dsimp only at H
  have A14 := Aside0.mk A140
  clear A140
  obtain ⟨y493, hy493⟩ : ∃ y_ : List (S45), y_ = (([(⟨(⟨#[105, 100]⟩ : ByteArray), (⟨#[]⟩ : ByteArray)⟩ : S45)] : List (S45))) := ⟨_, rfl⟩
  replace H : ((boltingref04_Same.f k t421 (([(⟨0, 0, (⟨#[98]⟩ : ByteArray), (⟨#[]⟩ : ByteArray), y493⟩ : S38), (⟨1, 1, (⟨#[]⟩ : ByteArray), (⟨#[97]⟩ : ByteArray), ([] : List (S45))⟩ : S38)] : List (S38)))).bind fun t499 => (if t499 = true then (if t424 = 0 then ((boltingref04_Same.f k t431 (([(⟨0, 1, (⟨#[]⟩ : ByteArray), (⟨#[97]⟩ : ByteArray), ([] : List (S45))⟩ : S38)] : List (S38)))).bind fun t503 => (if t503 = true then (if t434 = 0 then ((boltinglaw13_treeP.f).bind fun t504 => ((boltingref04_Same.f k t454 t504).bind fun t507 => (if t507 = true then (if t457 = 0 then (if t464 = 120 then (some (t492 == 40)) else (some false)) else (some false)) else (some false)))) else (some false)) else (some false))) else (some false)) else (some false))) = some r := by first | (rw [hy493]; with_reducible exact H) | (have H2_ := (Option.bind_some _ _).symm.trans H; rw [hy493]; with_reducible exact H2_) | (have H2_ := (Option.bind_some _ _).symm.trans H; with_reducible exact H2_) | with_reducible exact H | (rw [hy493]; exact H) | exact H
  have Ny493 := Aside0.mk hy493
  clear hy493
  obtain ⟨y496, hy496⟩ : ∃ y_ : List (S38), y_ = (([(⟨0, 0, (⟨#[98]⟩ : ByteArray), (⟨#[]⟩ : ByteArray), y493⟩ : S38), (⟨1, 1, (⟨#[]⟩ : ByteArray), (⟨#[97]⟩ : ByteArray), ([] : List (S45))⟩ : S38)] : List (S38))) := ⟨_, rfl⟩
  replace H : ((boltingref04_Same.f k t421 y496).bind fun t499 => (if t499 = true then (if t424 = 0 then ((boltingref04_Same.f k t431 (([(⟨0, 1, (⟨#[]⟩ : ByteArray), (⟨#[97]⟩ : ByteArray), ([] : List (S45))⟩ : S38)] : List (S38)))).bind fun t503 => (if t503 = true then (if t434 = 0 then ((boltinglaw13_treeP.f).bind fun t504 => ((boltingref04_Same.f k t454 t504).bind fun t507 => (if t507 = true then (if t457 = 0 then (if t464 = 120 then (some (t492 == 40)) else (some false)) else (some false)) else (some false)))) else (some false)) else (some false))) else (some false)) else (some false))) = some r := by first | (rw [hy496]; with_reducible exact H) | (have H2_ := (Option.bind_some _ _).symm.trans H; rw [hy496]; with_reducible exact H2_) | (have H2_ := (Option.bind_some _ _).symm.trans H; with_reducible exact H2_) | with_reducible exact H | (rw [hy496]; exact H) | exact H
  have Ny496 := Aside0.mk hy496
  clear hy496
  replace H := Option.bind_eq_some_iff.mp H
  obtain ⟨t499, A150, H⟩ := H
  have A15 := Aside0.mk A150
  clear A150
  by_cases c16 : t499 = true
  ·subst c16
   replace H : (if t424 = 0 then ((boltingref04_Same.f k t431 (([(⟨0, 1, (⟨#[]⟩ : ByteArray), (⟨#[97]⟩ : ByteArray), ([] : List (S45))⟩ : S38)] : List (S38)))).bind fun t503 => (if t503 = true then (if t434 = 0 then ((boltinglaw13_treeP.f).bind fun t504 => ((boltingref04_Same.f k t454 t504).bind fun t507 => (if t507 = true then (if t457 = 0 then (if t464 = 120 then (some (t492 == 40)) else (some false)) else (some false)) else (some false)))) else (some false)) else (some false))) else (some false)) = some r := by rw [if_pos rfl] at H; exact H
   by_cases c17 : t424 = 0
   ·rw [if_pos c17] at H
    have c17b0 : (t424 == 0) = true := beq_iff_eq.mpr c17
    have c17b1 : (t424 != 0) = false := bne_eq_false_iff_eq.mpr c17
    clear c17
    obtain ⟨y500, hy500⟩ : ∃ y_ : List (S38), y_ = (([(⟨0, 1, (⟨#[]⟩ : ByteArray), (⟨#[97]⟩ : ByteArray), ([] : List (S45))⟩ : S38)] : List (S38))) := ⟨_, rfl⟩
    replace H : ((boltingref04_Same.f k t431 y500).bind fun t503 => (if t503 = true then (if t434 = 0 then ((boltinglaw13_treeP.f).bind fun t504 => ((boltingref04_Same.f k t454 t504).bind fun t507 => (if t507 = true then (if t457 = 0 then (if t464 = 120 then (some (t492 == 40)) else (some false)) else (some false)) else (some false)))) else (some false)) else (some false))) = some r := by first | (rw [hy500]; with_reducible exact H) | (have H2_ := (Option.bind_some _ _).symm.trans H; rw [hy500]; with_reducible exact H2_) | (have H2_ := (Option.bind_some _ _).symm.trans H; with_reducible exact H2_) | with_reducible exact H | (rw [hy500]; exact H) | exact H
    have Ny500 := Aside0.mk hy500
    clear hy500
    replace H := Option.bind_eq_some_iff.mp H
    obtain ⟨t503, A180, H⟩ := H
    have A18 := Aside0.mk A180
    clear A180
    by_cases c19 : t503 = true
    ·subst c19
     replace H : (if t434 = 0 then ((boltinglaw13_treeP.f).bind fun t504 => ((boltingref04_Same.f k t454 t504).bind fun t507 => (if t507 = true then (if t457 = 0 then (if t464 = 120 then (some (t492 == 40)) else (some false)) else (some false)) else (some false)))) else (some false)) = some r := by rw [if_pos rfl] at H; exact H
     by_cases c20 : t434 = 0
     ·rw [if_pos c20] at H
      have c20b0 : (t434 == 0) = true := beq_iff_eq.mpr c20
      have c20b1 : (t434 != 0) = false := bne_eq_false_iff_eq.mpr c20
      clear c20
      replace H := Option.bind_eq_some_iff.mp H
      obtain ⟨t504, A210, H⟩ := H
      have A21 := Aside0.mk A210
      clear A210
      replace H := Option.bind_eq_some_iff.mp H
      obtain ⟨t507, A220, H⟩ := H
      have A22 := Aside0.mk A220
      clear A220
      by_cases c23 : t507 = true
      ·subst c23
       replace H : (if t457 = 0 then (if t464 = 120 then (some (t492 == 40)) else (some false)) else (some false)) = some r := by rw [if_pos rfl] at H; exact H
       by_cases c24 : t457 = 0
       ·rw [if_pos c24] at H
        have c24b0 : (t457 == 0) = true := beq_iff_eq.mpr c24
        have c24b1 : (t457 != 0) = false := bne_eq_false_iff_eq.mpr c24
        clear c24
        by_cases c25 : t464 = 120
        ·rw [if_pos c25] at H
         have c25b0 : (t464 == 120) = true := beq_iff_eq.mpr c25
         have c25b1 : (t464 != 120) = false := bne_eq_false_iff_eq.mpr c25
         clear c25
         obtain rfl := Option.some.inj H
         go_enter Tryz.func12, Tryz.ntmps12
         try go_wp2_with (first | ((with_reducible refine gate_callee (f := 31) rfl ?_); refine goesL_ (some 12) rfl rfl Tryz.func31 (by kernel_rfl) rfl #[] rfl zm ?_; (with_reducible refine (boltinglaw13_treeP.calls  t402 _ A1.out).mono ?_); rintro e w26 ⟨v403, rfl, ho0, hb⟩; refine ⟨_, rfl, ?_⟩; have n0_ := Aside0.mk (Kd.N_lower (Kd.N_mono (ok' := fun _ => True) ho0 (fun _ _ => trivial)) (below_size (zb HB))); have n1_ := Aside0.mk (below_step (zb HB) hb); clear HB; have HO404 := n0_; have HB := n1_; clear n0_ n1_; (try clear hb); (try clear ho0)) | ((with_reducible refine gate_callee (f := 15) rfl ?_); refine goesL_ (some 13) rfl rfl Tryz.func15 (by kernel_rfl) rfl #[] rfl zm ?_; (with_reducible refine (config_All.calls  t405 t406 t407 t410 t413 t416 t419 t420 _ A2.out).mono ?_); rintro e w27 ⟨v408, v411, v414, v417, rfl, ho0, ho1, ho2, ho3, hb⟩; refine ⟨_, rfl, ?_⟩; have n0_ := Aside0.mk (Kd.N_mono (Kd.N_told (Kd.N_told (Kd.N_told (Kd.N_told (Kd.N_old (by exact HO404.out) hb) (Kd.R_base ho0)) (Kd.R_base ho1)) (Kd.R_base ho2)) (zn ho3)) (fun _ h_ => h_.1)); have n1_ := Aside0.mk (Kd.R_lower ho0 (below_size (zb HB))); have n2_ := Aside0.mk (Kd.R_lower ho1 (below_size (zb HB))); have n3_ := Aside0.mk (Kd.R_lower ho2 (below_size (zb HB))); have n4_ := Aside0.mk (Kd.N_lower (Kd.N_mono (ok' := fun _ => True) (Kd.S_N (Kd.S_bound ho3)) (fun _ _ => trivial)) (below_size (zb HB))); have n5_ := Aside0.mk (below_step (zb HB) hb); clear HO404; clear HB; have HO404 := n0_; have HO409 := n1_; have HO412 := n2_; have HO415 := n3_; have HO418 := n4_; have HB := n5_; clear n0_ n1_ n2_ n3_ n4_ n5_; (try clear hb); (try clear ho0); (try clear ho1); (try clear ho2); (try clear ho3); obtain ⟨Ao28, co28, eo28⟩ := Kd.N_slice HO404.out; subst eo28; obtain ⟨Ao29, co29, eo29⟩ := Kd.R_slice HO409.out; subst eo29; obtain ⟨Ao30, co30, eo30⟩ := Kd.R_slice HO412.out; subst eo30; obtain ⟨Ao31, co31, eo31⟩ := Kd.R_slice HO415.out; subst eo31; obtain ⟨Ao32, co32, eo32⟩ := Kd.N_slice HO418.out; subst eo32) | ((with_reducible refine gate_callee (f := 14) rfl ?_); refine goesL_ (some 14) rfl rfl Tryz.func14 (by kernel_rfl) rfl #[.slice Ao28 t402.length co28, .agg #[.bool t405, .bool t406, .slice Ao29 t407.length co29, .slice Ao30 t410.length co30, .slice Ao31 t413.length co31, .slice Ao32 t416.length co32, .bool t419, .bool t420], .bool true] rfl zm ?_; (with_reducible refine (clean_Rows.calls k _ _ t402 t405 t406 _ _ t407 _ _ t410 _ _ t413 _ _ t416 t419 t420 true t421 t424 _ ?side1 ?side2 ?side3 ?side4 ?side5 ?side6 ?side7 ?side8 ?side9 ?side10 A3.out).mono ?_); (case side1 => exact zc (Kd.N_reads' HO404.out).2.2); (case side2 => exact (Kd.N_reads' HO404.out).2.1); (case side3 => exact zc (Kd.R_reads' HO409.out).2.2); (case side4 => exact (Kd.R_reads' HO409.out).2.1); (case side5 => exact zc (Kd.R_reads' HO412.out).2.2); (case side6 => exact (Kd.R_reads' HO412.out).2.1); (case side7 => exact zc (Kd.R_reads' HO415.out).2.2); (case side8 => exact (Kd.R_reads' HO415.out).2.1); (case side9 => exact zc (Kd.N_reads' HO418.out).2.2); (case side10 => exact (Kd.N_reads' HO418.out).2.1); rintro e w33 ⟨v422, rfl, ho0, hb⟩; refine ⟨_, rfl, ?_⟩; have n0_ := Aside0.mk (Kd.N_elder' (by exact HO404.out) (zn ho0) hb); have n1_ := Aside0.mk (Kd.R_below (by exact HO409.out) hb); have n2_ := Aside0.mk (Kd.R_below (by exact HO412.out) hb); have n3_ := Aside0.mk (Kd.R_below (by exact HO415.out) hb); have n4_ := Aside0.mk (Kd.N_elder' (by exact HO418.out) (zn ho0) hb); have n5_ := Aside0.mk (Kd.N_lower (Kd.N_mono (ok' := fun _ => True) ho0 (fun _ _ => trivial)) (below_size (zb HB))); have n6_ := Aside0.mk (below_step (zb HB) hb); clear HO404; clear HO409; clear HO412; clear HO415; clear HO418; clear HB; have HO404 := n0_; have HO409 := n1_; have HO412 := n2_; have HO415 := n3_; have HO418 := n4_; have HO423 := n5_; have HB := n6_; clear n0_ n1_ n2_ n3_ n4_ n5_ n6_; (try clear hb); (try clear ho0)) | ((with_reducible refine gate_callee (f := 31) rfl ?_); refine goesL_ (some 18) rfl rfl Tryz.func31 (by kernel_rfl) rfl #[] rfl zm ?_; (with_reducible refine (boltinglaw13_treeP.calls  t425 _ A4.out).mono ?_); rintro e w34 ⟨v426, rfl, ho0, hb⟩; refine ⟨_, rfl, ?_⟩; have n0_ := Aside0.mk (Kd.N_elder' (by exact HO404.out) (zn ho0) hb); have n1_ := Aside0.mk (Kd.R_below (by exact HO409.out) hb); have n2_ := Aside0.mk (Kd.R_below (by exact HO412.out) hb); have n3_ := Aside0.mk (Kd.R_below (by exact HO415.out) hb); have n4_ := Aside0.mk (Kd.N_elder' (by exact HO418.out) (zn ho0) hb); have n5_ := Aside0.mk (Kd.N_elder' (by exact HO423.out) (zn ho0) hb); have n6_ := Aside0.mk (Kd.N_lower (Kd.N_mono (ok' := fun _ => True) ho0 (fun _ _ => trivial)) (below_size (zb HB))); have n7_ := Aside0.mk (below_step (zb HB) hb); clear HO404; clear HO409; clear HO412; clear HO415; clear HO418; clear HO423; clear HB; have HO404 := n0_; have HO409 := n1_; have HO412 := n2_; have HO415 := n3_; have HO418 := n4_; have HO423 := n5_; have HO427 := n6_; have HB := n7_; clear n0_ n1_ n2_ n3_ n4_ n5_ n6_ n7_; (try clear hb); (try clear ho0)) | ((with_reducible refine gate_dst (N := 19) rfl ?_); (try (refine gate_guard (by rfl) ?_; dsimp only)); refine Kd.R_lit Kd.string _ 9 ?hg (N := 19) ?hd (xs := ([(⟨#[98]⟩ : ByteArray)] : List ByteArray)) (inner := [.string (⟨#[98]⟩ : ByteArray)]) (ok := fun _ => True) (okp := fun _ => True) ?hr ?hp (fun _ hk => hk) trivial (Below.refl _ _) (Nat.le_refl _) (by simp) ?_; (case hd => rfl); (case hg => rfl); (case hr => first | (go_simp; done) | (go_simp; rfl)); (case hp => exact (Reps.one (show Kd.M Kd.string _ _ _ (⟨#[98]⟩ : ByteArray) [.string (⟨#[98]⟩ : ByteArray)] from rfl) (Reps.none _ _))); intro v429 w35 ho36 hb hg_ hnew_; clear hg_ hnew_; (first | rw [← Ny428.out] at ho36 | (simp only [Int.reduceToNat] at ho36; rw [← Ny428.out] at ho36)); have n0_ := Aside0.mk (Kd.N_elder' (by exact HO404.out) (Kd.R_base ho36) hb); have n1_ := Aside0.mk (Kd.R_elder' (by exact HO409.out) (Kd.R_base ho36) hb); have n2_ := Aside0.mk (Kd.R_elder' (by exact HO412.out) (Kd.R_base ho36) hb); have n3_ := Aside0.mk (Kd.R_elder' (by exact HO415.out) (Kd.R_base ho36) hb); have n4_ := Aside0.mk (Kd.N_elder' (by exact HO418.out) (Kd.R_base ho36) hb); have n5_ := Aside0.mk (Kd.N_elder' (by exact HO423.out) (Kd.R_base ho36) hb); have n6_ := Aside0.mk (Kd.N_elder' (by exact HO427.out) (Kd.R_base ho36) hb); have n7_ := Aside0.mk (Kd.R_lower (Kd.R_new' (Kd.R_new' (Kd.R_new' ho36 (Kd.R_lt (by exact HO409.out))) (Kd.R_lt (by exact HO412.out))) (Kd.R_lt (by exact HO415.out))) (below_size (zb HB))); have n8_ := Aside0.mk (below_step (zb HB) hb); clear HO404; clear HO409; clear HO412; clear HO415; clear HO418; clear HO423; clear HO427; clear HB; have HO404 := n0_; have HO409 := n1_; have HO412 := n2_; have HO415 := n3_; have HO418 := n4_; have HO423 := n5_; have HO427 := n6_; have HO430 := n7_; have HB := n8_; clear n0_ n1_ n2_ n3_ n4_ n5_ n6_ n7_ n8_; clear hb ho36; obtain ⟨Ao37, co37, eo37⟩ := Kd.R_slice HO430.out; subst eo37; obtain ⟨Ao38, co38, eo38⟩ := Kd.N_slice HO427.out; subst eo38) | ((with_reducible refine gate_callee (f := 14) rfl ?_); refine goesL_ (some 21) rfl rfl Tryz.func14 (by kernel_rfl) rfl #[.slice Ao38 t425.length co38, .agg #[.bool false, .bool false, .slice none 0 0, .slice Ao37 y428.length co37, .slice none 0 0, .slice none 0 0, .bool false, .bool false], .bool true] rfl zm ?_; (refine (clean_Rows.calls k _ _ t425 false false _ _ ([] : List ByteArray) _ _ y428 _ _ ([] : List ByteArray) _ _ ([] : List (S60)) false false true t431 t434 _ ?side1 ?side2 ?side3 ?side4 ?side5 ?side6 ?side7 ?side8 ?side9 ?side10 A5.out).mono ?_); (case side1 => exact zc (Kd.N_reads' HO427.out).2.2); (case side2 => exact (Kd.N_reads' HO427.out).2.1); (case side3 => exact Kd.C_nil _ _); (case side4 => exact Nat.le_refl _); (case side5 => exact zc (Kd.R_reads' HO430.out).2.2); (case side6 => exact (Kd.R_reads' HO430.out).2.1); (case side7 => exact Kd.C_nil _ _); (case side8 => exact Nat.le_refl _); (case side9 => exact Kd.C_nil _ _); (case side10 => exact Nat.le_refl _); rintro e w39 ⟨v432, rfl, ho0, hb⟩; refine ⟨_, rfl, ?_⟩; have n0_ := Aside0.mk (Kd.N_elder' (by exact HO404.out) (zn ho0) hb); have n1_ := Aside0.mk (Kd.R_below (by exact HO409.out) hb); have n2_ := Aside0.mk (Kd.R_below (by exact HO412.out) hb); have n3_ := Aside0.mk (Kd.R_below (by exact HO415.out) hb); have n4_ := Aside0.mk (Kd.N_elder' (by exact HO418.out) (zn ho0) hb); have n5_ := Aside0.mk (Kd.N_elder' (by exact HO423.out) (zn ho0) hb); have n6_ := Aside0.mk (Kd.N_elder' (by exact HO427.out) (zn ho0) hb); have n7_ := Aside0.mk (Kd.R_below (by exact HO430.out) hb); have n8_ := Aside0.mk (Kd.N_lower (Kd.N_mono (ok' := fun _ => True) ho0 (fun _ _ => trivial)) (below_size (zb HB))); have n9_ := Aside0.mk (below_step (zb HB) hb); clear HO404; clear HO409; clear HO412; clear HO415; clear HO418; clear HO423; clear HO427; clear HO430; clear HB; have HO404 := n0_; have HO409 := n1_; have HO412 := n2_; have HO415 := n3_; have HO418 := n4_; have HO423 := n5_; have HO427 := n6_; have HO430 := n7_; have HO433 := n8_; have HB := n9_; clear n0_ n1_ n2_ n3_ n4_ n5_ n6_ n7_ n8_ n9_; (try clear hb); (try clear ho0)) | ((with_reducible refine gate_callee (f := 31) rfl ?_); refine goesL_ (some 25) rfl rfl Tryz.func31 (by kernel_rfl) rfl #[] rfl zm ?_; (with_reducible refine (boltinglaw13_treeP.calls  t435 _ A6.out).mono ?_); rintro e w40 ⟨v436, rfl, ho0, hb⟩; refine ⟨_, rfl, ?_⟩; have n0_ := Aside0.mk (Kd.N_elder' (by exact HO404.out) (zn ho0) hb); have n1_ := Aside0.mk (Kd.R_below (by exact HO409.out) hb); have n2_ := Aside0.mk (Kd.R_below (by exact HO412.out) hb); have n3_ := Aside0.mk (Kd.R_below (by exact HO415.out) hb); have n4_ := Aside0.mk (Kd.N_elder' (by exact HO418.out) (zn ho0) hb); have n5_ := Aside0.mk (Kd.N_elder' (by exact HO423.out) (zn ho0) hb); have n6_ := Aside0.mk (Kd.N_elder' (by exact HO427.out) (zn ho0) hb); have n7_ := Aside0.mk (Kd.R_below (by exact HO430.out) hb); have n8_ := Aside0.mk (Kd.N_elder' (by exact HO433.out) (zn ho0) hb); have n9_ := Aside0.mk (Kd.N_lower (Kd.N_mono (ok' := fun _ => True) ho0 (fun _ _ => trivial)) (below_size (zb HB))); have n10_ := Aside0.mk (below_step (zb HB) hb); clear HO404; clear HO409; clear HO412; clear HO415; clear HO418; clear HO423; clear HO427; clear HO430; clear HO433; clear HB; have HO404 := n0_; have HO409 := n1_; have HO412 := n2_; have HO415 := n3_; have HO418 := n4_; have HO423 := n5_; have HO427 := n6_; have HO430 := n7_; have HO433 := n8_; have HO437 := n9_; have HB := n10_; clear n0_ n1_ n2_ n3_ n4_ n5_ n6_ n7_ n8_ n9_ n10_; (try clear hb); (try clear ho0)) | ((with_reducible refine gate_callee (f := 15) rfl ?_); refine goesL_ (some 26) rfl rfl Tryz.func15 (by kernel_rfl) rfl #[] rfl zm ?_; (with_reducible refine (config_All.calls  t438 t439 t440 t443 t446 t449 t452 t453 _ A7.out).mono ?_); rintro e w41 ⟨v441, v444, v447, v450, rfl, ho0, ho1, ho2, ho3, hb⟩; refine ⟨_, rfl, ?_⟩; have n0_ := Aside0.mk (Kd.N_mono (Kd.N_told (Kd.N_told (Kd.N_told (Kd.N_told (Kd.N_old (by exact HO404.out) hb) (Kd.R_base ho0)) (Kd.R_base ho1)) (Kd.R_base ho2)) (zn ho3)) (fun _ h_ => h_.1)); have n1_ := Aside0.mk (Kd.R_mono (Kd.R_told (Kd.R_told (Kd.R_told (Kd.R_old (by exact HO409.out) hb) (Kd.R_base ho0)) (Kd.R_base ho1)) (Kd.R_base ho2)) (fun _ h_ => h_.1)); have n2_ := Aside0.mk (Kd.R_mono (Kd.R_told (Kd.R_told (Kd.R_told (Kd.R_old (by exact HO412.out) hb) (Kd.R_base ho0)) (Kd.R_base ho1)) (Kd.R_base ho2)) (fun _ h_ => h_.1)); have n3_ := Aside0.mk (Kd.R_mono (Kd.R_told (Kd.R_told (Kd.R_told (Kd.R_old (by exact HO415.out) hb) (Kd.R_base ho0)) (Kd.R_base ho1)) (Kd.R_base ho2)) (fun _ h_ => h_.1)); have n4_ := Aside0.mk (Kd.N_mono (Kd.N_told (Kd.N_told (Kd.N_told (Kd.N_told (Kd.N_old (by exact HO418.out) hb) (Kd.R_base ho0)) (Kd.R_base ho1)) (Kd.R_base ho2)) (zn ho3)) (fun _ h_ => h_.1)); have n5_ := Aside0.mk (Kd.N_mono (Kd.N_told (Kd.N_told (Kd.N_told (Kd.N_told (Kd.N_old (by exact HO423.out) hb) (Kd.R_base ho0)) (Kd.R_base ho1)) (Kd.R_base ho2)) (zn ho3)) (fun _ h_ => h_.1)); have n6_ := Aside0.mk (Kd.N_mono (Kd.N_told (Kd.N_told (Kd.N_told (Kd.N_told (Kd.N_old (by exact HO427.out) hb) (Kd.R_base ho0)) (Kd.R_base ho1)) (Kd.R_base ho2)) (zn ho3)) (fun _ h_ => h_.1)); have n7_ := Aside0.mk (Kd.R_mono (Kd.R_told (Kd.R_told (Kd.R_told (Kd.R_old (by exact HO430.out) hb) (Kd.R_base ho0)) (Kd.R_base ho1)) (Kd.R_base ho2)) (fun _ h_ => h_.1)); have n8_ := Aside0.mk (Kd.N_mono (Kd.N_told (Kd.N_told (Kd.N_told (Kd.N_told (Kd.N_old (by exact HO433.out) hb) (Kd.R_base ho0)) (Kd.R_base ho1)) (Kd.R_base ho2)) (zn ho3)) (fun _ h_ => h_.1)); have n9_ := Aside0.mk (Kd.N_mono (Kd.N_told (Kd.N_told (Kd.N_told (Kd.N_told (Kd.N_old (by exact HO437.out) hb) (Kd.R_base ho0)) (Kd.R_base ho1)) (Kd.R_base ho2)) (zn ho3)) (fun _ h_ => h_.1)); have n10_ := Aside0.mk (Kd.R_lower (Kd.R_new' (Kd.R_new' (Kd.R_new' (Kd.R_new' ho0 (Kd.R_lt (by exact HO409.out))) (Kd.R_lt (by exact HO412.out))) (Kd.R_lt (by exact HO415.out))) (Kd.R_lt (by exact HO430.out))) (below_size (zb HB))); have n11_ := Aside0.mk (Kd.R_lower (Kd.R_new' (Kd.R_new' (Kd.R_new' (Kd.R_new' ho1 (Kd.R_lt (by exact HO409.out))) (Kd.R_lt (by exact HO412.out))) (Kd.R_lt (by exact HO415.out))) (Kd.R_lt (by exact HO430.out))) (below_size (zb HB))); have n12_ := Aside0.mk (Kd.R_lower (Kd.R_new' (Kd.R_new' (Kd.R_new' (Kd.R_new' ho2 (Kd.R_lt (by exact HO409.out))) (Kd.R_lt (by exact HO412.out))) (Kd.R_lt (by exact HO415.out))) (Kd.R_lt (by exact HO430.out))) (below_size (zb HB))); have n13_ := Aside0.mk (Kd.N_lower (Kd.N_mono (ok' := fun _ => True) (Kd.S_N (Kd.S_bound ho3)) (fun _ _ => trivial)) (below_size (zb HB))); have n14_ := Aside0.mk (below_step (zb HB) hb); clear HO404; clear HO409; clear HO412; clear HO415; clear HO418; clear HO423; clear HO427; clear HO430; clear HO433; clear HO437; clear HB; have HO404 := n0_; have HO409 := n1_; have HO412 := n2_; have HO415 := n3_; have HO418 := n4_; have HO423 := n5_; have HO427 := n6_; have HO430 := n7_; have HO433 := n8_; have HO437 := n9_; have HO442 := n10_; have HO445 := n11_; have HO448 := n12_; have HO451 := n13_; have HB := n14_; clear n0_ n1_ n2_ n3_ n4_ n5_ n6_ n7_ n8_ n9_ n10_ n11_ n12_ n13_ n14_; (try clear hb); (try clear ho0); (try clear ho1); (try clear ho2); (try clear ho3); obtain ⟨Ao42, co42, eo42⟩ := Kd.N_slice HO437.out; subst eo42; obtain ⟨Ao43, co43, eo43⟩ := Kd.R_slice HO442.out; subst eo43; obtain ⟨Ao44, co44, eo44⟩ := Kd.R_slice HO445.out; subst eo44; obtain ⟨Ao45, co45, eo45⟩ := Kd.R_slice HO448.out; subst eo45; obtain ⟨Ao46, co46, eo46⟩ := Kd.N_slice HO451.out; subst eo46) | ((with_reducible refine gate_callee (f := 14) rfl ?_); refine goesL_ (some 27) rfl rfl Tryz.func14 (by kernel_rfl) rfl #[.slice Ao42 t435.length co42, .agg #[.bool t438, .bool t439, .slice Ao43 t440.length co43, .slice Ao44 t443.length co44, .slice Ao45 t446.length co45, .slice Ao46 t449.length co46, .bool t452, .bool t453], .bool false] rfl zm ?_; (with_reducible refine (clean_Rows.calls k _ _ t435 t438 t439 _ _ t440 _ _ t443 _ _ t446 _ _ t449 t452 t453 false t454 t457 _ ?side1 ?side2 ?side3 ?side4 ?side5 ?side6 ?side7 ?side8 ?side9 ?side10 A8.out).mono ?_); (case side1 => exact zc (Kd.N_reads' HO437.out).2.2); (case side2 => exact (Kd.N_reads' HO437.out).2.1); (case side3 => exact zc (Kd.R_reads' HO442.out).2.2); (case side4 => exact (Kd.R_reads' HO442.out).2.1); (case side5 => exact zc (Kd.R_reads' HO445.out).2.2); (case side6 => exact (Kd.R_reads' HO445.out).2.1); (case side7 => exact zc (Kd.R_reads' HO448.out).2.2); (case side8 => exact (Kd.R_reads' HO448.out).2.1); (case side9 => exact zc (Kd.N_reads' HO451.out).2.2); (case side10 => exact (Kd.N_reads' HO451.out).2.1); rintro e w47 ⟨v455, rfl, ho0, hb⟩; refine ⟨_, rfl, ?_⟩; have n0_ := Aside0.mk (Kd.N_elder' (by exact HO404.out) (zn ho0) hb); have n1_ := Aside0.mk (Kd.R_below (by exact HO409.out) hb); have n2_ := Aside0.mk (Kd.R_below (by exact HO412.out) hb); have n3_ := Aside0.mk (Kd.R_below (by exact HO415.out) hb); have n4_ := Aside0.mk (Kd.N_elder' (by exact HO418.out) (zn ho0) hb); have n5_ := Aside0.mk (Kd.N_elder' (by exact HO423.out) (zn ho0) hb); have n6_ := Aside0.mk (Kd.N_elder' (by exact HO427.out) (zn ho0) hb); have n7_ := Aside0.mk (Kd.R_below (by exact HO430.out) hb); have n8_ := Aside0.mk (Kd.N_elder' (by exact HO433.out) (zn ho0) hb); have n9_ := Aside0.mk (Kd.N_elder' (by exact HO437.out) (zn ho0) hb); have n10_ := Aside0.mk (Kd.R_below (by exact HO442.out) hb); have n11_ := Aside0.mk (Kd.R_below (by exact HO445.out) hb); have n12_ := Aside0.mk (Kd.R_below (by exact HO448.out) hb); have n13_ := Aside0.mk (Kd.N_elder' (by exact HO451.out) (zn ho0) hb); have n14_ := Aside0.mk (Kd.N_lower (Kd.N_mono (ok' := fun _ => True) ho0 (fun _ _ => trivial)) (below_size (zb HB))); have n15_ := Aside0.mk (below_step (zb HB) hb); clear HO404; clear HO409; clear HO412; clear HO415; clear HO418; clear HO423; clear HO427; clear HO430; clear HO433; clear HO437; clear HO442; clear HO445; clear HO448; clear HO451; clear HB; have HO404 := n0_; have HO409 := n1_; have HO412 := n2_; have HO415 := n3_; have HO418 := n4_; have HO423 := n5_; have HO427 := n6_; have HO430 := n7_; have HO433 := n8_; have HO437 := n9_; have HO442 := n10_; have HO445 := n11_; have HO448 := n12_; have HO451 := n13_; have HO456 := n14_; have HB := n15_; clear n0_ n1_ n2_ n3_ n4_ n5_ n6_ n7_ n8_ n9_ n10_ n11_ n12_ n13_ n14_ n15_; (try clear hb); (try clear ho0)) | ((with_reducible refine gate_callee (f := 31) rfl ?_); refine goesL_ (some 31) rfl rfl Tryz.func31 (by kernel_rfl) rfl #[] rfl zm ?_; (with_reducible refine (boltinglaw13_treeP.calls  t458 _ A9.out).mono ?_); rintro e w48 ⟨v459, rfl, ho0, hb⟩; refine ⟨_, rfl, ?_⟩; have n0_ := Aside0.mk (Kd.N_elder' (by exact HO404.out) (zn ho0) hb); have n1_ := Aside0.mk (Kd.R_below (by exact HO409.out) hb); have n2_ := Aside0.mk (Kd.R_below (by exact HO412.out) hb); have n3_ := Aside0.mk (Kd.R_below (by exact HO415.out) hb); have n4_ := Aside0.mk (Kd.N_elder' (by exact HO418.out) (zn ho0) hb); have n5_ := Aside0.mk (Kd.N_elder' (by exact HO423.out) (zn ho0) hb); have n6_ := Aside0.mk (Kd.N_elder' (by exact HO427.out) (zn ho0) hb); have n7_ := Aside0.mk (Kd.R_below (by exact HO430.out) hb); have n8_ := Aside0.mk (Kd.N_elder' (by exact HO433.out) (zn ho0) hb); have n9_ := Aside0.mk (Kd.N_elder' (by exact HO437.out) (zn ho0) hb); have n10_ := Aside0.mk (Kd.R_below (by exact HO442.out) hb); have n11_ := Aside0.mk (Kd.R_below (by exact HO445.out) hb); have n12_ := Aside0.mk (Kd.R_below (by exact HO448.out) hb); have n13_ := Aside0.mk (Kd.N_elder' (by exact HO451.out) (zn ho0) hb); have n14_ := Aside0.mk (Kd.N_elder' (by exact HO456.out) (zn ho0) hb); have n15_ := Aside0.mk (Kd.N_lower (Kd.N_mono (ok' := fun _ => True) ho0 (fun _ _ => trivial)) (below_size (zb HB))); have n16_ := Aside0.mk (below_step (zb HB) hb); clear HO404; clear HO409; clear HO412; clear HO415; clear HO418; clear HO423; clear HO427; clear HO430; clear HO433; clear HO437; clear HO442; clear HO445; clear HO448; clear HO451; clear HO456; clear HB; have HO404 := n0_; have HO409 := n1_; have HO412 := n2_; have HO415 := n3_; have HO418 := n4_; have HO423 := n5_; have HO427 := n6_; have HO430 := n7_; have HO433 := n8_; have HO437 := n9_; have HO442 := n10_; have HO445 := n11_; have HO448 := n12_; have HO451 := n13_; have HO456 := n14_; have HO460 := n15_; have HB := n16_; clear n0_ n1_ n2_ n3_ n4_ n5_ n6_ n7_ n8_ n9_ n10_ n11_ n12_ n13_ n14_ n15_ n16_; (try clear hb); (try clear ho0); obtain ⟨Ao49, co49, eo49⟩ := Kd.N_slice HO460.out; subst eo49) | ((with_reducible refine gate_callee (f := 14) rfl ?_); refine goesL_ (some 33) rfl rfl Tryz.func14 (by kernel_rfl) rfl #[.slice Ao49 t458.length co49, .agg #[.bool false, .bool false, .slice none 0 0, .slice none 0 0, .slice none 0 0, .slice none 0 0, .bool false, .bool true], .bool true] rfl zm ?_; (refine (clean_Rows.calls k _ _ t458 false false _ _ ([] : List ByteArray) _ _ ([] : List ByteArray) _ _ ([] : List ByteArray) _ _ ([] : List (S60)) false true true t461 t464 _ ?side1 ?side2 ?side3 ?side4 ?side5 ?side6 ?side7 ?side8 ?side9 ?side10 A10.out).mono ?_); (case side1 => exact zc (Kd.N_reads' HO460.out).2.2); (case side2 => exact (Kd.N_reads' HO460.out).2.1); (case side3 => exact Kd.C_nil _ _); (case side4 => exact Nat.le_refl _); (case side5 => exact Kd.C_nil _ _); (case side6 => exact Nat.le_refl _); (case side7 => exact Kd.C_nil _ _); (case side8 => exact Nat.le_refl _); (case side9 => exact Kd.C_nil _ _); (case side10 => exact Nat.le_refl _); rintro e w50 ⟨v462, rfl, ho0, hb⟩; refine ⟨_, rfl, ?_⟩; have n0_ := Aside0.mk (Kd.N_elder' (by exact HO404.out) (zn ho0) hb); have n1_ := Aside0.mk (Kd.R_below (by exact HO409.out) hb); have n2_ := Aside0.mk (Kd.R_below (by exact HO412.out) hb); have n3_ := Aside0.mk (Kd.R_below (by exact HO415.out) hb); have n4_ := Aside0.mk (Kd.N_elder' (by exact HO418.out) (zn ho0) hb); have n5_ := Aside0.mk (Kd.N_elder' (by exact HO423.out) (zn ho0) hb); have n6_ := Aside0.mk (Kd.N_elder' (by exact HO427.out) (zn ho0) hb); have n7_ := Aside0.mk (Kd.R_below (by exact HO430.out) hb); have n8_ := Aside0.mk (Kd.N_elder' (by exact HO433.out) (zn ho0) hb); have n9_ := Aside0.mk (Kd.N_elder' (by exact HO437.out) (zn ho0) hb); have n10_ := Aside0.mk (Kd.R_below (by exact HO442.out) hb); have n11_ := Aside0.mk (Kd.R_below (by exact HO445.out) hb); have n12_ := Aside0.mk (Kd.R_below (by exact HO448.out) hb); have n13_ := Aside0.mk (Kd.N_elder' (by exact HO451.out) (zn ho0) hb); have n14_ := Aside0.mk (Kd.N_elder' (by exact HO456.out) (zn ho0) hb); have n15_ := Aside0.mk (Kd.N_elder' (by exact HO460.out) (zn ho0) hb); have n16_ := Aside0.mk (Kd.N_lower (Kd.N_mono (ok' := fun _ => True) ho0 (fun _ _ => trivial)) (below_size (zb HB))); have n17_ := Aside0.mk (below_step (zb HB) hb); clear HO404; clear HO409; clear HO412; clear HO415; clear HO418; clear HO423; clear HO427; clear HO430; clear HO433; clear HO437; clear HO442; clear HO445; clear HO448; clear HO451; clear HO456; clear HO460; clear HB; have HO404 := n0_; have HO409 := n1_; have HO412 := n2_; have HO415 := n3_; have HO418 := n4_; have HO423 := n5_; have HO427 := n6_; have HO430 := n7_; have HO433 := n8_; have HO437 := n9_; have HO442 := n10_; have HO445 := n11_; have HO448 := n12_; have HO451 := n13_; have HO456 := n14_; have HO460 := n15_; have HO463 := n16_; have HB := n17_; clear n0_ n1_ n2_ n3_ n4_ n5_ n6_ n7_ n8_ n9_ n10_ n11_ n12_ n13_ n14_ n15_ n16_ n17_; (try clear hb); (try clear ho0)))
         have n0_ := Aside0.mk (Kd.N_drew HO404.out)
         have n1_ := Aside0.mk (Kd.R_drew HO409.out)
         have n2_ := Aside0.mk (Kd.R_drew HO412.out)
         have n3_ := Aside0.mk (Kd.R_drew HO415.out)
         have n4_ := Aside0.mk (Kd.N_drew HO418.out)
         have n5_ := Aside0.mk (Kd.N_drew HO423.out)
         have n6_ := Aside0.mk (Kd.N_drew HO427.out)
         have n7_ := Aside0.mk (Kd.R_drew HO430.out)
         have n8_ := Aside0.mk (Kd.N_drew HO433.out)
         have n9_ := Aside0.mk (Kd.N_drew HO437.out)
         have n10_ := Aside0.mk (Kd.R_drew HO442.out)
         have n11_ := Aside0.mk (Kd.R_drew HO445.out)
         have n12_ := Aside0.mk (Kd.R_drew HO448.out)
         have n13_ := Aside0.mk (Kd.N_drew HO451.out)
         have n14_ := Aside0.mk (Kd.N_drew HO456.out)
         have n15_ := Aside0.mk (Kd.N_drew HO460.out)
         have n16_ := Aside0.mk (Kd.N_drew HO463.out)
         have n17_ := Aside0.mk (below_drew1 HB.out)
         clear HO404
         clear HO409
         clear HO412
         clear HO415
         clear HO418
         clear HO423
         clear HO427
         clear HO430
         clear HO433
         clear HO437
         clear HO442
         clear HO445
         clear HO448
         clear HO451
         clear HO456
         clear HO460
         clear HO463
         clear HB
         have HO404 := n0_
         have HO409 := n1_
         have HO412 := n2_
         have HO415 := n3_
         have HO418 := n4_
         have HO423 := n5_
         have HO427 := n6_
         have HO430 := n7_
         have HO433 := n8_
         have HO437 := n9_
         have HO442 := n10_
         have HO445 := n11_
         have HO448 := n12_
         have HO451 := n13_
         have HO456 := n14_
         have HO460 := n15_
         have HO463 := n16_
         have HB := n17_
         clear n0_ n1_ n2_ n3_ n4_ n5_ n6_ n7_ n8_ n9_ n10_ n11_ n12_ n13_ n14_ n15_ n16_ n17_
         refine start_ (n := 9) (S := fun w' => True) (ds := []) (tf 0 9) (by kernel_rfl) rfl rfl trivial (fun hHeld => ?_); refine with_tabW boltinglaw13_fixedP.tab5 boltinglaw13_fixedP.bits5 (fun HT_ HW_ => ?_)
         generalize w50.drew = w51 at HO404 HO409 HO412 HO415 HO418 HO423 HO427 HO430 HO433 HO437 HO442 HO445 HO448 HO451 HO456 HO460 HO463 HB hHeld ⊢
         refine one_ (i := 0) (N := some 37) (tf 1 8) rfl rfl (one_of HT_.out (by kernel_rfl)) (by decide) (fun K hK => ?_)
         refine goes_ Tryz.func31 (by kernel_rfl) rfl #[] (by rfl) rfl rfl zm ?_
         with_reducible refine (boltinglaw13_treeP.calls  t465 _ A11.out).mono ?_
         rintro e w52 ⟨v466, rfl, ho0, hb⟩
         refine ⟨_, rfl, ?_⟩
         have n0_ := Aside0.mk (Kd.N_elder' (by exact HO404.out) (zn ho0) hb)
         have n1_ := Aside0.mk (Kd.R_below (by exact HO409.out) hb)
         have n2_ := Aside0.mk (Kd.R_below (by exact HO412.out) hb)
         have n3_ := Aside0.mk (Kd.R_below (by exact HO415.out) hb)
         have n4_ := Aside0.mk (Kd.N_elder' (by exact HO418.out) (zn ho0) hb)
         have n5_ := Aside0.mk (Kd.N_elder' (by exact HO423.out) (zn ho0) hb)
         have n6_ := Aside0.mk (Kd.N_elder' (by exact HO427.out) (zn ho0) hb)
         have n7_ := Aside0.mk (Kd.R_below (by exact HO430.out) hb)
         have n8_ := Aside0.mk (Kd.N_elder' (by exact HO433.out) (zn ho0) hb)
         have n9_ := Aside0.mk (Kd.N_elder' (by exact HO437.out) (zn ho0) hb)
         have n10_ := Aside0.mk (Kd.R_below (by exact HO442.out) hb)
         have n11_ := Aside0.mk (Kd.R_below (by exact HO445.out) hb)
         have n12_ := Aside0.mk (Kd.R_below (by exact HO448.out) hb)
         have n13_ := Aside0.mk (Kd.N_elder' (by exact HO451.out) (zn ho0) hb)
         have n14_ := Aside0.mk (Kd.N_elder' (by exact HO456.out) (zn ho0) hb)
         have n15_ := Aside0.mk (Kd.N_elder' (by exact HO460.out) (zn ho0) hb)
         have n16_ := Aside0.mk (Kd.N_elder' (by exact HO463.out) (zn ho0) hb)
         have n17_ := Aside0.mk (Kd.N_lower (Kd.N_mono (ok' := fun _ => True) ho0 (fun _ _ => trivial)) (below_size (zb HB)))
         have n18_ := Aside0.mk (below_step (zb HB) hb)
         clear HO404
         clear HO409
         clear HO412
         clear HO415
         clear HO418
         clear HO423
         clear HO427
         clear HO430
         clear HO433
         clear HO437
         clear HO442
         clear HO445
         clear HO448
         clear HO451
         clear HO456
         clear HO460
         clear HO463
         clear HB
         have HO404 := n0_
         have HO409 := n1_
         have HO412 := n2_
         have HO415 := n3_
         have HO418 := n4_
         have HO423 := n5_
         have HO427 := n6_
         have HO430 := n7_
         have HO433 := n8_
         have HO437 := n9_
         have HO442 := n10_
         have HO445 := n11_
         have HO448 := n12_
         have HO451 := n13_
         have HO456 := n14_
         have HO460 := n15_
         have HO463 := n16_
         have HO467 := n17_
         have HB := n18_
         clear n0_ n1_ n2_ n3_ n4_ n5_ n6_ n7_ n8_ n9_ n10_ n11_ n12_ n13_ n14_ n15_ n16_ n17_ n18_
         (try clear hb)
         (try clear ho0)
         obtain ⟨Ao54, co54, eo54⟩ := Kd.N_slice HO467.out
         (first | subst eo54 | (injection eo54 with f1_ f2_ f3_; have f4_ := f1_.symm; have f5_ := f3_.symm; clear f1_ f2_ f3_; subst f4_; subst f5_))
         have q53 : (1 : Int) ≤ ((t465.length : Int) : Int) := of_decide_eq_true za
         obtain ⟨i053, hi053, _, hsz53, _⟩ := info_parts info38
         have hroom53 : t465.length ≤ co54 := (Kd.N_reads' HO467.out).2.1
         have hC53 : Kd.F k38 _ _ Ao54 t465.length t465 := (Kd.V_at (base := w.heap.size) (Kd.N_V HO467.out)).2.2
         have hcut53 := cut_from (P := Tryz.prog) 22 38 .i64 Tryz.underlying22 hi053 5 hsz53 Ao54 t465.length co54 1 (by omega) q53
         have hr53 := Kd.F_cut (m := (1 : Int).toNat) (c := co54) hC53 (by omega) hroom53
         obtain ⟨A53, hA53⟩ : ∃ A1, A1 = (if co54 = (1 : Int).toNat then Ao54 else (Ao54 : Option Addr).map (·.add ((1 : Int).toNat * 5))) := ⟨_, rfl⟩
         obtain ⟨c53, hc53⟩ : ∃ c1, c1 = co54 - (1 : Int).toNat := ⟨_, rfl⟩
         have hy53 : y468.length = t465.length - (1 : Int).toNat := (by rw [Ny468.out, List.length_drop] <;> omega)
         rw [show (t465).drop (1 : Int).toNat = y468 from Ny468.out.symm] at hr53
         replace hr53 : Kd.F k38 _ _ A53 y468.length y468 := (by rw [hA53]; exact hr53)
         rw [← hy53, ← hA53, ← hc53] at hcut53
         have HO472 := Aside0.mk (show Kd.V k38 38 _ w.heap.size _ (.slice A53 y468.length c53) y468 from Kd.V_mk (by rw [hy53, hc53]; exact Nat.sub_le_sub_right hroom53 _) hr53)
         have HC472 := Aside0.mk (show y468.length ≤ c53 from by rw [hy53, hc53]; exact Nat.sub_le_sub_right hroom53 _)
         clear hr53 hC53 hroom53 hi053 hsz53 hc53
         have KY53 := Aside0.mk hy53
         have KA53 := Aside0.mk hA53
         clear hy53 hA53
         replace q53 := eq_true q53
         refine hK.out _ _ trivial (fun hHeld => ?_)
         clear hK K
         refine norm_ (a' := ?_) ?_ ?_
         rotate_left
         ·show Act.put _ (some 37) _ = _
          simp only [Act.put, List.setIfInBounds_toArray, List.set_cons_zero, List.set_cons_succ, i64_w, i32_w]
          rfl
         refine pure_ (i := 1) (N := some 38) (v := ?_) (a' := ?_) (tf 2 7) rfl rfl (any_of HT_.out (by kernel_rfl)) (fun _ _ _ h => h) (Or.inl ⟨by rfl, ?_⟩) ?_ ?_
         rotate_left
         ·intro w'
          go_simp
          with_reducible rfl
         rotate_left
         ·simp only [Act.put, List.setIfInBounds_toArray, List.set_cons_zero, List.set_cons_succ, i64_w, i32_w]
          rfl
         refine one_ (i := 2) (N := some 39) (tf 3 6) rfl rfl (one_of HT_.out (by kernel_rfl)) (by decide) (fun K hK => ?_)
         refine goes_ Tryz.func15 (by kernel_rfl) rfl #[] (by rfl) rfl rfl zm ?_
         with_reducible refine (config_All.calls  t473 t474 t475 t478 t481 t484 t487 t488 _ A13.out).mono ?_
         rintro e w55 ⟨v476, v479, v482, v485, rfl, ho0, ho1, ho2, ho3, hb⟩
         refine ⟨_, rfl, ?_⟩
         have n0_ := Aside0.mk (Kd.N_mono (Kd.N_told (Kd.N_told (Kd.N_told (Kd.N_told (Kd.N_old (by exact HO404.out) hb) (Kd.R_base ho0)) (Kd.R_base ho1)) (Kd.R_base ho2)) (zn ho3)) (fun _ h_ => h_.1))
         have n1_ := Aside0.mk (Kd.R_mono (Kd.R_told (Kd.R_told (Kd.R_told (Kd.R_old (by exact HO409.out) hb) (Kd.R_base ho0)) (Kd.R_base ho1)) (Kd.R_base ho2)) (fun _ h_ => h_.1))
         have n2_ := Aside0.mk (Kd.R_mono (Kd.R_told (Kd.R_told (Kd.R_told (Kd.R_old (by exact HO412.out) hb) (Kd.R_base ho0)) (Kd.R_base ho1)) (Kd.R_base ho2)) (fun _ h_ => h_.1))
         have n3_ := Aside0.mk (Kd.R_mono (Kd.R_told (Kd.R_told (Kd.R_told (Kd.R_old (by exact HO415.out) hb) (Kd.R_base ho0)) (Kd.R_base ho1)) (Kd.R_base ho2)) (fun _ h_ => h_.1))
         have n4_ := Aside0.mk (Kd.N_mono (Kd.N_told (Kd.N_told (Kd.N_told (Kd.N_told (Kd.N_old (by exact HO418.out) hb) (Kd.R_base ho0)) (Kd.R_base ho1)) (Kd.R_base ho2)) (zn ho3)) (fun _ h_ => h_.1))
         have n5_ := Aside0.mk (Kd.N_mono (Kd.N_told (Kd.N_told (Kd.N_told (Kd.N_told (Kd.N_old (by exact HO423.out) hb) (Kd.R_base ho0)) (Kd.R_base ho1)) (Kd.R_base ho2)) (zn ho3)) (fun _ h_ => h_.1))
         have n6_ := Aside0.mk (Kd.N_mono (Kd.N_told (Kd.N_told (Kd.N_told (Kd.N_told (Kd.N_old (by exact HO427.out) hb) (Kd.R_base ho0)) (Kd.R_base ho1)) (Kd.R_base ho2)) (zn ho3)) (fun _ h_ => h_.1))
         have n7_ := Aside0.mk (Kd.R_mono (Kd.R_told (Kd.R_told (Kd.R_told (Kd.R_old (by exact HO430.out) hb) (Kd.R_base ho0)) (Kd.R_base ho1)) (Kd.R_base ho2)) (fun _ h_ => h_.1))
         have n8_ := Aside0.mk (Kd.N_mono (Kd.N_told (Kd.N_told (Kd.N_told (Kd.N_told (Kd.N_old (by exact HO433.out) hb) (Kd.R_base ho0)) (Kd.R_base ho1)) (Kd.R_base ho2)) (zn ho3)) (fun _ h_ => h_.1))
         have n9_ := Aside0.mk (Kd.N_mono (Kd.N_told (Kd.N_told (Kd.N_told (Kd.N_told (Kd.N_old (by exact HO437.out) hb) (Kd.R_base ho0)) (Kd.R_base ho1)) (Kd.R_base ho2)) (zn ho3)) (fun _ h_ => h_.1))
         have n10_ := Aside0.mk (Kd.R_mono (Kd.R_told (Kd.R_told (Kd.R_told (Kd.R_old (by exact HO442.out) hb) (Kd.R_base ho0)) (Kd.R_base ho1)) (Kd.R_base ho2)) (fun _ h_ => h_.1))
         have n11_ := Aside0.mk (Kd.R_mono (Kd.R_told (Kd.R_told (Kd.R_told (Kd.R_old (by exact HO445.out) hb) (Kd.R_base ho0)) (Kd.R_base ho1)) (Kd.R_base ho2)) (fun _ h_ => h_.1))
         have n12_ := Aside0.mk (Kd.R_mono (Kd.R_told (Kd.R_told (Kd.R_told (Kd.R_old (by exact HO448.out) hb) (Kd.R_base ho0)) (Kd.R_base ho1)) (Kd.R_base ho2)) (fun _ h_ => h_.1))
         have n13_ := Aside0.mk (Kd.N_mono (Kd.N_told (Kd.N_told (Kd.N_told (Kd.N_told (Kd.N_old (by exact HO451.out) hb) (Kd.R_base ho0)) (Kd.R_base ho1)) (Kd.R_base ho2)) (zn ho3)) (fun _ h_ => h_.1))
         have n14_ := Aside0.mk (Kd.N_mono (Kd.N_told (Kd.N_told (Kd.N_told (Kd.N_told (Kd.N_old (by exact HO456.out) hb) (Kd.R_base ho0)) (Kd.R_base ho1)) (Kd.R_base ho2)) (zn ho3)) (fun _ h_ => h_.1))
         have n15_ := Aside0.mk (Kd.N_mono (Kd.N_told (Kd.N_told (Kd.N_told (Kd.N_told (Kd.N_old (by exact HO460.out) hb) (Kd.R_base ho0)) (Kd.R_base ho1)) (Kd.R_base ho2)) (zn ho3)) (fun _ h_ => h_.1))
         have n16_ := Aside0.mk (Kd.N_mono (Kd.N_told (Kd.N_told (Kd.N_told (Kd.N_told (Kd.N_old (by exact HO463.out) hb) (Kd.R_base ho0)) (Kd.R_base ho1)) (Kd.R_base ho2)) (zn ho3)) (fun _ h_ => h_.1))
         have n17_ := Aside0.mk (Kd.N_mono (Kd.N_told (Kd.N_told (Kd.N_told (Kd.N_told (Kd.N_old (by exact HO467.out) hb) (Kd.R_base ho0)) (Kd.R_base ho1)) (Kd.R_base ho2)) (zn ho3)) (fun _ h_ => h_.1))
         have n18_ := Aside0.mk (Kd.V_mono (Kd.V_told (Kd.V_told (Kd.V_told (Kd.V_told (Kd.V_old (by exact HO472.out) hb) (Kd.R_base ho0)) (Kd.R_base ho1)) (Kd.R_base ho2)) (zn ho3)) (fun _ h_ => h_.1))
         have n19_ := Aside0.mk (Kd.R_lower (Kd.R_new' (Kd.R_new' (Kd.R_new' (Kd.R_new' (Kd.R_new' (Kd.R_new' (Kd.R_new' ho0 (Kd.R_lt (by exact HO409.out))) (Kd.R_lt (by exact HO412.out))) (Kd.R_lt (by exact HO415.out))) (Kd.R_lt (by exact HO430.out))) (Kd.R_lt (by exact HO442.out))) (Kd.R_lt (by exact HO445.out))) (Kd.R_lt (by exact HO448.out))) (below_size (zb HB)))
         have n20_ := Aside0.mk (Kd.R_lower (Kd.R_new' (Kd.R_new' (Kd.R_new' (Kd.R_new' (Kd.R_new' (Kd.R_new' (Kd.R_new' ho1 (Kd.R_lt (by exact HO409.out))) (Kd.R_lt (by exact HO412.out))) (Kd.R_lt (by exact HO415.out))) (Kd.R_lt (by exact HO430.out))) (Kd.R_lt (by exact HO442.out))) (Kd.R_lt (by exact HO445.out))) (Kd.R_lt (by exact HO448.out))) (below_size (zb HB)))
         have n21_ := Aside0.mk (Kd.R_lower (Kd.R_new' (Kd.R_new' (Kd.R_new' (Kd.R_new' (Kd.R_new' (Kd.R_new' (Kd.R_new' ho2 (Kd.R_lt (by exact HO409.out))) (Kd.R_lt (by exact HO412.out))) (Kd.R_lt (by exact HO415.out))) (Kd.R_lt (by exact HO430.out))) (Kd.R_lt (by exact HO442.out))) (Kd.R_lt (by exact HO445.out))) (Kd.R_lt (by exact HO448.out))) (below_size (zb HB)))
         have n22_ := Aside0.mk (Kd.N_lower (Kd.N_mono (ok' := fun _ => True) (Kd.S_N (Kd.S_bound ho3)) (fun _ _ => trivial)) (below_size (zb HB)))
         have n23_ := Aside0.mk (below_step (zb HB) hb)
         clear HO404
         clear HO409
         clear HO412
         clear HO415
         clear HO418
         clear HO423
         clear HO427
         clear HO430
         clear HO433
         clear HO437
         clear HO442
         clear HO445
         clear HO448
         clear HO451
         clear HO456
         clear HO460
         clear HO463
         clear HO467
         clear HO472
         clear HB
         have HO404 := n0_
         have HO409 := n1_
         have HO412 := n2_
         have HO415 := n3_
         have HO418 := n4_
         have HO423 := n5_
         have HO427 := n6_
         have HO430 := n7_
         have HO433 := n8_
         have HO437 := n9_
         have HO442 := n10_
         have HO445 := n11_
         have HO448 := n12_
         have HO451 := n13_
         have HO456 := n14_
         have HO460 := n15_
         have HO463 := n16_
         have HO467 := n17_
         have HO472 := n18_
         have HO477 := n19_
         have HO480 := n20_
         have HO483 := n21_
         have HO486 := n22_
         have HB := n23_
         clear n0_ n1_ n2_ n3_ n4_ n5_ n6_ n7_ n8_ n9_ n10_ n11_ n12_ n13_ n14_ n15_ n16_ n17_ n18_ n19_ n20_ n21_ n22_ n23_
         (try clear hb)
         (try clear ho0)
         (try clear ho1)
         (try clear ho2)
         (try clear ho3)
         obtain ⟨Ao56, co56, eo56⟩ := Kd.R_slice HO477.out
         (first | subst eo56 | (injection eo56 with f1_ f2_ f3_; have f4_ := f1_.symm; have f5_ := f3_.symm; clear f1_ f2_ f3_; subst f4_; subst f5_))
         obtain ⟨Ao57, co57, eo57⟩ := Kd.R_slice HO480.out
         (first | subst eo57 | (injection eo57 with f1_ f2_ f3_; have f4_ := f1_.symm; have f5_ := f3_.symm; clear f1_ f2_ f3_; subst f4_; subst f5_))
         obtain ⟨Ao58, co58, eo58⟩ := Kd.R_slice HO483.out
         (first | subst eo58 | (injection eo58 with f1_ f2_ f3_; have f4_ := f1_.symm; have f5_ := f3_.symm; clear f1_ f2_ f3_; subst f4_; subst f5_))
         obtain ⟨Ao59, co59, eo59⟩ := Kd.N_slice HO486.out
         (first | subst eo59 | (injection eo59 with f1_ f2_ f3_; have f4_ := f1_.symm; have f5_ := f3_.symm; clear f1_ f2_ f3_; subst f4_; subst f5_))
         refine hK.out _ _ trivial (fun hHeld => ?_)
         clear hK K
         refine norm_ (a' := ?_) ?_ ?_
         rotate_left
         ·show Act.put _ (some 39) _ = _
          simp only [Act.put, List.setIfInBounds_toArray, List.set_cons_zero, List.set_cons_succ, i64_w, i32_w]
          rfl
         refine one_ (i := 3) (N := some 40) (tf 4 5) rfl rfl (one_of HT_.out (by kernel_rfl)) (by decide) (fun K hK => ?_)
         refine goes_ Tryz.func14 (by kernel_rfl) rfl #[.slice A53 y468.length c53, .agg #[.bool t473, .bool t474, .slice Ao56 t475.length co56, .slice Ao57 t478.length co57, .slice Ao58 t481.length co58, .slice Ao59 t484.length co59, .bool t487, .bool t488], .bool true] (by rfl) rfl rfl zm ?_
         with_reducible refine (clean_Rows.calls k _ _ y468 t473 t474 _ _ t475 _ _ t478 _ _ t481 _ _ t484 t487 t488 true t489 t492 _ ?side1 ?side2 ?side3 ?side4 ?side5 ?side6 ?side7 ?side8 ?side9 ?side10 A14.out).mono ?_
         (case side1 => exact zc (Kd.V_reads' HO472.out).2.2)
         (case side2 => exact (Kd.V_reads' HO472.out).2.1)
         (case side3 => exact zc (Kd.R_reads' HO477.out).2.2)
         (case side4 => exact (Kd.R_reads' HO477.out).2.1)
         (case side5 => exact zc (Kd.R_reads' HO480.out).2.2)
         (case side6 => exact (Kd.R_reads' HO480.out).2.1)
         (case side7 => exact zc (Kd.R_reads' HO483.out).2.2)
         (case side8 => exact (Kd.R_reads' HO483.out).2.1)
         (case side9 => exact zc (Kd.N_reads' HO486.out).2.2)
         (case side10 => exact (Kd.N_reads' HO486.out).2.1)
         rintro e w60 ⟨v490, rfl, ho0, hb⟩
         refine ⟨_, rfl, ?_⟩
         have n0_ := Aside0.mk (Kd.N_elder' (by exact HO404.out) (zn ho0) hb)
         have n1_ := Aside0.mk (Kd.R_below (by exact HO409.out) hb)
         have n2_ := Aside0.mk (Kd.R_below (by exact HO412.out) hb)
         have n3_ := Aside0.mk (Kd.R_below (by exact HO415.out) hb)
         have n4_ := Aside0.mk (Kd.N_elder' (by exact HO418.out) (zn ho0) hb)
         have n5_ := Aside0.mk (Kd.N_elder' (by exact HO423.out) (zn ho0) hb)
         have n6_ := Aside0.mk (Kd.N_elder' (by exact HO427.out) (zn ho0) hb)
         have n7_ := Aside0.mk (Kd.R_below (by exact HO430.out) hb)
         have n8_ := Aside0.mk (Kd.N_elder' (by exact HO433.out) (zn ho0) hb)
         have n9_ := Aside0.mk (Kd.N_elder' (by exact HO437.out) (zn ho0) hb)
         have n10_ := Aside0.mk (Kd.R_below (by exact HO442.out) hb)
         have n11_ := Aside0.mk (Kd.R_below (by exact HO445.out) hb)
         have n12_ := Aside0.mk (Kd.R_below (by exact HO448.out) hb)
         have n13_ := Aside0.mk (Kd.N_elder' (by exact HO451.out) (zn ho0) hb)
         have n14_ := Aside0.mk (Kd.N_elder' (by exact HO456.out) (zn ho0) hb)
         have n15_ := Aside0.mk (Kd.N_elder' (by exact HO460.out) (zn ho0) hb)
         have n16_ := Aside0.mk (Kd.N_elder' (by exact HO463.out) (zn ho0) hb)
         have n17_ := Aside0.mk (Kd.N_elder' (by exact HO467.out) (zn ho0) hb)
         have n19_ := Aside0.mk (Kd.R_below (by exact HO477.out) hb)
         have n20_ := Aside0.mk (Kd.R_below (by exact HO480.out) hb)
         have n21_ := Aside0.mk (Kd.R_below (by exact HO483.out) hb)
         have n22_ := Aside0.mk (Kd.N_elder' (by exact HO486.out) (zn ho0) hb)
         have n23_ := Aside0.mk (Kd.N_lower (Kd.N_mono (ok' := fun _ => True) ho0 (fun _ _ => trivial)) (below_size (zb HB)))
         have n24_ := Aside0.mk (below_step (zb HB) hb)
         clear HO404
         clear HO409
         clear HO412
         clear HO415
         clear HO418
         clear HO423
         clear HO427
         clear HO430
         clear HO433
         clear HO437
         clear HO442
         clear HO445
         clear HO448
         clear HO451
         clear HO456
         clear HO460
         clear HO463
         clear HO467
         clear HO472
         clear HO477
         clear HO480
         clear HO483
         clear HO486
         clear HB
         have HO404 := n0_
         have HO409 := n1_
         have HO412 := n2_
         have HO415 := n3_
         have HO418 := n4_
         have HO423 := n5_
         have HO427 := n6_
         have HO430 := n7_
         have HO433 := n8_
         have HO437 := n9_
         have HO442 := n10_
         have HO445 := n11_
         have HO448 := n12_
         have HO451 := n13_
         have HO456 := n14_
         have HO460 := n15_
         have HO463 := n16_
         have HO467 := n17_
         have HO477 := n19_
         have HO480 := n20_
         have HO483 := n21_
         have HO486 := n22_
         have HO491 := n23_
         have HB := n24_
         clear n0_ n1_ n2_ n3_ n4_ n5_ n6_ n7_ n8_ n9_ n10_ n11_ n12_ n13_ n14_ n15_ n16_ n17_ n19_ n20_ n21_ n22_ n23_ n24_
         (try clear hb)
         (try clear ho0)
         refine hK.out _ _ trivial (fun hHeld => ?_)
         clear hK K
         refine norm_ (a' := ?_) ?_ ?_
         rotate_left
         ·show Act.put _ (some 40) _ = _
          simp only [Act.put, List.setIfInBounds_toArray, List.set_cons_zero, List.set_cons_succ, i64_w, i32_w]
          rfl
         refine pure_ (i := 4) (N := some 36) (v := ?_) (a' := ?_) (tf 5 4) rfl rfl (any_of HT_.out (by kernel_rfl)) (fun _ _ _ h => h) (Or.inl ⟨by rfl, ?_⟩) ?_ ?_
         rotate_left
         ·intro w'
          go_simp
          with_reducible rfl
         rotate_left
         ·simp only [Act.put, List.setIfInBounds_toArray, List.set_cons_zero, List.set_cons_succ, i64_w, i32_w]
          rfl
         refine pure_ (i := 5) (N := some 41) (v := ?_) (a' := ?_) (tf 6 3) rfl rfl (any_of HT_.out (by kernel_rfl)) (fun _ _ _ h => h) (Or.inl ⟨by rfl, ?_⟩) ?_ ?_
         rotate_left
         ·intro w'
          go_simp
          with_reducible rfl
         rotate_left
         ·simp only [Act.put, List.setIfInBounds_toArray, List.set_cons_zero, List.set_cons_succ, i64_w, i32_w]
          rfl
         refine pure_ (i := 6) (N := some 42) (v := ?_) (a' := ?_) (tf 7 2) rfl rfl (any_of HT_.out (by kernel_rfl)) (fun _ _ _ h => h) (Or.inl ⟨by rfl, ?_⟩) ?_ ?_
         rotate_left
         ·intro w'
          go_simp
          with_reducible rfl
         rotate_left
         ·simp only [Act.put, List.setIfInBounds_toArray, List.set_cons_zero, List.set_cons_succ, i64_w, i32_w]
          rfl
         refine pure_ (i := 7) (N := some 9) (v := ?_) (a' := ?_) (tf 8 1) rfl rfl (any_of HT_.out (by kernel_rfl)) (fun _ _ _ h => h) (Or.inl ⟨by rfl, ?_⟩) ?_ ?_
         rotate_left
         ·intro w'
          go_simp
          with_reducible rfl
         rotate_left
         ·simp only [Act.put, List.setIfInBounds_toArray, List.set_cons_zero, List.set_cons_succ, i64_w, i32_w]
          rfl
         refine pure_ (i := 8) (N := some 10) (v := ?_) (a' := ?_) (tf 9 0) rfl rfl (any_of HT_.out (by kernel_rfl)) (fun _ _ _ h => h) (Or.inl ⟨by rfl, ?_⟩) ?_ ?_
         rotate_left
         ·intro w'
          go_simp
          with_reducible rfl
         rotate_left
         ·simp only [Act.put, List.setIfInBounds_toArray, List.set_cons_zero, List.set_cons_succ, i64_w, i32_w]
          rfl
         refine done_ (done_of HT_.out (by kernel_rfl)) ?_
         try go_wp2_with (first | ((with_reducible refine gate_dst (N := 45) rfl ?_); (try (refine gate_guard (by rfl) ?_; dsimp only)); refine Kd.R_lit k45 _ 45 ?hg (N := 45) ?hd (xs := ([(⟨(⟨#[105, 100]⟩ : ByteArray), (⟨#[]⟩ : ByteArray)⟩ : S45)] : List (S45))) (inner := [.string (⟨#[105, 100]⟩ : ByteArray), .string (⟨#[]⟩ : ByteArray)]) (ok := fun _ => True) (okp := fun _ => True) ?hr ?hp (fun _ hk => hk) trivial (Below.refl _ _) (Nat.le_refl _) (by simp) ?_; (case hd => rfl); (case hg => rfl); (case hr => first | (go_simp; done) | (go_simp; rfl)); (case hp => exact (Reps.c2 (show Kd.M k45 _ _ _ (⟨(⟨#[105, 100]⟩ : ByteArray), (⟨#[]⟩ : ByteArray)⟩ : S45) [.string (⟨#[105, 100]⟩ : ByteArray), .string (⟨#[]⟩ : ByteArray)] from (k45_mkM _ _ _ (⟨(⟨#[105, 100]⟩ : ByteArray), (⟨#[]⟩ : ByteArray)⟩ : S45) )) (Reps.none _ _))); intro v494 w61 ho62 hb hg_ hnew_; clear hg_ hnew_; (first | rw [← Ny493.out] at ho62 | (simp only [Int.reduceToNat] at ho62; rw [← Ny493.out] at ho62)); have n0_ := Aside0.mk (Kd.N_elder' (by exact HO404.out) (Kd.R_base ho62) hb); have n1_ := Aside0.mk (Kd.R_below (by exact HO409.out) hb); have n2_ := Aside0.mk (Kd.R_below (by exact HO412.out) hb); have n3_ := Aside0.mk (Kd.R_below (by exact HO415.out) hb); have n4_ := Aside0.mk (Kd.N_elder' (by exact HO418.out) (Kd.R_base ho62) hb); have n5_ := Aside0.mk (Kd.N_elder' (by exact HO423.out) (Kd.R_base ho62) hb); have n6_ := Aside0.mk (Kd.N_elder' (by exact HO427.out) (Kd.R_base ho62) hb); have n7_ := Aside0.mk (Kd.R_below (by exact HO430.out) hb); have n8_ := Aside0.mk (Kd.N_elder' (by exact HO433.out) (Kd.R_base ho62) hb); have n9_ := Aside0.mk (Kd.N_elder' (by exact HO437.out) (Kd.R_base ho62) hb); have n10_ := Aside0.mk (Kd.R_below (by exact HO442.out) hb); have n11_ := Aside0.mk (Kd.R_below (by exact HO445.out) hb); have n12_ := Aside0.mk (Kd.R_below (by exact HO448.out) hb); have n13_ := Aside0.mk (Kd.N_elder' (by exact HO451.out) (Kd.R_base ho62) hb); have n14_ := Aside0.mk (Kd.N_elder' (by exact HO456.out) (Kd.R_base ho62) hb); have n15_ := Aside0.mk (Kd.N_elder' (by exact HO460.out) (Kd.R_base ho62) hb); have n16_ := Aside0.mk (Kd.N_elder' (by exact HO463.out) (Kd.R_base ho62) hb); have n17_ := Aside0.mk (Kd.N_elder' (by exact HO467.out) (Kd.R_base ho62) hb); have n19_ := Aside0.mk (Kd.R_below (by exact HO477.out) hb); have n20_ := Aside0.mk (Kd.R_below (by exact HO480.out) hb); have n21_ := Aside0.mk (Kd.R_below (by exact HO483.out) hb); have n22_ := Aside0.mk (Kd.N_elder' (by exact HO486.out) (Kd.R_base ho62) hb); have n23_ := Aside0.mk (Kd.N_elder' (by exact HO491.out) (Kd.R_base ho62) hb); have n24_ := Aside0.mk (Kd.R_lower ho62 (below_size (zb HB))); have n25_ := Aside0.mk (below_step (zb HB) hb); clear HO404; clear HO409; clear HO412; clear HO415; clear HO418; clear HO423; clear HO427; clear HO430; clear HO433; clear HO437; clear HO442; clear HO445; clear HO448; clear HO451; clear HO456; clear HO460; clear HO463; clear HO467; clear HO477; clear HO480; clear HO483; clear HO486; clear HO491; clear HB; have HO404 := n0_; have HO409 := n1_; have HO412 := n2_; have HO415 := n3_; have HO418 := n4_; have HO423 := n5_; have HO427 := n6_; have HO430 := n7_; have HO433 := n8_; have HO437 := n9_; have HO442 := n10_; have HO445 := n11_; have HO448 := n12_; have HO451 := n13_; have HO456 := n14_; have HO460 := n15_; have HO463 := n16_; have HO467 := n17_; have HO477 := n19_; have HO480 := n20_; have HO483 := n21_; have HO486 := n22_; have HO491 := n23_; have HO495 := n24_; have HB := n25_; clear n0_ n1_ n2_ n3_ n4_ n5_ n6_ n7_ n8_ n9_ n10_ n11_ n12_ n13_ n14_ n15_ n16_ n17_ n19_ n20_ n21_ n22_ n23_ n24_ n25_; clear hb ho62; obtain ⟨Ao63, co63, eo63⟩ := Kd.R_slice HO495.out; subst eo63) | ((with_reducible refine gate_dst (N := 48) rfl ?_); (try (refine gate_guard (by rfl) ?_; dsimp only)); refine Kd.N_lit k38 _ 38 ?hg (N' := 48) ?hd (xs := ([(⟨0, 0, (⟨#[98]⟩ : ByteArray), (⟨#[]⟩ : ByteArray), y493⟩ : S38), (⟨1, 1, (⟨#[]⟩ : ByteArray), (⟨#[97]⟩ : ByteArray), ([] : List (S45))⟩ : S38)] : List (S38))) (inner := [.int .i64 0, .int .i64 0, .string (⟨#[98]⟩ : ByteArray), .string (⟨#[]⟩ : ByteArray), .slice Ao63 y493.length co63, .int .i64 1, .int .i64 1, .string (⟨#[]⟩ : ByteArray), .string (⟨#[97]⟩ : ByteArray), .slice none 0 0]) (ok := (fun k_ => some k_ ≠ (.slice Ao28 t402.length co28 : Value).ownBlock ∧ some k_ ≠ (.slice Ao29 t407.length co29 : Value).ownBlock ∧ some k_ ≠ (.slice Ao30 t410.length co30 : Value).ownBlock ∧ some k_ ≠ (.slice Ao31 t413.length co31 : Value).ownBlock ∧ some k_ ≠ (.slice Ao32 t416.length co32 : Value).ownBlock ∧ some k_ ≠ (v422 : Value).ownBlock ∧ some k_ ≠ (.slice Ao38 t425.length co38 : Value).ownBlock ∧ some k_ ≠ (.slice Ao37 y428.length co37 : Value).ownBlock ∧ some k_ ≠ (v432 : Value).ownBlock ∧ some k_ ≠ (.slice Ao42 t435.length co42 : Value).ownBlock ∧ some k_ ≠ (.slice Ao43 t440.length co43 : Value).ownBlock ∧ some k_ ≠ (.slice Ao44 t443.length co44 : Value).ownBlock ∧ some k_ ≠ (.slice Ao45 t446.length co45 : Value).ownBlock ∧ some k_ ≠ (.slice Ao46 t449.length co46 : Value).ownBlock ∧ some k_ ≠ (v455 : Value).ownBlock ∧ some k_ ≠ (.slice Ao49 t458.length co49 : Value).ownBlock ∧ some k_ ≠ (v462 : Value).ownBlock ∧ some k_ ≠ (.slice Ao54 t465.length co54 : Value).ownBlock ∧ some k_ ≠ (.slice Ao56 t475.length co56 : Value).ownBlock ∧ some k_ ≠ (.slice Ao57 t478.length co57 : Value).ownBlock ∧ some k_ ≠ (.slice Ao58 t481.length co58 : Value).ownBlock ∧ some k_ ≠ (.slice Ao59 t484.length co59 : Value).ownBlock ∧ some k_ ≠ (v490 : Value).ownBlock)) (okp := (fun k_ => some k_ ≠ (.slice Ao28 t402.length co28 : Value).ownBlock ∧ some k_ ≠ (.slice Ao29 t407.length co29 : Value).ownBlock ∧ some k_ ≠ (.slice Ao30 t410.length co30 : Value).ownBlock ∧ some k_ ≠ (.slice Ao31 t413.length co31 : Value).ownBlock ∧ some k_ ≠ (.slice Ao32 t416.length co32 : Value).ownBlock ∧ some k_ ≠ (v422 : Value).ownBlock ∧ some k_ ≠ (.slice Ao38 t425.length co38 : Value).ownBlock ∧ some k_ ≠ (.slice Ao37 y428.length co37 : Value).ownBlock ∧ some k_ ≠ (v432 : Value).ownBlock ∧ some k_ ≠ (.slice Ao42 t435.length co42 : Value).ownBlock ∧ some k_ ≠ (.slice Ao43 t440.length co43 : Value).ownBlock ∧ some k_ ≠ (.slice Ao44 t443.length co44 : Value).ownBlock ∧ some k_ ≠ (.slice Ao45 t446.length co45 : Value).ownBlock ∧ some k_ ≠ (.slice Ao46 t449.length co46 : Value).ownBlock ∧ some k_ ≠ (v455 : Value).ownBlock ∧ some k_ ≠ (.slice Ao49 t458.length co49 : Value).ownBlock ∧ some k_ ≠ (v462 : Value).ownBlock ∧ some k_ ≠ (.slice Ao54 t465.length co54 : Value).ownBlock ∧ some k_ ≠ (.slice Ao56 t475.length co56 : Value).ownBlock ∧ some k_ ≠ (.slice Ao57 t478.length co57 : Value).ownBlock ∧ some k_ ≠ (.slice Ao58 t481.length co58 : Value).ownBlock ∧ some k_ ≠ (.slice Ao59 t484.length co59 : Value).ownBlock ∧ some k_ ≠ (v490 : Value).ownBlock)) ?hr ?hp (fun _ hk => hk) ((show ∀ k_, w61.heap.size ≤ k_ → (fun k_ => some k_ ≠ (.slice Ao28 t402.length co28 : Value).ownBlock ∧ some k_ ≠ (.slice Ao29 t407.length co29 : Value).ownBlock ∧ some k_ ≠ (.slice Ao30 t410.length co30 : Value).ownBlock ∧ some k_ ≠ (.slice Ao31 t413.length co31 : Value).ownBlock ∧ some k_ ≠ (.slice Ao32 t416.length co32 : Value).ownBlock ∧ some k_ ≠ (v422 : Value).ownBlock ∧ some k_ ≠ (.slice Ao38 t425.length co38 : Value).ownBlock ∧ some k_ ≠ (.slice Ao37 y428.length co37 : Value).ownBlock ∧ some k_ ≠ (v432 : Value).ownBlock ∧ some k_ ≠ (.slice Ao42 t435.length co42 : Value).ownBlock ∧ some k_ ≠ (.slice Ao43 t440.length co43 : Value).ownBlock ∧ some k_ ≠ (.slice Ao44 t443.length co44 : Value).ownBlock ∧ some k_ ≠ (.slice Ao45 t446.length co45 : Value).ownBlock ∧ some k_ ≠ (.slice Ao46 t449.length co46 : Value).ownBlock ∧ some k_ ≠ (v455 : Value).ownBlock ∧ some k_ ≠ (.slice Ao49 t458.length co49 : Value).ownBlock ∧ some k_ ≠ (v462 : Value).ownBlock ∧ some k_ ≠ (.slice Ao54 t465.length co54 : Value).ownBlock ∧ some k_ ≠ (.slice Ao56 t475.length co56 : Value).ownBlock ∧ some k_ ≠ (.slice Ao57 t478.length co57 : Value).ownBlock ∧ some k_ ≠ (.slice Ao58 t481.length co58 : Value).ownBlock ∧ some k_ ≠ (.slice Ao59 t484.length co59 : Value).ownBlock ∧ some k_ ≠ (v490 : Value).ownBlock) k_ from fun k_ hk => ⟨Kd.fresh' (Kd.N_lt (by exact HO404.out)) k_ hk, Kd.fresh' (Kd.R_lt (by exact HO409.out)) k_ hk, Kd.fresh' (Kd.R_lt (by exact HO412.out)) k_ hk, Kd.fresh' (Kd.R_lt (by exact HO415.out)) k_ hk, Kd.fresh' (Kd.N_lt (by exact HO418.out)) k_ hk, Kd.fresh' (Kd.N_lt (by exact HO423.out)) k_ hk, Kd.fresh' (Kd.N_lt (by exact HO427.out)) k_ hk, Kd.fresh' (Kd.R_lt (by exact HO430.out)) k_ hk, Kd.fresh' (Kd.N_lt (by exact HO433.out)) k_ hk, Kd.fresh' (Kd.N_lt (by exact HO437.out)) k_ hk, Kd.fresh' (Kd.R_lt (by exact HO442.out)) k_ hk, Kd.fresh' (Kd.R_lt (by exact HO445.out)) k_ hk, Kd.fresh' (Kd.R_lt (by exact HO448.out)) k_ hk, Kd.fresh' (Kd.N_lt (by exact HO451.out)) k_ hk, Kd.fresh' (Kd.N_lt (by exact HO456.out)) k_ hk, Kd.fresh' (Kd.N_lt (by exact HO460.out)) k_ hk, Kd.fresh' (Kd.N_lt (by exact HO463.out)) k_ hk, Kd.fresh' (Kd.N_lt (by exact HO467.out)) k_ hk, Kd.fresh' (Kd.R_lt (by exact HO477.out)) k_ hk, Kd.fresh' (Kd.R_lt (by exact HO480.out)) k_ hk, Kd.fresh' (Kd.R_lt (by exact HO483.out)) k_ hk, Kd.fresh' (Kd.N_lt (by exact HO486.out)) k_ hk, Kd.fresh' (Kd.N_lt (by exact HO491.out)) k_ hk⟩) _ (Nat.le_refl _)) (Below.refl _ _) (Nat.le_refl _) (by simp) ?_; (case hd => rfl); (case hg => rfl); (case hr => first | (go_simp; done) | (go_simp; rfl)); (case hp => exact (Reps.c5 (show Kd.FK k38 _ _ (⟨0, 0, (⟨#[98]⟩ : ByteArray), (⟨#[]⟩ : ByteArray), y493⟩ : S38) [.int .i64 0, .int .i64 0, .string (⟨#[98]⟩ : ByteArray), .string (⟨#[]⟩ : ByteArray), .slice Ao63 y493.length co63] from (k38_mkF _ _ (⟨0, 0, (⟨#[98]⟩ : ByteArray), (⟨#[]⟩ : ByteArray), y493⟩ : S38) (Kd.R_reads' (Kd.R_mono (ok' := (fun k_ => some k_ ≠ (.slice Ao28 t402.length co28 : Value).ownBlock ∧ some k_ ≠ (.slice Ao29 t407.length co29 : Value).ownBlock ∧ some k_ ≠ (.slice Ao30 t410.length co30 : Value).ownBlock ∧ some k_ ≠ (.slice Ao31 t413.length co31 : Value).ownBlock ∧ some k_ ≠ (.slice Ao32 t416.length co32 : Value).ownBlock ∧ some k_ ≠ (v422 : Value).ownBlock ∧ some k_ ≠ (.slice Ao38 t425.length co38 : Value).ownBlock ∧ some k_ ≠ (.slice Ao37 y428.length co37 : Value).ownBlock ∧ some k_ ≠ (v432 : Value).ownBlock ∧ some k_ ≠ (.slice Ao42 t435.length co42 : Value).ownBlock ∧ some k_ ≠ (.slice Ao43 t440.length co43 : Value).ownBlock ∧ some k_ ≠ (.slice Ao44 t443.length co44 : Value).ownBlock ∧ some k_ ≠ (.slice Ao45 t446.length co45 : Value).ownBlock ∧ some k_ ≠ (.slice Ao46 t449.length co46 : Value).ownBlock ∧ some k_ ≠ (v455 : Value).ownBlock ∧ some k_ ≠ (.slice Ao49 t458.length co49 : Value).ownBlock ∧ some k_ ≠ (v462 : Value).ownBlock ∧ some k_ ≠ (.slice Ao54 t465.length co54 : Value).ownBlock ∧ some k_ ≠ (.slice Ao56 t475.length co56 : Value).ownBlock ∧ some k_ ≠ (.slice Ao57 t478.length co57 : Value).ownBlock ∧ some k_ ≠ (.slice Ao58 t481.length co58 : Value).ownBlock ∧ some k_ ≠ (.slice Ao59 t484.length co59 : Value).ownBlock ∧ some k_ ≠ (v490 : Value).ownBlock)) (Kd.R_apart' (Kd.R_apart' (Kd.R_apart' (Kd.R_apart' (Kd.R_apart' (Kd.R_apart' (Kd.R_apart' (Kd.R_apart' (Kd.R_apart' (Kd.R_apart' (Kd.R_apart' (Kd.R_apart' (Kd.R_apart' (Kd.R_apart' (Kd.R_apart' (Kd.R_apart' (Kd.R_apart' (Kd.R_apart' (Kd.R_apart' (Kd.R_apart' (Kd.R_apart' (Kd.R_apart' (Kd.R_apart' (HO495.out) (Kd.N_typed HO404.out) (by decide)) (Kd.R_typed HO409.out) (by decide)) (Kd.R_typed HO412.out) (by decide)) (Kd.R_typed HO415.out) (by decide)) (Kd.N_typed HO418.out) (by decide)) (Kd.N_typed HO423.out) (by decide)) (Kd.N_typed HO427.out) (by decide)) (Kd.R_typed HO430.out) (by decide)) (Kd.N_typed HO433.out) (by decide)) (Kd.N_typed HO437.out) (by decide)) (Kd.R_typed HO442.out) (by decide)) (Kd.R_typed HO445.out) (by decide)) (Kd.R_typed HO448.out) (by decide)) (Kd.N_typed HO451.out) (by decide)) (Kd.N_typed HO456.out) (by decide)) (Kd.N_typed HO460.out) (by decide)) (Kd.N_typed HO463.out) (by decide)) (Kd.N_typed HO467.out) (by decide)) (Kd.R_typed HO477.out) (by decide)) (Kd.R_typed HO480.out) (by decide)) (Kd.R_typed HO483.out) (by decide)) (Kd.N_typed HO486.out) (by decide)) (Kd.N_typed HO491.out) (by decide)) (fun k_ hk => ⟨hk.1.1.1.1.1.1.1.1.1.1.1.1.1.1.1.1.1.1.1.1.1.1.2, ⟨hk.1.1.1.1.1.1.1.1.1.1.1.1.1.1.1.1.1.1.1.1.1.2, ⟨hk.1.1.1.1.1.1.1.1.1.1.1.1.1.1.1.1.1.1.1.1.2, ⟨hk.1.1.1.1.1.1.1.1.1.1.1.1.1.1.1.1.1.1.1.2, ⟨hk.1.1.1.1.1.1.1.1.1.1.1.1.1.1.1.1.1.1.2, ⟨hk.1.1.1.1.1.1.1.1.1.1.1.1.1.1.1.1.1.2, ⟨hk.1.1.1.1.1.1.1.1.1.1.1.1.1.1.1.1.2, ⟨hk.1.1.1.1.1.1.1.1.1.1.1.1.1.1.1.2, ⟨hk.1.1.1.1.1.1.1.1.1.1.1.1.1.1.2, ⟨hk.1.1.1.1.1.1.1.1.1.1.1.1.1.2, ⟨hk.1.1.1.1.1.1.1.1.1.1.1.1.2, ⟨hk.1.1.1.1.1.1.1.1.1.1.1.2, ⟨hk.1.1.1.1.1.1.1.1.1.1.2, ⟨hk.1.1.1.1.1.1.1.1.1.2, ⟨hk.1.1.1.1.1.1.1.1.2, ⟨hk.1.1.1.1.1.1.1.2, ⟨hk.1.1.1.1.1.1.2, ⟨hk.1.1.1.1.1.2, ⟨hk.1.1.1.1.2, ⟨hk.1.1.1.2, ⟨hk.1.1.2, ⟨hk.1.2, hk.2⟩⟩⟩⟩⟩⟩⟩⟩⟩⟩⟩⟩⟩⟩⟩⟩⟩⟩⟩⟩⟩⟩))).2.1 (Kd.R_F (Kd.R_mono (ok' := (fun k_ => some k_ ≠ (.slice Ao28 t402.length co28 : Value).ownBlock ∧ some k_ ≠ (.slice Ao29 t407.length co29 : Value).ownBlock ∧ some k_ ≠ (.slice Ao30 t410.length co30 : Value).ownBlock ∧ some k_ ≠ (.slice Ao31 t413.length co31 : Value).ownBlock ∧ some k_ ≠ (.slice Ao32 t416.length co32 : Value).ownBlock ∧ some k_ ≠ (v422 : Value).ownBlock ∧ some k_ ≠ (.slice Ao38 t425.length co38 : Value).ownBlock ∧ some k_ ≠ (.slice Ao37 y428.length co37 : Value).ownBlock ∧ some k_ ≠ (v432 : Value).ownBlock ∧ some k_ ≠ (.slice Ao42 t435.length co42 : Value).ownBlock ∧ some k_ ≠ (.slice Ao43 t440.length co43 : Value).ownBlock ∧ some k_ ≠ (.slice Ao44 t443.length co44 : Value).ownBlock ∧ some k_ ≠ (.slice Ao45 t446.length co45 : Value).ownBlock ∧ some k_ ≠ (.slice Ao46 t449.length co46 : Value).ownBlock ∧ some k_ ≠ (v455 : Value).ownBlock ∧ some k_ ≠ (.slice Ao49 t458.length co49 : Value).ownBlock ∧ some k_ ≠ (v462 : Value).ownBlock ∧ some k_ ≠ (.slice Ao54 t465.length co54 : Value).ownBlock ∧ some k_ ≠ (.slice Ao56 t475.length co56 : Value).ownBlock ∧ some k_ ≠ (.slice Ao57 t478.length co57 : Value).ownBlock ∧ some k_ ≠ (.slice Ao58 t481.length co58 : Value).ownBlock ∧ some k_ ≠ (.slice Ao59 t484.length co59 : Value).ownBlock ∧ some k_ ≠ (v490 : Value).ownBlock)) (Kd.R_apart' (Kd.R_apart' (Kd.R_apart' (Kd.R_apart' (Kd.R_apart' (Kd.R_apart' (Kd.R_apart' (Kd.R_apart' (Kd.R_apart' (Kd.R_apart' (Kd.R_apart' (Kd.R_apart' (Kd.R_apart' (Kd.R_apart' (Kd.R_apart' (Kd.R_apart' (Kd.R_apart' (Kd.R_apart' (Kd.R_apart' (Kd.R_apart' (Kd.R_apart' (Kd.R_apart' (Kd.R_apart' (HO495.out) (Kd.N_typed HO404.out) (by decide)) (Kd.R_typed HO409.out) (by decide)) (Kd.R_typed HO412.out) (by decide)) (Kd.R_typed HO415.out) (by decide)) (Kd.N_typed HO418.out) (by decide)) (Kd.N_typed HO423.out) (by decide)) (Kd.N_typed HO427.out) (by decide)) (Kd.R_typed HO430.out) (by decide)) (Kd.N_typed HO433.out) (by decide)) (Kd.N_typed HO437.out) (by decide)) (Kd.R_typed HO442.out) (by decide)) (Kd.R_typed HO445.out) (by decide)) (Kd.R_typed HO448.out) (by decide)) (Kd.N_typed HO451.out) (by decide)) (Kd.N_typed HO456.out) (by decide)) (Kd.N_typed HO460.out) (by decide)) (Kd.N_typed HO463.out) (by decide)) (Kd.N_typed HO467.out) (by decide)) (Kd.R_typed HO477.out) (by decide)) (Kd.R_typed HO480.out) (by decide)) (Kd.R_typed HO483.out) (by decide)) (Kd.N_typed HO486.out) (by decide)) (Kd.N_typed HO491.out) (by decide)) (fun k_ hk => ⟨hk.1.1.1.1.1.1.1.1.1.1.1.1.1.1.1.1.1.1.1.1.1.1.2, ⟨hk.1.1.1.1.1.1.1.1.1.1.1.1.1.1.1.1.1.1.1.1.1.2, ⟨hk.1.1.1.1.1.1.1.1.1.1.1.1.1.1.1.1.1.1.1.1.2, ⟨hk.1.1.1.1.1.1.1.1.1.1.1.1.1.1.1.1.1.1.1.2, ⟨hk.1.1.1.1.1.1.1.1.1.1.1.1.1.1.1.1.1.1.2, ⟨hk.1.1.1.1.1.1.1.1.1.1.1.1.1.1.1.1.1.2, ⟨hk.1.1.1.1.1.1.1.1.1.1.1.1.1.1.1.1.2, ⟨hk.1.1.1.1.1.1.1.1.1.1.1.1.1.1.1.2, ⟨hk.1.1.1.1.1.1.1.1.1.1.1.1.1.1.2, ⟨hk.1.1.1.1.1.1.1.1.1.1.1.1.1.2, ⟨hk.1.1.1.1.1.1.1.1.1.1.1.1.2, ⟨hk.1.1.1.1.1.1.1.1.1.1.1.2, ⟨hk.1.1.1.1.1.1.1.1.1.1.2, ⟨hk.1.1.1.1.1.1.1.1.1.2, ⟨hk.1.1.1.1.1.1.1.1.2, ⟨hk.1.1.1.1.1.1.1.2, ⟨hk.1.1.1.1.1.1.2, ⟨hk.1.1.1.1.1.2, ⟨hk.1.1.1.1.2, ⟨hk.1.1.1.2, ⟨hk.1.1.2, ⟨hk.1.2, hk.2⟩⟩⟩⟩⟩⟩⟩⟩⟩⟩⟩⟩⟩⟩⟩⟩⟩⟩⟩⟩⟩⟩))))) (Reps.c5 (show Kd.FK k38 _ _ (⟨1, 1, (⟨#[]⟩ : ByteArray), (⟨#[97]⟩ : ByteArray), ([] : List (S45))⟩ : S38) [.int .i64 1, .int .i64 1, .string (⟨#[]⟩ : ByteArray), .string (⟨#[97]⟩ : ByteArray), .slice none 0 0] from (k38_mkF _ _ (⟨1, 1, (⟨#[]⟩ : ByteArray), (⟨#[97]⟩ : ByteArray), ([] : List (S45))⟩ : S38) (Nat.le_refl _) (Kd.F_nil _ _ _))) (Reps.none _ _)))); intro v497 w64 ho65 hb hg_ hnew_; clear hg_ hnew_; (first | rw [← Ny496.out] at ho65 | (simp only [Int.reduceToNat] at ho65; rw [← Ny496.out] at ho65)); have n0_ := Aside0.mk (Kd.N_elder' (by exact HO404.out) (by first | exact Kd.N_base ho65 | exact Kd.N_base (Kd.S_N ho65) | exact Kd.N_base (Kd.S_N (Kd.S_bound ho65))) hb); have n1_ := Aside0.mk (Kd.R_below (by exact HO409.out) hb); have n2_ := Aside0.mk (Kd.R_below (by exact HO412.out) hb); have n3_ := Aside0.mk (Kd.R_below (by exact HO415.out) hb); have n4_ := Aside0.mk (Kd.N_elder' (by exact HO418.out) (by first | exact Kd.N_base ho65 | exact Kd.N_base (Kd.S_N ho65) | exact Kd.N_base (Kd.S_N (Kd.S_bound ho65))) hb); have n5_ := Aside0.mk (Kd.N_elder' (by exact HO423.out) (by first | exact Kd.N_base ho65 | exact Kd.N_base (Kd.S_N ho65) | exact Kd.N_base (Kd.S_N (Kd.S_bound ho65))) hb); have n6_ := Aside0.mk (Kd.N_elder' (by exact HO427.out) (by first | exact Kd.N_base ho65 | exact Kd.N_base (Kd.S_N ho65) | exact Kd.N_base (Kd.S_N (Kd.S_bound ho65))) hb); have n7_ := Aside0.mk (Kd.R_below (by exact HO430.out) hb); have n8_ := Aside0.mk (Kd.N_elder' (by exact HO433.out) (by first | exact Kd.N_base ho65 | exact Kd.N_base (Kd.S_N ho65) | exact Kd.N_base (Kd.S_N (Kd.S_bound ho65))) hb); have n9_ := Aside0.mk (Kd.N_elder' (by exact HO437.out) (by first | exact Kd.N_base ho65 | exact Kd.N_base (Kd.S_N ho65) | exact Kd.N_base (Kd.S_N (Kd.S_bound ho65))) hb); have n10_ := Aside0.mk (Kd.R_below (by exact HO442.out) hb); have n11_ := Aside0.mk (Kd.R_below (by exact HO445.out) hb); have n12_ := Aside0.mk (Kd.R_below (by exact HO448.out) hb); have n13_ := Aside0.mk (Kd.N_elder' (by exact HO451.out) (by first | exact Kd.N_base ho65 | exact Kd.N_base (Kd.S_N ho65) | exact Kd.N_base (Kd.S_N (Kd.S_bound ho65))) hb); have n14_ := Aside0.mk (Kd.N_elder' (by exact HO456.out) (by first | exact Kd.N_base ho65 | exact Kd.N_base (Kd.S_N ho65) | exact Kd.N_base (Kd.S_N (Kd.S_bound ho65))) hb); have n15_ := Aside0.mk (Kd.N_elder' (by exact HO460.out) (by first | exact Kd.N_base ho65 | exact Kd.N_base (Kd.S_N ho65) | exact Kd.N_base (Kd.S_N (Kd.S_bound ho65))) hb); have n16_ := Aside0.mk (Kd.N_elder' (by exact HO463.out) (by first | exact Kd.N_base ho65 | exact Kd.N_base (Kd.S_N ho65) | exact Kd.N_base (Kd.S_N (Kd.S_bound ho65))) hb); have n17_ := Aside0.mk (Kd.N_elder' (by exact HO467.out) (by first | exact Kd.N_base ho65 | exact Kd.N_base (Kd.S_N ho65) | exact Kd.N_base (Kd.S_N (Kd.S_bound ho65))) hb); have n19_ := Aside0.mk (Kd.R_below (by exact HO477.out) hb); have n20_ := Aside0.mk (Kd.R_below (by exact HO480.out) hb); have n21_ := Aside0.mk (Kd.R_below (by exact HO483.out) hb); have n22_ := Aside0.mk (Kd.N_elder' (by exact HO486.out) (by first | exact Kd.N_base ho65 | exact Kd.N_base (Kd.S_N ho65) | exact Kd.N_base (Kd.S_N (Kd.S_bound ho65))) hb); have n23_ := Aside0.mk (Kd.N_elder' (by exact HO491.out) (by first | exact Kd.N_base ho65 | exact Kd.N_base (Kd.S_N ho65) | exact Kd.N_base (Kd.S_N (Kd.S_bound ho65))) hb); have n24_ := Aside0.mk (Kd.N_lower ho65 (below_size (zb HB))); have n25_ := Aside0.mk (below_step (zb HB) hb); clear HO404; clear HO409; clear HO412; clear HO415; clear HO418; clear HO423; clear HO427; clear HO430; clear HO433; clear HO437; clear HO442; clear HO445; clear HO448; clear HO451; clear HO456; clear HO460; clear HO463; clear HO467; clear HO477; clear HO480; clear HO483; clear HO486; clear HO491; clear HB; clear HO495; have HO404 := n0_; have HO409 := n1_; have HO412 := n2_; have HO415 := n3_; have HO418 := n4_; have HO423 := n5_; have HO427 := n6_; have HO430 := n7_; have HO433 := n8_; have HO437 := n9_; have HO442 := n10_; have HO445 := n11_; have HO448 := n12_; have HO451 := n13_; have HO456 := n14_; have HO460 := n15_; have HO463 := n16_; have HO467 := n17_; have HO477 := n19_; have HO480 := n20_; have HO483 := n21_; have HO486 := n22_; have HO491 := n23_; have HO498 := n24_; have HB := n25_; clear n0_ n1_ n2_ n3_ n4_ n5_ n6_ n7_ n8_ n9_ n10_ n11_ n12_ n13_ n14_ n15_ n16_ n17_ n19_ n20_ n21_ n22_ n23_ n24_ n25_; clear hb ho65; obtain ⟨Ao66, co66, eo66⟩ := Kd.N_slice HO423.out; subst eo66; obtain ⟨Ao67, co67, eo67⟩ := Kd.N_slice HO498.out; subst eo67) | ((with_reducible refine gate_callee (f := 16) rfl ?_); refine goesL_ (some 49) rfl rfl Tryz.func16 (by kernel_rfl) rfl #[.slice Ao66 t421.length co66, .slice Ao67 y496.length co67] rfl zm ?_; (with_reducible refine (boltingref04_Same.calls k _ _ t421 _ _ y496 true _ ?side1 ?side2 ?side3 ?side4 A15.out).mono ?_); (case side1 => exact zc (Kd.N_reads' HO423.out).2.2); (case side2 => exact (Kd.N_reads' HO423.out).2.1); (case side3 => exact zc (Kd.N_reads' HO498.out).2.2); (case side4 => exact (Kd.N_reads' HO498.out).2.1); rintro e w68 ⟨rfl, hb⟩; refine ⟨_, rfl, ?_⟩; have n0_ := Aside0.mk (Kd.N_below (by exact HO404.out) hb); have n1_ := Aside0.mk (Kd.R_below (by exact HO409.out) hb); have n2_ := Aside0.mk (Kd.R_below (by exact HO412.out) hb); have n3_ := Aside0.mk (Kd.R_below (by exact HO415.out) hb); have n4_ := Aside0.mk (Kd.N_below (by exact HO418.out) hb); have n5_ := Aside0.mk (Kd.N_below (by exact HO423.out) hb); have n6_ := Aside0.mk (Kd.N_below (by exact HO427.out) hb); have n7_ := Aside0.mk (Kd.R_below (by exact HO430.out) hb); have n8_ := Aside0.mk (Kd.N_below (by exact HO433.out) hb); have n9_ := Aside0.mk (Kd.N_below (by exact HO437.out) hb); have n10_ := Aside0.mk (Kd.R_below (by exact HO442.out) hb); have n11_ := Aside0.mk (Kd.R_below (by exact HO445.out) hb); have n12_ := Aside0.mk (Kd.R_below (by exact HO448.out) hb); have n13_ := Aside0.mk (Kd.N_below (by exact HO451.out) hb); have n14_ := Aside0.mk (Kd.N_below (by exact HO456.out) hb); have n15_ := Aside0.mk (Kd.N_below (by exact HO460.out) hb); have n16_ := Aside0.mk (Kd.N_below (by exact HO463.out) hb); have n17_ := Aside0.mk (Kd.N_below (by exact HO467.out) hb); have n19_ := Aside0.mk (Kd.R_below (by exact HO477.out) hb); have n20_ := Aside0.mk (Kd.R_below (by exact HO480.out) hb); have n21_ := Aside0.mk (Kd.R_below (by exact HO483.out) hb); have n22_ := Aside0.mk (Kd.N_below (by exact HO486.out) hb); have n23_ := Aside0.mk (Kd.N_below (by exact HO491.out) hb); have n24_ := Aside0.mk (Kd.N_below (by exact HO498.out) hb); have n25_ := Aside0.mk (below_step (zb HB) hb); clear HO404; clear HO409; clear HO412; clear HO415; clear HO418; clear HO423; clear HO427; clear HO430; clear HO433; clear HO437; clear HO442; clear HO445; clear HO448; clear HO451; clear HO456; clear HO460; clear HO463; clear HO467; clear HO477; clear HO480; clear HO483; clear HO486; clear HO491; clear HO498; clear HB; have HO404 := n0_; have HO409 := n1_; have HO412 := n2_; have HO415 := n3_; have HO418 := n4_; have HO423 := n5_; have HO427 := n6_; have HO430 := n7_; have HO433 := n8_; have HO437 := n9_; have HO442 := n10_; have HO445 := n11_; have HO448 := n12_; have HO451 := n13_; have HO456 := n14_; have HO460 := n15_; have HO463 := n16_; have HO467 := n17_; have HO477 := n19_; have HO480 := n20_; have HO483 := n21_; have HO486 := n22_; have HO491 := n23_; have HO498 := n24_; have HB := n25_; clear n0_ n1_ n2_ n3_ n4_ n5_ n6_ n7_ n8_ n9_ n10_ n11_ n12_ n13_ n14_ n15_ n16_ n17_ n19_ n20_ n21_ n22_ n23_ n24_ n25_; (try clear hb)) | ((with_reducible refine gate_dst (N := 57) rfl ?_); (try (refine gate_guard (by rfl) ?_; dsimp only)); refine Kd.N_lit k38 _ 38 ?hg (N' := 57) ?hd (xs := ([(⟨0, 1, (⟨#[]⟩ : ByteArray), (⟨#[97]⟩ : ByteArray), ([] : List (S45))⟩ : S38)] : List (S38))) (inner := [.int .i64 0, .int .i64 1, .string (⟨#[]⟩ : ByteArray), .string (⟨#[97]⟩ : ByteArray), .slice none 0 0]) (ok := (fun k_ => some k_ ≠ (.slice Ao28 t402.length co28 : Value).ownBlock ∧ some k_ ≠ (.slice Ao29 t407.length co29 : Value).ownBlock ∧ some k_ ≠ (.slice Ao30 t410.length co30 : Value).ownBlock ∧ some k_ ≠ (.slice Ao31 t413.length co31 : Value).ownBlock ∧ some k_ ≠ (.slice Ao32 t416.length co32 : Value).ownBlock ∧ some k_ ≠ (.slice Ao66 t421.length co66 : Value).ownBlock ∧ some k_ ≠ (.slice Ao38 t425.length co38 : Value).ownBlock ∧ some k_ ≠ (.slice Ao37 y428.length co37 : Value).ownBlock ∧ some k_ ≠ (v432 : Value).ownBlock ∧ some k_ ≠ (.slice Ao42 t435.length co42 : Value).ownBlock ∧ some k_ ≠ (.slice Ao43 t440.length co43 : Value).ownBlock ∧ some k_ ≠ (.slice Ao44 t443.length co44 : Value).ownBlock ∧ some k_ ≠ (.slice Ao45 t446.length co45 : Value).ownBlock ∧ some k_ ≠ (.slice Ao46 t449.length co46 : Value).ownBlock ∧ some k_ ≠ (v455 : Value).ownBlock ∧ some k_ ≠ (.slice Ao49 t458.length co49 : Value).ownBlock ∧ some k_ ≠ (v462 : Value).ownBlock ∧ some k_ ≠ (.slice Ao54 t465.length co54 : Value).ownBlock ∧ some k_ ≠ (.slice Ao56 t475.length co56 : Value).ownBlock ∧ some k_ ≠ (.slice Ao57 t478.length co57 : Value).ownBlock ∧ some k_ ≠ (.slice Ao58 t481.length co58 : Value).ownBlock ∧ some k_ ≠ (.slice Ao59 t484.length co59 : Value).ownBlock ∧ some k_ ≠ (v490 : Value).ownBlock ∧ some k_ ≠ (.slice Ao67 y496.length co67 : Value).ownBlock)) (okp := (fun k_ => some k_ ≠ (.slice Ao28 t402.length co28 : Value).ownBlock ∧ some k_ ≠ (.slice Ao29 t407.length co29 : Value).ownBlock ∧ some k_ ≠ (.slice Ao30 t410.length co30 : Value).ownBlock ∧ some k_ ≠ (.slice Ao31 t413.length co31 : Value).ownBlock ∧ some k_ ≠ (.slice Ao32 t416.length co32 : Value).ownBlock ∧ some k_ ≠ (.slice Ao66 t421.length co66 : Value).ownBlock ∧ some k_ ≠ (.slice Ao38 t425.length co38 : Value).ownBlock ∧ some k_ ≠ (.slice Ao37 y428.length co37 : Value).ownBlock ∧ some k_ ≠ (v432 : Value).ownBlock ∧ some k_ ≠ (.slice Ao42 t435.length co42 : Value).ownBlock ∧ some k_ ≠ (.slice Ao43 t440.length co43 : Value).ownBlock ∧ some k_ ≠ (.slice Ao44 t443.length co44 : Value).ownBlock ∧ some k_ ≠ (.slice Ao45 t446.length co45 : Value).ownBlock ∧ some k_ ≠ (.slice Ao46 t449.length co46 : Value).ownBlock ∧ some k_ ≠ (v455 : Value).ownBlock ∧ some k_ ≠ (.slice Ao49 t458.length co49 : Value).ownBlock ∧ some k_ ≠ (v462 : Value).ownBlock ∧ some k_ ≠ (.slice Ao54 t465.length co54 : Value).ownBlock ∧ some k_ ≠ (.slice Ao56 t475.length co56 : Value).ownBlock ∧ some k_ ≠ (.slice Ao57 t478.length co57 : Value).ownBlock ∧ some k_ ≠ (.slice Ao58 t481.length co58 : Value).ownBlock ∧ some k_ ≠ (.slice Ao59 t484.length co59 : Value).ownBlock ∧ some k_ ≠ (v490 : Value).ownBlock ∧ some k_ ≠ (.slice Ao67 y496.length co67 : Value).ownBlock)) ?hr ?hp (fun _ hk => hk) ((show ∀ k_, w68.heap.size ≤ k_ → (fun k_ => some k_ ≠ (.slice Ao28 t402.length co28 : Value).ownBlock ∧ some k_ ≠ (.slice Ao29 t407.length co29 : Value).ownBlock ∧ some k_ ≠ (.slice Ao30 t410.length co30 : Value).ownBlock ∧ some k_ ≠ (.slice Ao31 t413.length co31 : Value).ownBlock ∧ some k_ ≠ (.slice Ao32 t416.length co32 : Value).ownBlock ∧ some k_ ≠ (.slice Ao66 t421.length co66 : Value).ownBlock ∧ some k_ ≠ (.slice Ao38 t425.length co38 : Value).ownBlock ∧ some k_ ≠ (.slice Ao37 y428.length co37 : Value).ownBlock ∧ some k_ ≠ (v432 : Value).ownBlock ∧ some k_ ≠ (.slice Ao42 t435.length co42 : Value).ownBlock ∧ some k_ ≠ (.slice Ao43 t440.length co43 : Value).ownBlock ∧ some k_ ≠ (.slice Ao44 t443.length co44 : Value).ownBlock ∧ some k_ ≠ (.slice Ao45 t446.length co45 : Value).ownBlock ∧ some k_ ≠ (.slice Ao46 t449.length co46 : Value).ownBlock ∧ some k_ ≠ (v455 : Value).ownBlock ∧ some k_ ≠ (.slice Ao49 t458.length co49 : Value).ownBlock ∧ some k_ ≠ (v462 : Value).ownBlock ∧ some k_ ≠ (.slice Ao54 t465.length co54 : Value).ownBlock ∧ some k_ ≠ (.slice Ao56 t475.length co56 : Value).ownBlock ∧ some k_ ≠ (.slice Ao57 t478.length co57 : Value).ownBlock ∧ some k_ ≠ (.slice Ao58 t481.length co58 : Value).ownBlock ∧ some k_ ≠ (.slice Ao59 t484.length co59 : Value).ownBlock ∧ some k_ ≠ (v490 : Value).ownBlock ∧ some k_ ≠ (.slice Ao67 y496.length co67 : Value).ownBlock) k_ from fun k_ hk => ⟨Kd.fresh' (Kd.N_lt (by exact HO404.out)) k_ hk, Kd.fresh' (Kd.R_lt (by exact HO409.out)) k_ hk, Kd.fresh' (Kd.R_lt (by exact HO412.out)) k_ hk, Kd.fresh' (Kd.R_lt (by exact HO415.out)) k_ hk, Kd.fresh' (Kd.N_lt (by exact HO418.out)) k_ hk, Kd.fresh' (Kd.N_lt (by exact HO423.out)) k_ hk, Kd.fresh' (Kd.N_lt (by exact HO427.out)) k_ hk, Kd.fresh' (Kd.R_lt (by exact HO430.out)) k_ hk, Kd.fresh' (Kd.N_lt (by exact HO433.out)) k_ hk, Kd.fresh' (Kd.N_lt (by exact HO437.out)) k_ hk, Kd.fresh' (Kd.R_lt (by exact HO442.out)) k_ hk, Kd.fresh' (Kd.R_lt (by exact HO445.out)) k_ hk, Kd.fresh' (Kd.R_lt (by exact HO448.out)) k_ hk, Kd.fresh' (Kd.N_lt (by exact HO451.out)) k_ hk, Kd.fresh' (Kd.N_lt (by exact HO456.out)) k_ hk, Kd.fresh' (Kd.N_lt (by exact HO460.out)) k_ hk, Kd.fresh' (Kd.N_lt (by exact HO463.out)) k_ hk, Kd.fresh' (Kd.N_lt (by exact HO467.out)) k_ hk, Kd.fresh' (Kd.R_lt (by exact HO477.out)) k_ hk, Kd.fresh' (Kd.R_lt (by exact HO480.out)) k_ hk, Kd.fresh' (Kd.R_lt (by exact HO483.out)) k_ hk, Kd.fresh' (Kd.N_lt (by exact HO486.out)) k_ hk, Kd.fresh' (Kd.N_lt (by exact HO491.out)) k_ hk, Kd.fresh' (Kd.N_lt (by exact HO498.out)) k_ hk⟩) _ (Nat.le_refl _)) (Below.refl _ _) (Nat.le_refl _) (by simp) ?_; (case hd => rfl); (case hg => rfl); (case hr => first | (go_simp; done) | (go_simp; rfl)); (case hp => exact (Reps.c5 (show Kd.FK k38 _ _ (⟨0, 1, (⟨#[]⟩ : ByteArray), (⟨#[97]⟩ : ByteArray), ([] : List (S45))⟩ : S38) [.int .i64 0, .int .i64 1, .string (⟨#[]⟩ : ByteArray), .string (⟨#[97]⟩ : ByteArray), .slice none 0 0] from (k38_mkF _ _ (⟨0, 1, (⟨#[]⟩ : ByteArray), (⟨#[97]⟩ : ByteArray), ([] : List (S45))⟩ : S38) (Nat.le_refl _) (Kd.F_nil _ _ _))) (Reps.none _ _))); intro v501 w69 ho70 hb hg_ hnew_; clear hg_ hnew_; (first | rw [← Ny500.out] at ho70 | (simp only [Int.reduceToNat] at ho70; rw [← Ny500.out] at ho70)); have n8_ := Aside0.mk (Kd.N_elder' (by exact HO433.out) (by first | exact Kd.N_base ho70 | exact Kd.N_base (Kd.S_N ho70) | exact Kd.N_base (Kd.S_N (Kd.S_bound ho70))) hb); have n14_ := Aside0.mk (Kd.N_elder' (by exact HO456.out) (by first | exact Kd.N_base ho70 | exact Kd.N_base (Kd.S_N ho70) | exact Kd.N_base (Kd.S_N (Kd.S_bound ho70))) hb); have n25_ := Aside0.mk (Kd.N_lower ho70 (below_size (zb HB))); have n26_ := Aside0.mk (below_step (zb HB) hb); clear HO404; clear HO409; clear HO412; clear HO415; clear HO418; clear HO423; clear HO427; clear HO430; clear HO433; clear HO437; clear HO442; clear HO445; clear HO448; clear HO451; clear HO456; clear HO460; clear HO463; clear HO467; clear HO477; clear HO480; clear HO483; clear HO486; clear HO491; clear HO498; clear HB; have HO433 := n8_; have HO456 := n14_; have HO502 := n25_; have HB := n26_; clear n8_ n14_ n25_ n26_; clear hb ho70; obtain ⟨Ao71, co71, eo71⟩ := Kd.N_slice HO433.out; subst eo71; obtain ⟨Ao72, co72, eo72⟩ := Kd.N_slice HO502.out; subst eo72) | (go_at_call 16; (with_reducible refine (boltingref04_Same.calls k _ _ t431 _ _ y500 true _ ?side1 ?side2 ?side3 ?side4 A18.out).mono ?_); (case side1 => exact zc (Kd.N_reads' HO433.out).2.2); (case side2 => exact (Kd.N_reads' HO433.out).2.1); (case side3 => exact zc (Kd.N_reads' HO502.out).2.2); (case side4 => exact (Kd.N_reads' HO502.out).2.1); rintro e w73 ⟨rfl, hb⟩; have n14_ := Aside0.mk (Kd.N_below (by exact HO456.out) hb); have n26_ := Aside0.mk (below_step (zb HB) hb); clear HO433; clear HO456; clear HO502; clear HB; have HO456 := n14_; have HB := n26_; clear n14_ n26_; (try clear hb)) | (go_at_call 31; (with_reducible refine (boltinglaw13_treeP.calls  t504 _ A21.out).mono ?_); rintro e w74 ⟨v505, rfl, ho0, hb⟩; have n14_ := Aside0.mk (Kd.N_elder' (by exact HO456.out) (zn ho0) hb); have n26_ := Aside0.mk (Kd.N_lower (Kd.N_mono (ok' := fun _ => True) ho0 (fun _ _ => trivial)) (below_size (zb HB))); have n27_ := Aside0.mk (below_step (zb HB) hb); clear HO456; clear HB; have HO456 := n14_; have HO506 := n26_; have HB := n27_; clear n14_ n26_ n27_; (try clear hb); (try clear ho0); obtain ⟨Ao75, co75, eo75⟩ := Kd.N_slice HO456.out; subst eo75; obtain ⟨Ao76, co76, eo76⟩ := Kd.N_slice HO506.out; subst eo76) | (go_at_call 16; (with_reducible refine (boltingref04_Same.calls k _ _ t454 _ _ t504 true _ ?side1 ?side2 ?side3 ?side4 A22.out).mono ?_); (case side1 => exact zc (Kd.N_reads' HO456.out).2.2); (case side2 => exact (Kd.N_reads' HO456.out).2.1); (case side3 => exact zc (Kd.N_reads' HO506.out).2.2); (case side4 => exact (Kd.N_reads' HO506.out).2.1); rintro e w77 ⟨rfl, hb⟩; have n27_ := Aside0.mk (below_step (zb HB) hb); clear HO456; clear HO506; clear HB; have HB := n27_; clear n27_; (try clear hb)))
         go_ret
         exact ⟨ze, zb HB⟩
        ·rw [if_neg c25] at H
         have c25b0 : (t464 == 120) = false := beq_eq_false_iff_ne.mpr c25
         have c25b1 : (t464 != 120) = true := bne_iff_ne.mpr c25
         exact absurd (Option.some.inj H) (by rw [hT.out]; decide)
       ·rw [if_neg c24] at H
        have c24b0 : (t457 == 0) = false := beq_eq_false_iff_ne.mpr c24
        have c24b1 : (t457 != 0) = true := bne_iff_ne.mpr c24
        exact absurd (Option.some.inj H) (by rw [hT.out]; decide)
      ·replace c23 := Bool.eq_false_iff.mpr c23
       subst c23
       replace H : (some false) = some r := by rw [if_neg (show ¬ (false = true) by decide)] at H; exact H
       exact absurd (Option.some.inj H) (by rw [hT.out]; decide)
     ·rw [if_neg c20] at H
      have c20b0 : (t434 == 0) = false := beq_eq_false_iff_ne.mpr c20
      have c20b1 : (t434 != 0) = true := bne_iff_ne.mpr c20
      exact absurd (Option.some.inj H) (by rw [hT.out]; decide)
    ·replace c19 := Bool.eq_false_iff.mpr c19
     subst c19
     replace H : (some false) = some r := by rw [if_neg (show ¬ (false = true) by decide)] at H; exact H
     exact absurd (Option.some.inj H) (by rw [hT.out]; decide)
   ·rw [if_neg c17] at H
    have c17b0 : (t424 == 0) = false := beq_eq_false_iff_ne.mpr c17
    have c17b1 : (t424 != 0) = true := bne_iff_ne.mpr c17
    exact absurd (Option.some.inj H) (by rw [hT.out]; decide)
  ·replace c16 := Bool.eq_false_iff.mpr c16
   subst c16
   replace H : (some false) = some r := by rw [if_neg (show ¬ (false = true) by decide)] at H; exact H
   exact absurd (Option.some.inj H) (by rw [hT.out]; decide)
 ·rw [if_neg c12] at H
  exact absurd H (by simp)
set_option maxRecDepth 100000 in
theorem boltinglaw13_fixedP.yes (k : Nat) (r : Bool) (h : boltinglaw13_fixedP.f k = some r) : r = true := by
 have up : ∀ (m n : Nat), m ≤ n → ∀ x, boltinglaw13_fixedP.f m = some x → boltinglaw13_fixedP.f n = some x := fun m n hmn => by
  induction hmn with
  | refl => intro x hx; exact hx
  | step _ ih => intro x hx; exact boltinglaw13_fixedP.mono _ _ (ih x hx)
 have h1 := up k (k + 40) (by omega) r h
 have h2 := up 40 (k + 40) (by omega) true (by decide +kernel)
 exact Option.some.inj (h1.symm.trans h2)
theorem boltinglaw13_fixedP.calls (k : Nat)  (r : Bool) (w : World) (h : boltinglaw13_fixedP.f k  = some r) :
  Calls Tryz.prog 12 #[] w fun e w' => e = .returned (.bool r) ∧ Below w.heap.size w w' := by
 exact boltinglaw13_fixedP.calls_true k r w h (Aside0.mk (boltinglaw13_fixedP.yes k r h))

end Go.Proofs.YticacakoefojbaaGreat.Pr
namespace Go.Proofs.YticacakoefojbaaGreat.Pr
set_option linter.unusedVariables false
open Go.RowKit Go.Lib Go.Proofs.YticacakoefojbaaGreat Go.Proofs.YticacakoefojbaaGreatW.PrintWords
set_option maxRecDepth 100000 in
theorem fixedP_true : boltinglaw13_fixedP.f 200 = some true := by decide +kernel
def boltinglaw13_fixed.f : Option Bool := some true
theorem boltinglaw13_fixed.calls (r : Bool) (w : World) (h : boltinglaw13_fixed.f = some r) : Calls Tryz.prog 12 #[] w fun e w' => e = .returned (.bool r) ∧ Below w.heap.size w w' := by
  cases h
  exact boltinglaw13_fixedP.calls 200 true w fixedP_true
end Go.Proofs.YticacakoefojbaaGreat.Pr
namespace Go.Proofs.YticacakoefojbaaGreat.Pr
open Go.RowKit Go.Proofs.YticacakoefojbaaGreatW.PrintWords Go.Proofs.YticacakoefojbaaGreatW.PrintLast Go.Proofs.YticacakoefojbaaGreatW.PrintMore
attribute [local go_sem] max2_int min2_int max_two min_two max_three min_three max_four min_four   -- for this text's walks alone
set_option linter.unusedVariables false
set_option linter.unusedSimpArgs false

def boltinglaw13_bound.l0 : Nat → List (S38) → List (S38) → Int → Option ((List (S38)))
 | 0, _, _, _ => none
 | k + 1, x0, x3, x4 => if x4 < (x0.length : Int) then (if x4 < 40 then (if 0 ≤ x4 then (if 0 ≤ (mn (((rd_T38 x0 x4).f4).length : Int) 8) then (if (mn (((rd_T38 x0 x4).f4).length : Int) 8) ≤ (((rd_T38 x0 x4).f4).length : Int) then (if x3.length < 1954687338268 then (boltinglaw13_bound.l0 k x0 (x3 ++ [(⟨(rd_T38 x0 x4).f0, (rd_T38 x0 x4).f1, (rd_T38 x0 x4).f2, (rd_T38 x0 x4).f3, (((rd_T38 x0 x4).f4).take ((mn (((rd_T38 x0 x4).f4).length : Int) 8) : Int).toNat)⟩ : S38)]) (wrap64 (x4 + 1))) else (none)) else (none)) else (none)) else (none)) else (some x3)) else (some x3)
def boltinglaw13_bound.f (k : Nat) (l0 : List (S38)) : Option ((List (S38))) := boltinglaw13_bound.l0 k l0 (([] : List (S38))) 0
set_option maxHeartbeats 8000000 in
set_option maxRecDepth 100000 in
theorem boltinglaw13_bound.calls (k : Nat) (P0_ : Nat → Prop) (A0 : Option Addr) (c0 : Nat) (l0 : List (S38)) (r : List (S38)) (w : World) (hs0 : Kd.V k38 38 w w.heap.size (fun k_ => P0_ k_) (.slice A0 l0.length c0) l0) (h : boltinglaw13_bound.f k l0 = some r) :
  Calls Tryz.prog 10 #[.slice A0 l0.length c0] w fun e w' => ∃ v0_ : Value, e = .returned (v0_) ∧ Kd.N k38 38 w' w.heap.size (fun k_ => (P0_ k_ ∨ w.heap.size ≤ k_)) v0_ r ∧ Below w.heap.size w w' := by
 have hu38 := Tryz.underlying38
 have HO0 := Aside0.mk (show Kd.V k38 38 w w.heap.size (fun k_ => (P0_ k_ ∨ w.heap.size ≤ k_)) (.slice A0 l0.length c0) l0 from Kd.V_mono hs0 (fun k_ hk => .inl hk))
 have HB := Aside0.mk (Below.refl w.heap.size w)
 have H : (boltinglaw13_bound.l0 k l0 (([] : List (S38))) 0) = some r := h
 clear h
 obtain ⟨y294, hy294⟩ : ∃ y_ : List (S38), y_ = (([] : List (S38))) := ⟨_, rfl⟩
 replace H : (boltinglaw13_bound.l0 k l0 y294 0) = some r := by first | (rw [hy294]; with_reducible exact H) | (have H2_ := (Option.bind_some _ _).symm.trans H; rw [hy294]; with_reducible exact H2_) | (have H2_ := (Option.bind_some _ _).symm.trans H; with_reducible exact H2_) | with_reducible exact H | (rw [hy294]; exact H) | exact H
 have Ny294 := Aside0.mk hy294
 clear hy294
 have H' := Aside0.mk H
 clear H
 go_enter Tryz.func10, Tryz.ntmps10
 go_wp2_with (first | ((with_reducible refine gate_dst (N := 6) rfl ?_); refine Kd.N_lit k38 _ 38 ?hg (N' := 6) ?hd (xs := ([] : List (S38))) (inner := []) (ok := (fun k_ => (P0_ k_ ∨ w.heap.size ≤ k_))) (okp := (fun k_ => (P0_ k_ ∨ w.heap.size ≤ k_))) ?hr ?hp (fun _ hk => hk) ((show ∀ k_, w.heap.size ≤ k_ → (fun k_ => (P0_ k_ ∨ w.heap.size ≤ k_)) k_ from fun k_ hk => (.inr (Nat.le_trans (below_size (zb HB)) hk))) _ (Nat.le_refl _)) (Below.refl _ _) (Nat.le_refl _) (by simp) ?_; (case hd => rfl); (case hg => rfl); (case hr => first | (go_simp; done) | (go_simp; rfl)); (case hp => exact (Reps.none _ _)); intro v295 w2 ho3 hb hg_ hnew_; clear hg_ hnew_; (first | rw [← Ny294.out] at ho3 | (simp only [Int.reduceToNat] at ho3; rw [← Ny294.out] at ho3)); have n0_ := Aside0.mk (Kd.V_elder' HO0.out (Kd.N_base ho3) hb); have n1_ := Aside0.mk (Kd.N_lower ho3 (below_size (zb HB))); have n2_ := Aside0.mk (below_step (zb HB) hb); clear HO0; clear HB; have HO0 := n0_; have HO296 := n1_; have HB := n2_; clear n0_ n1_ n2_; clear hb ho3))
 go_loopg [3, 4] k (fun kq v3 v4 w' => ∃ (x3_1 : List (S38)) (x4_1 : Int), v4 = .int .i64 x4_1 ∧ Aside0 (boltinglaw13_bound.l0 kq l0 x3_1 x4_1 = some r) ∧ Aside0 (kq ≤ k) ∧ Aside0 (Kd.V k38 38 w' w.heap.size (fun k_ => (P0_ k_ ∨ w.heap.size ≤ k_) ∧ some k_ ≠ (v3 : Value).ownBlock) (.slice A0 l0.length c0) l0) ∧ Aside0 (Kd.N k38 38 w' w.heap.size (fun k_ => (P0_ k_ ∨ w.heap.size ≤ k_)) v3 x3_1) ∧ Aside0 (Below w.heap.size w w'))
 case atStart => exact ⟨(y294), (0), zr, H', ⟨Nat.le_refl _⟩, ⟨by exact HO0.out⟩, ⟨by exact HO296.out⟩, ⟨zb HB⟩⟩
 case round =>
  clear H'
  try clear c1
  try clear p2
  obtain ⟨x3_1, x4_1, rfl, HA, HK1, HO_0, HO_3, HB⟩ := hrel
  cases gk with
  | zero => exact absurd HA.out (by simp [boltinglaw13_bound.l0])
  | succ k1 =>
   have H := HA.out
   clear HA
   simp only [boltinglaw13_bound.l0] at H
   by_cases c4 : x4_1 < (l0.length : Int)
   ·rw [if_pos c4] at H
    have c4b0 : decide (x4_1 < (l0.length : Int)) = true := decide_eq_true c4
    clear c4
    by_cases c5 : x4_1 < 40
    ·rw [if_pos c5] at H
     have c5b0 : decide (x4_1 < 40) = true := decide_eq_true c5
     clear c5
     by_cases c6 : 0 ≤ x4_1
     ·rw [if_pos c6] at H
      have c6b0 : decide (0 ≤ x4_1) = true := decide_eq_true c6
      clear c6
      obtain ⟨ji7, hji7⟩ : ∃ j_ : Int, (mn (((rd_T38 l0 x4_1).f4).length : Int) 8) = j_ := ⟨_, rfl⟩
      replace H : (if 0 ≤ (ji7) then (if (ji7) ≤ (((rd_T38 l0 x4_1).f4).length : Int) then (if x3_1.length < 1954687338268 then (boltinglaw13_bound.l0 k1 l0 (x3_1 ++ [(⟨(rd_T38 l0 x4_1).f0, (rd_T38 l0 x4_1).f1, (rd_T38 l0 x4_1).f2, (rd_T38 l0 x4_1).f3, (((rd_T38 l0 x4_1).f4).take ((ji7) : Int).toNat)⟩ : S38)]) (wrap64 (x4_1 + 1))) else (none)) else (none)) else (none)) = some r := by first | (rw [hji7] at H; exact H) | (simp only [hji7] at H ⊢; exact H)
      have hji7_ : (if 8 < (((rd_T38 l0 x4_1).f4).length : Int) then 8 else (((rd_T38 l0 x4_1).f4).length : Int)) = ji7 := hji7
      by_cases c8 : 0 ≤ (ji7)
      ·rw [if_pos c8] at H
       have c8b0 := eq_true c8
       have c8b1 : decide (0 ≤ (ji7)) = true := decide_eq_true c8
       clear c8
       by_cases c9 : (ji7) ≤ (((rd_T38 l0 x4_1).f4).length : Int)
       ·rw [if_pos c9] at H
        have c9b0 := eq_true c9
        have c9b1 : decide ((ji7) ≤ (((rd_T38 l0 x4_1).f4).length : Int)) = true := decide_eq_true c9
        clear c9
        obtain ⟨y299, hy299⟩ : ∃ y_ : List (S45), y_ = (((rd_T38 l0 x4_1).f4).take ((ji7) : Int).toNat) := ⟨_, rfl⟩
        replace H : (if x3_1.length < 1954687338268 then (boltinglaw13_bound.l0 k1 l0 (x3_1 ++ [(⟨(rd_T38 l0 x4_1).f0, (rd_T38 l0 x4_1).f1, (rd_T38 l0 x4_1).f2, (rd_T38 l0 x4_1).f3, y299⟩ : S38)]) (wrap64 (x4_1 + 1))) else (none)) = some r := by first | (rw [hy299]; with_reducible exact H) | (have H2_ := (Option.bind_some _ _).symm.trans H; rw [hy299]; with_reducible exact H2_) | (have H2_ := (Option.bind_some _ _).symm.trans H; with_reducible exact H2_) | with_reducible exact H | (rw [hy299]; exact H) | exact H
        have Ny299 := Aside0.mk hy299
        clear hy299
        by_cases c10 : x3_1.length < 1954687338268
        ·rw [if_pos c10] at H
         have LMc10 := Aside0.mk c10
         clear c10
         obtain ⟨y304, hy304⟩ : ∃ y_ : List (S38), y_ = (x3_1 ++ [(⟨(rd_T38 l0 x4_1).f0, (rd_T38 l0 x4_1).f1, (rd_T38 l0 x4_1).f2, (rd_T38 l0 x4_1).f3, y299⟩ : S38)]) := ⟨_, rfl⟩
         replace H : (boltinglaw13_bound.l0 k1 l0 y304 (wrap64 (x4_1 + 1))) = some r := by first | (rw [hy304]; with_reducible exact H) | (have H2_ := (Option.bind_some _ _).symm.trans H; rw [hy304]; with_reducible exact H2_) | (have H2_ := (Option.bind_some _ _).symm.trans H; with_reducible exact H2_) | with_reducible exact H | (rw [hy304]; exact H) | exact H
         have Ny304 := Aside0.mk hy304
         clear hy304
         have H' := Aside0.mk H
         clear H
         have p297 : 0 ≤ (x4_1 : Int) := of_decide_eq_true za
         have q297 : x4_1 < (l0.length : Int) := of_decide_eq_true za
         obtain ⟨ad297, A297_4, c297_4, e297, hx297_0, hx297_1, hx297_2, hx297_3, hx297_4, hl297_4, hi297_4⟩ := at_T38 (Kd.V_reads' HO_0.out).2.2 x4_1 p297 q297
         cases e297
         obtain ⟨ce297, hce297, hMe297, hcc297⟩ := Kd.V_get HO_0.out z38 x4_1 p297 (by first | exact q297 | exact of_decide_eq_true za | (have e_ := (Kd.V_reads' HO_0.out).1; omega))
         obtain ⟨ua297_4, uc297_4, rfl, ul297_4, ge297_4⟩ := k38_openF hMe297
         have hv297_4 := hcc297 4 _ rfl
         rw [add_field _ _ 4 (by omega)] at hv297_4
         replace hv297_4 := Option.some.inj (hv297_4.symm.trans hx297_4)
         injection hv297_4 with hva_ hvn_ hvc_
         rw [hva_] at ge297_4
         rw [hvc_] at ul297_4
         have HL297_4 := Aside0.mk (show Kd.V k45 45 _ w.heap.size _ _ ((rd_T38 l0 x4_1).f4) from Kd.V_mk ul297_4 ge297_4)
         clear hva_ hvn_ hvc_ ge297_4 ul297_4
         clear hcc297 hce297
         have HR297_4 := Aside0.mk hi297_4
         have HC297_4 := Aside0.mk hl297_4
         clear hi297_4 hl297_4
         replace p297 := eq_true p297
         replace q297 := eq_true q297
         go_wp2_with (first | ((with_reducible refine gate_dst (N := 5) rfl ?_); refine box_event ?hg (N := 5) ?hd (cs := #[.int .i64 0, .int .i64 0, .string (⟨#[]⟩ : ByteArray), .string (⟨#[]⟩ : ByteArray), .slice none 0 0]) (t := 38) ?hr ?_; (case hd => rfl); (case hg => rfl); (case hr => first | (go_simp; done) | (go_simp; rfl)); intro gb298 hg w11 hbox hb; have n0_ := Aside0.mk (Kd.V_below (Kd.V_elderB HO_0.out gb298 (Nat.le_of_eq hg.symm)) hb); have n1_ := Aside0.mk (Kd.N_below (Kd.N_elderB HO_3.out gb298 (Nat.le_of_eq hg.symm)) hb); have n2_ := Aside0.mk (Kd.V_below (Kd.V_elderB HL297_4.out gb298 (Nat.le_of_eq hg.symm)) hb); have n4_ := Aside0.mk (below_step (zb HB) hb); have n5_ := Aside0.mk (hbox); have n7_ := Aside0.mk ((by rw [hg]; exact (below_size (zb HB)) : w.heap.size ≤ gb298)); clear HO_0; clear HO_3; clear HL297_4; clear HR297_4; clear HB; have HO_0 := n0_; have HO_3 := n1_; have HL297_4 := n2_; have HB := n4_; have BK298 := n5_; have GE298 := n7_; clear n0_ n1_ n2_ n4_ n5_ n7_; clear hb hbox hg; obtain ⟨hcz12_0, hcz12_1, hcz12_2, hcz12_3, hcz12_4, hfz12_0, hfz12_1, hfz12_2, hfz12_3, hfz12_4⟩ := cz5 BK298.out) | ((with_reducible refine gate_store (t := 38) (p := 5) rfl ?_); refine store_event (t := 38) (p := 5) (v := ?vo_w13) (w1 := (((((w11.setCell ⟨gb298, 0, none⟩ (.int .i64 ((rd_T38 l0 x4_1).f0))).setCell ⟨gb298, 1, none⟩ (.int .i64 ((rd_T38 l0 x4_1).f1))).setCell ⟨gb298, 2, none⟩ (.string ((rd_T38 l0 x4_1).f2))).setCell ⟨gb298, 3, none⟩ (.string ((rd_T38 l0 x4_1).f3))).setCell ⟨gb298, 4, none⟩ (.slice A297_4 ((rd_T38 l0 x4_1).f4).length c297_4))) ?hg ?ho ?hn ?hr ?_; (case ho => rfl); (case hg => rfl); (case hn => rfl); (case hr => first | (go_simp; done) | (go_simp; rfl)); intro w13 hw; have n0_ : Aside0 (Kd.V k38 38 w13 w.heap.size (fun k_ => (P0_ k_ ∨ w.heap.size ≤ k_) ∧ some k_ ≠ (u3 : Value).ownBlock ∧ k_ ≠ gb298) (.slice (some ad297) l0.length c0) l0) := ⟨(by rw [hw]; exact (by exact Kd.V_mono (Vf5 (g := gb298) (Kd.V_mono HO_0.out (fun k_ hk => (⟨hk, hk.2⟩ : _ ∧ k_ ≠ gb298))) (fun _ hk => hk.2) (.int .i64 ((rd_T38 l0 x4_1).f0)) (.int .i64 ((rd_T38 l0 x4_1).f1)) (.string ((rd_T38 l0 x4_1).f2)) (.string ((rd_T38 l0 x4_1).f3)) (.slice A297_4 ((rd_T38 l0 x4_1).f4).length c297_4)) (fun _ hk => ⟨hk.1.1.1, ⟨hk.1.1.2, hk.1.2⟩⟩)))⟩; have n1_ : Aside0 (Kd.N k38 38 w13 w.heap.size (fun k_ => (P0_ k_ ∨ w.heap.size ≤ k_) ∧ k_ ≠ gb298) u3 x3_1) := ⟨(by rw [hw]; exact (by exact Kd.N_mono (Nf5 (g := gb298) (Kd.N_mono HO_3.out (fun k_ hk => (⟨hk, hk.2⟩ : _ ∧ k_ ≠ gb298))) (fun _ hk => hk.2) (.int .i64 ((rd_T38 l0 x4_1).f0)) (.int .i64 ((rd_T38 l0 x4_1).f1)) (.string ((rd_T38 l0 x4_1).f2)) (.string ((rd_T38 l0 x4_1).f3)) (.slice A297_4 ((rd_T38 l0 x4_1).f4).length c297_4)) (fun _ hk => ⟨hk.1.1, hk.1.2⟩)))⟩; have n2_ : Aside0 (Kd.V k45 45 w13 w.heap.size (fun k_ => (P0_ k_ ∨ w.heap.size ≤ k_) ∧ some k_ ≠ (u3 : Value).ownBlock ∧ k_ ≠ gb298) (.slice A297_4 ((rd_T38 l0 x4_1).f4).length c297_4) ((rd_T38 l0 x4_1).f4)) := ⟨(by rw [hw]; exact (by exact Kd.V_mono (Vf5 (g := gb298) (Kd.V_mono HL297_4.out (fun k_ hk => (⟨hk, hk.2⟩ : _ ∧ k_ ≠ gb298))) (fun _ hk => hk.2) (.int .i64 ((rd_T38 l0 x4_1).f0)) (.int .i64 ((rd_T38 l0 x4_1).f1)) (.string ((rd_T38 l0 x4_1).f2)) (.string ((rd_T38 l0 x4_1).f3)) (.slice A297_4 ((rd_T38 l0 x4_1).f4).length c297_4)) (fun _ hk => ⟨hk.1.1.1, ⟨hk.1.1.2, hk.1.2⟩⟩)))⟩; have n3_ : Aside0 (w13.heap[gb298]? = some (.cells #[.int .i64 ((rd_T38 l0 x4_1).f0), .int .i64 ((rd_T38 l0 x4_1).f1), .string ((rd_T38 l0 x4_1).f2), .string ((rd_T38 l0 x4_1).f3), .slice A297_4 ((rd_T38 l0 x4_1).f4).length c297_4] 38 (0, 0))) := ⟨(by rw [hw]; exact (by refine blk_put (cs := #[.int .i64 ((rd_T38 l0 x4_1).f0), .int .i64 ((rd_T38 l0 x4_1).f1), .string ((rd_T38 l0 x4_1).f2), .string ((rd_T38 l0 x4_1).f3), .slice none 0 0]) ?_ 4 _ rfl; refine blk_put (cs := #[.int .i64 ((rd_T38 l0 x4_1).f0), .int .i64 ((rd_T38 l0 x4_1).f1), .string ((rd_T38 l0 x4_1).f2), .string (⟨#[]⟩ : ByteArray), .slice none 0 0]) ?_ 3 _ rfl; refine blk_put (cs := #[.int .i64 ((rd_T38 l0 x4_1).f0), .int .i64 ((rd_T38 l0 x4_1).f1), .string (⟨#[]⟩ : ByteArray), .string (⟨#[]⟩ : ByteArray), .slice none 0 0]) ?_ 2 _ rfl; refine blk_put (cs := #[.int .i64 ((rd_T38 l0 x4_1).f0), .int .i64 0, .string (⟨#[]⟩ : ByteArray), .string (⟨#[]⟩ : ByteArray), .slice none 0 0]) ?_ 1 _ rfl; refine blk_put (cs := #[.int .i64 0, .int .i64 0, .string (⟨#[]⟩ : ByteArray), .string (⟨#[]⟩ : ByteArray), .slice none 0 0]) ?_ 0 _ rfl; exact BK298.out))⟩; have n4_ : Aside0 (Below w.heap.size w w13) := ⟨(by rw [hw]; exact (zb1 HB GE298))⟩; clear hw; clear HO_0; clear HO_3; clear HL297_4; clear BK298; clear HB; have HO_0 := n0_; have HO_3 := n1_; have HL297_4 := n2_; have BK298 := n3_; have HB := n4_; clear n0_ n1_ n2_ n3_ n4_; obtain ⟨hcz14_0, hcz14_1, hcz14_2, hcz14_3, hcz14_4, hfz14_0, hfz14_1, hfz14_2, hfz14_3, hfz14_4⟩ := cz5 BK298.out; have q15 : ((ji7) : Int) ≤ ((((rd_T38 l0 x4_1).f4).length : Int) : Int) := of_decide_eq_true za; obtain ⟨i015, hi015, _, hsz15, _⟩ := info_parts info45; have hroom15 : ((rd_T38 l0 x4_1).f4).length ≤ c297_4 := HC297_4.out; have hC15 : Kd.F k45 _ _ A297_4 ((rd_T38 l0 x4_1).f4).length ((rd_T38 l0 x4_1).f4) := (Kd.V_at (base := w.heap.size) HL297_4.out).2.2; have hcut15 := cut_to (P := Tryz.prog) 36 45 .i64 Tryz.underlying36 hi015 A297_4 ((rd_T38 l0 x4_1).f4).length c297_4 (ji7) (of_decide_eq_true za) q15 hroom15; have hr15 := Kd.F_take (m := ((ji7) : Int).toNat) hC15 (by omega); have hy15 : y299.length = ((ji7) : Int).toNat := (by rw [Ny299.out, List.length_take]; omega); rw [← Ny299.out] at hr15; rw [← hy15] at hcut15; have HO303 := Aside0.mk (show Kd.V k45 45 _ w.heap.size _ (.slice A297_4 y299.length c297_4) y299 from Kd.V_mk (by omega) hr15); have HC303 := Aside0.mk (show y299.length ≤ c297_4 from by omega); clear hr15 hC15 hroom15 hi015 hsz15; have KY15 := Aside0.mk hy15; clear hy15; replace q15 := eq_true q15) | ((with_reducible refine gate_store (t := 36) (p := 28) rfl ?_); refine store_event (t := 36) (p := 28) (v := ?vo_w16) (w1 := (w13.setCell ⟨gb298, 4, none⟩ (.slice A297_4 y299.length c297_4))) ?hg ?ho ?hn ?hr ?_; (case ho => rfl); (case hg => rfl); (case hn => rfl); (case hr => first | (go_simp; done) | (go_simp; rfl)); intro w16 hw; have n0_ : Aside0 (Kd.V k38 38 w16 w.heap.size (fun k_ => (P0_ k_ ∨ w.heap.size ≤ k_) ∧ some k_ ≠ (u3 : Value).ownBlock ∧ k_ ≠ gb298) (.slice (some ad297) l0.length c0) l0) := ⟨(by rw [hw]; exact (by exact Kd.V_mono (Kd.V_far (p := ⟨gb298, 4, none⟩) (Kd.V_mono HO_0.out (fun k_ hk => (⟨hk, hk.2.2⟩ : _ ∧ k_ ≠ gb298))) (fun _ hk => hk.2) (.slice A297_4 y299.length c297_4)) (fun _ hk => ⟨hk.1.1, ⟨hk.1.2.1, hk.1.2.2⟩⟩)))⟩; have n1_ : Aside0 (Kd.N k38 38 w16 w.heap.size (fun k_ => (P0_ k_ ∨ w.heap.size ≤ k_) ∧ k_ ≠ gb298) u3 x3_1) := ⟨(by rw [hw]; exact (by exact Kd.N_mono (Kd.N_far (p := ⟨gb298, 4, none⟩) (Kd.N_mono HO_3.out (fun k_ hk => (⟨hk, hk.2⟩ : _ ∧ k_ ≠ gb298))) (fun _ hk => hk.2) (.slice A297_4 y299.length c297_4)) (fun _ hk => ⟨hk.1.1, hk.1.2⟩)))⟩; have n3_ : Aside0 (Kd.V k45 45 w16 w.heap.size (fun k_ => (P0_ k_ ∨ w.heap.size ≤ k_) ∧ some k_ ≠ (u3 : Value).ownBlock ∧ k_ ≠ gb298) (.slice A297_4 y299.length c297_4) y299) := ⟨(by rw [hw]; exact (by exact Kd.V_mono (Kd.V_far (p := ⟨gb298, 4, none⟩) (Kd.V_mono HO303.out (fun k_ hk => (⟨hk, hk.2.2⟩ : _ ∧ k_ ≠ gb298))) (fun _ hk => hk.2) (.slice A297_4 y299.length c297_4)) (fun _ hk => ⟨hk.1.1, ⟨hk.1.2.1, hk.1.2.2⟩⟩)))⟩; have n4_ : Aside0 (w16.heap[gb298]? = some (.cells #[.int .i64 ((rd_T38 l0 x4_1).f0), .int .i64 ((rd_T38 l0 x4_1).f1), .string ((rd_T38 l0 x4_1).f2), .string ((rd_T38 l0 x4_1).f3), .slice A297_4 y299.length c297_4] 38 (0, 0))) := ⟨(by rw [hw]; exact (by refine blk_put (cs := #[.int .i64 ((rd_T38 l0 x4_1).f0), .int .i64 ((rd_T38 l0 x4_1).f1), .string ((rd_T38 l0 x4_1).f2), .string ((rd_T38 l0 x4_1).f3), .slice A297_4 ((rd_T38 l0 x4_1).f4).length c297_4]) ?_ 4 _ rfl; exact BK298.out))⟩; have n5_ : Aside0 (Below w.heap.size w w16) := ⟨(by rw [hw]; exact (zb1 HB GE298))⟩; clear hw; clear HO_0; clear HO_3; clear HL297_4; clear HO303; clear BK298; clear HB; have HO_0 := n0_; have HO_3 := n1_; have HO303 := n3_; have BK298 := n4_; have HB := n5_; clear n0_ n1_ n3_ n4_ n5_; obtain ⟨hcz17_0, hcz17_1, hcz17_2, hcz17_3, hcz17_4, hfz17_0, hfz17_1, hfz17_2, hfz17_3, hfz17_4⟩ := cz5 BK298.out) | ((with_reducible refine gate_builtin (b := .append) (xs := #[.tmp 29, .tmp 31]) rfl ?_); at_builtin; refine Kd.N_append k38 (w0 := w) w.heap.size rfl (.tmp 29) (.tmp 31) 22 38 (.agg #[(.int .i64 0), (.int .i64 0), (.string ⟨#[]⟩), (.string ⟨#[]⟩), (.slice none 0 0)]) 72 rfl Tryz.underlying22 info38 rfl (by decide) (by omega) u3 x3_1 (⟨(rd_T38 l0 x4_1).f0, (rd_T38 l0 x4_1).f1, (rd_T38 l0 x4_1).f2, (rd_T38 l0 x4_1).f3, y299⟩ : S38) [.int .i64 ((rd_T38 l0 x4_1).f0), .int .i64 ((rd_T38 l0 x4_1).f1), .string ((rd_T38 l0 x4_1).f2), .string ((rd_T38 l0 x4_1).f3), .slice A297_4 y299.length c297_4] (fun k_ => (P0_ k_ ∨ w.heap.size ≤ k_) ∧ k_ ≠ gb298) (fun k_ => ((fun k_ => (P0_ k_ ∨ w.heap.size ≤ k_) ∧ k_ ≠ gb298)) k_ ∧ some k_ ≠ (u3 : Value).ownBlock) rfl rfl ?aP (fun _ hk => hk) ?aF ?aO ?aB ?aS ?aL ?_; (case aP => exact (k38_mkF _ _ (⟨(rd_T38 l0 x4_1).f0, (rd_T38 l0 x4_1).f1, (rd_T38 l0 x4_1).f2, (rd_T38 l0 x4_1).f3, y299⟩ : S38) (Kd.V_reads' (Kd.V_mono (ok' := (fun k_ => ((fun k_ => (P0_ k_ ∨ w.heap.size ≤ k_) ∧ k_ ≠ gb298)) k_ ∧ some k_ ≠ (u3 : Value).ownBlock)) (HO303.out) (fun k_ hk => ⟨⟨hk.1, hk.2.2⟩, hk.2.1⟩))).2.1 (Kd.V_F (Kd.V_mono (ok' := (fun k_ => ((fun k_ => (P0_ k_ ∨ w.heap.size ≤ k_) ∧ k_ ≠ gb298)) k_ ∧ some k_ ≠ (u3 : Value).ownBlock)) (HO303.out) (fun k_ hk => ⟨⟨hk.1, hk.2.2⟩, hk.2.1⟩))))); (case aB => exact (zb1 HB GE298)); (case aF => exact (fun k_ hk => ⟨(.inr (Nat.le_trans (below_size (zb1 HB GE298)) hk)), Kd.freshB BK298.out k_ hk⟩)); (case aO => exact HO_3.out); (case aS => exact (below_size (zb1 HB GE298))); (case aL => have := LMc10.out; omega); intro v305 w18 ho hb hg hat; rw [← Ny304.out] at ho; have n0_ := Aside0.mk (Kd.V_afterv (ok := (fun k_ => (P0_ k_ ∨ w.heap.size ≤ k_) ∧ k_ ≠ gb298)) (by exact Kd.V_mono HO_0.out (fun _ hk => ⟨⟨hk.1, hk.2.2⟩, hk.2.1⟩)) hg hat); have n4_ := Aside0.mk (hb); have n5_ := Aside0.mk (ho); clear HO_0; clear BK298; clear HO303; clear HB; clear HO_3; have HO_0 := n0_; have HB := n4_; have HO306 := n5_; clear n0_ n4_ n5_; clear ho hb hg hat))
         go_roundg k1
         case measure => have := HK1.out; omega
         case rel => exact ⟨(y304), (wrap64 (x4_1 + 1)), zr, H', ⟨by have := HK1.out; omega⟩, ⟨by exact Kd.V_mono HO_0.out (fun _ hk => ⟨hk.1.1, hk.2⟩)⟩, ⟨by exact Kd.N_mono HO306.out (fun _ hk => hk.1)⟩, ⟨zb1 HB GE298⟩⟩
        ·rw [if_neg c10] at H
         exact absurd H (by simp)
       ·rw [if_neg c9] at H
        exact absurd H (by simp)
      ·rw [if_neg c8] at H
       exact absurd H (by simp)
     ·rw [if_neg c6] at H
      exact absurd H (by simp)
    ·rw [if_neg c5] at H
     have c5b0 : decide (x4_1 < 40) = false := decide_eq_false c5
     clear c5
     obtain rfl := Option.some.inj H
     go_wp2
     go_ret
     exact ⟨_, ze, by exact HO_3.out, zb HB⟩
   ·rw [if_neg c4] at H
    have c4b0 : decide (x4_1 < (l0.length : Int)) = false := decide_eq_false c4
    clear c4
    obtain rfl := Option.some.inj H
    go_wp2
    go_ret
    exact ⟨_, ze, by exact HO_3.out, zb HB⟩

end Go.Proofs.YticacakoefojbaaGreat.Pr
namespace Go.Proofs.YticacakoefojbaaGreat.Pr
open Go.RowKit Go.Proofs.YticacakoefojbaaGreatW.PrintWords Go.Proofs.YticacakoefojbaaGreatW.PrintLast Go.Proofs.YticacakoefojbaaGreatW.PrintMore
attribute [local go_sem] max2_int min2_int max_two min_two max_three min_three max_four min_four   -- for this text's walks alone
set_option linter.unusedVariables false
set_option linter.unusedSimpArgs false

def boltingref04_Big.l0 : Nat → List (S38) → Int → Option (Bool)
 | 0, _, _ => none
 | k + 1, x0, x3 => if x3 < (x0.length : Int) then (if 0 ≤ x3 then (if ((rd_T38 x0 x3).f0) ≥ 60 then (some true) else (boltingref04_Big.l0 k x0 (wrap64 (x3 + 1)))) else (none)) else (some (decide ((x0.length : Int) > 4096)))
def boltingref04_Big.f (k : Nat) (l0 : List (S38)) : Option (Bool) := boltingref04_Big.l0 k l0 0
set_option maxHeartbeats 8000000 in
set_option maxRecDepth 100000 in
theorem boltingref04_Big.calls (k : Nat) (A0 : Option Addr) (c0 : Nat) (l0 : List (S38)) (r : Bool) (w : World) (hr0 : Kd.C k38 w A0 l0.length l0) (hc0 : l0.length ≤ c0) (h : boltingref04_Big.f k l0 = some r) :
  Calls Tryz.prog 29 #[.slice A0 l0.length c0] w fun e w' => e = .returned (.bool r) ∧ Drawn0 w w' := by
 have HR0 := Aside0.mk hr0
 have HC0 := Aside0.mk hc0
 clear hr0 hc0
 have H : (boltingref04_Big.l0 k l0 0) = some r := h
 clear h
 have H' := Aside0.mk H
 clear H
 go_enter Tryz.func29, Tryz.ntmps29
 go_wp2
 go_loopg [3] k (fun kq v3 w' => ∃ (x3_1 : Int), v3 = .int .i64 x3_1 ∧ Aside0 (boltingref04_Big.l0 kq l0 x3_1 = some r) ∧ Aside0 (kq ≤ k) ∧ Drawn0 w w')
 case atStart => exact ⟨(0), zr, H', ⟨Nat.le_refl _⟩, zw⟩
 case round =>
  clear H'
  obtain ⟨x3_1, rfl, HA, HK1, ⟨m1, rfl⟩⟩ := hrel
  cases gk with
  | zero => exact absurd HA.out (by simp [boltingref04_Big.l0])
  | succ k1 =>
   have H := HA.out
   clear HA
   simp only [boltingref04_Big.l0] at H
   by_cases c2 : x3_1 < (l0.length : Int)
   ·rw [if_pos c2] at H
    have c2b0 : decide (x3_1 < (l0.length : Int)) = true := decide_eq_true c2
    clear c2
    by_cases c3 : 0 ≤ x3_1
    ·rw [if_pos c3] at H
     have c3b0 : decide (0 ≤ x3_1) = true := decide_eq_true c3
     clear c3
     by_cases c4 : ((rd_T38 l0 x3_1).f0) ≥ 60
     ·rw [if_pos c4] at H
      have c4b0 : decide (60 ≤ ((rd_T38 l0 x3_1).f0)) = true := decide_eq_true c4
      clear c4
      obtain rfl := Option.some.inj H
      have p307 : 0 ≤ (x3_1 : Int) := of_decide_eq_true za
      have q307 : x3_1 < (l0.length : Int) := of_decide_eq_true za
      obtain ⟨ad307, A307_4, c307_4, e307, hx307_0, hx307_1, hx307_2, hx307_3, hx307_4, hl307_4, hi307_4⟩ := at_T38 HR0.out x3_1 p307 q307
      cases e307
      have HR307_4 := Aside0.mk hi307_4
      have HC307_4 := Aside0.mk hl307_4
      clear hi307_4 hl307_4
      replace p307 := eq_true p307
      replace q307 := eq_true q307
      go_wp2
      go_ret
      exact ⟨zt, zw⟩
     ·rw [if_neg c4] at H
      have c4b0 : decide (60 ≤ ((rd_T38 l0 x3_1).f0)) = false := decide_eq_false c4
      clear c4
      have H' := Aside0.mk H
      clear H
      have p307 : 0 ≤ (x3_1 : Int) := of_decide_eq_true za
      have q307 : x3_1 < (l0.length : Int) := of_decide_eq_true za
      obtain ⟨ad307, A307_4, c307_4, e307, hx307_0, hx307_1, hx307_2, hx307_3, hx307_4, hl307_4, hi307_4⟩ := at_T38 HR0.out x3_1 p307 q307
      cases e307
      have HR307_4 := Aside0.mk hi307_4
      have HC307_4 := Aside0.mk hl307_4
      clear hi307_4 hl307_4
      replace p307 := eq_true p307
      replace q307 := eq_true q307
      go_wp2
      go_roundg k1
      case measure => have := HK1.out; omega
      case rel => exact ⟨(wrap64 (x3_1 + 1)), zr, H', ⟨by have := HK1.out; omega⟩, zw⟩
    ·rw [if_neg c3] at H
     exact absurd H (by simp)
   ·rw [if_neg c2] at H
    have c2b0 : decide (x3_1 < (l0.length : Int)) = false := decide_eq_false c2
    clear c2
    obtain rfl := Option.some.inj H
    go_wp2
    go_ret
    exact ⟨zt, zw⟩

mutual
def boltingref04_Row.j0 : Nat → Bool → Int → Int → ByteArray → ByteArray → List (S45) → Option (Bool)
 | 0, _, _, _, _, _, _ => none
 | k + 1, x12, x309000, x309001, x309002, x309003, x309004 => if x12 = true then (if x309002.toList = ([] : List UInt8) then (some ((x309004.length : Int) == 0)) else (some false)) else (boltingref04_Row.l0 k 0 x309000 x309001 x309002 x309003 x309004)
def boltingref04_Row.l0 : Nat → Int → Int → Int → ByteArray → ByteArray → List (S45) → Option (Bool)
 | 0, _, _, _, _, _, _ => none
 | k + 1, x3, x309000, x309001, x309002, x309003, x309004 => if x3 < (x309004.length : Int) then (boltingref04_Row.l1 k x3 0 x309000 x309001 x309002 x309003 x309004) else (if x309001 = 0 then (if x309002.toList = ([] : List UInt8) then (some false) else (some (x309003.toList == ([] : List UInt8)))) else (some false))
def boltingref04_Row.l1 : Nat → Int → Int → Int → Int → ByteArray → ByteArray → List (S45) → Option (Bool)
 | 0, _, _, _, _, _, _, _ => none
 | k + 1, x3, x4, x309000, x309001, x309002, x309003, x309004 => if x4 < x3 then (if 0 ≤ x3 then (if x3 < (x309004.length : Int) then (if 0 ≤ x4 then (if x4 < (x309004.length : Int) then (if ((rd_T45 x309004 x3).f0).toList = ((rd_T45 x309004 x4).f0).toList then (some false) else (boltingref04_Row.l1 k x3 (wrap64 (x4 + 1)) x309000 x309001 x309002 x309003 x309004)) else (none)) else (none)) else (none)) else (none)) else (boltingref04_Row.l0 k (wrap64 (x3 + 1)) x309000 x309001 x309002 x309003 x309004)
end
def boltingref04_Row.f (k : Nat) (a0_0 : Int) (a0_1 : Int) (a0_2 : ByteArray) (a0_3 : ByteArray) (l0_4 : List (S45)) : Option (Bool) := if a0_1 = 1 then (boltingref04_Row.j0 k true a0_0 a0_1 a0_2 a0_3 l0_4) else (boltingref04_Row.j0 k (a0_1 == 2) a0_0 a0_1 a0_2 a0_3 l0_4)
set_option maxHeartbeats 8000000 in
set_option maxRecDepth 100000 in
theorem boltingref04_Row.calls (k : Nat) (a0_0 : Int) (a0_1 : Int) (a0_2 : ByteArray) (a0_3 : ByteArray) (A0_4 : Option Addr) (c0_4 : Nat) (l0_4 : List (S45)) (r : Bool) (w : World) (hr0_4 : Kd.C k45 w A0_4 l0_4.length l0_4) (hc0_4 : l0_4.length ≤ c0_4) (h : boltingref04_Row.f k a0_0 a0_1 a0_2 a0_3 l0_4 = some r) :
  Calls Tryz.prog 50 #[.agg #[.int .i64 a0_0, .int .i64 a0_1, .string a0_2, .string a0_3, .slice A0_4 l0_4.length c0_4]] w fun e w' => e = .returned (.bool r) ∧ Below w.heap.size w w' := by
 have hu38 := Tryz.underlying38
 have HR0_4 := Aside0.mk hr0_4
 have HC0_4 := Aside0.mk hc0_4
 clear hr0_4 hc0_4
 have HB := Aside0.mk (Below.refl w.heap.size w)
 have H : (if a0_1 = 1 then (boltingref04_Row.j0 k true a0_0 a0_1 a0_2 a0_3 l0_4) else (boltingref04_Row.j0 k (a0_1 == 2) a0_0 a0_1 a0_2 a0_3 l0_4)) = some r := h
 clear h
 have HC2 := Aside0.mk H
 clear H
 go_enter Tryz.func50, Tryz.ntmps50
 go_upto_region 1 with (first | ((with_reducible refine gate_dst (N := 1) rfl ?_); (try (refine gate_guard (by rfl) ?_; dsimp only)); refine box_event ?hg (N := 1) ?hd (cs := #[.int .i64 a0_0, .int .i64 a0_1, .string a0_2, .string a0_3, .slice A0_4 l0_4.length c0_4]) (t := 38) ?hr ?_; (case hd => rfl); (case hg => rfl); (case hr => first | (go_simp; done) | (go_simp; rfl)); intro gb308 hg w3 hbox hb; have n0_ := Aside0.mk (below_step (zb HB) hb); have n1_ := Aside0.mk (hbox); have n2_ := Aside0.mk ((by rw [hg]; exact (below_size (zb HB)) : w.heap.size ≤ gb308)); have n3_ := Aside0.mk ((by rw [hg]; exact (below_size (zb HB)) : w.heap.size ≤ gb308)); clear HB; have HB := n0_; have BK308 := n1_; have GW308 := n2_; have GE308 := n3_; clear n0_ n1_ n2_ n3_; clear hb hbox hg))
 repeat (go_quiet (first | ((with_reducible refine gate_dst (N := 1) rfl ?_); (try (refine gate_guard (by rfl) ?_; dsimp only)); refine box_event ?hg (N := 1) ?hd (cs := #[.int .i64 a0_0, .int .i64 a0_1, .string a0_2, .string a0_3, .slice A0_4 l0_4.length c0_4]) (t := 38) ?hr ?_; (case hd => rfl); (case hg => rfl); (case hr => first | (go_simp; done) | (go_simp; rfl)); intro gb308 hg w3 hbox hb; have n0_ := Aside0.mk (below_step (zb HB) hb); have n1_ := Aside0.mk (hbox); have n2_ := Aside0.mk ((by rw [hg]; exact (below_size (zb HB)) : w.heap.size ≤ gb308)); have n3_ := Aside0.mk ((by rw [hg]; exact (below_size (zb HB)) : w.heap.size ≤ gb308)); clear HB; have HB := n0_; have BK308 := n1_; have GW308 := n2_; have GE308 := n3_; clear n0_ n1_ n2_ n3_; clear hb hbox hg)); go_upto_region 1 with (first | ((with_reducible refine gate_dst (N := 1) rfl ?_); (try (refine gate_guard (by rfl) ?_; dsimp only)); refine box_event ?hg (N := 1) ?hd (cs := #[.int .i64 a0_0, .int .i64 a0_1, .string a0_2, .string a0_3, .slice A0_4 l0_4.length c0_4]) (t := 38) ?hr ?_; (case hd => rfl); (case hg => rfl); (case hr => first | (go_simp; done) | (go_simp; rfl)); intro gb308 hg w3 hbox hb; have n0_ := Aside0.mk (below_step (zb HB) hb); have n1_ := Aside0.mk (hbox); have n2_ := Aside0.mk ((by rw [hg]; exact (below_size (zb HB)) : w.heap.size ≤ gb308)); have n3_ := Aside0.mk ((by rw [hg]; exact (below_size (zb HB)) : w.heap.size ≤ gb308)); clear HB; have HB := n0_; have BK308 := n1_; have GW308 := n2_; have GE308 := n3_; clear n0_ n1_ n2_ n3_; clear hb hbox hg)))
 (try simp only [Act.put, List.setIfInBounds_toArray, List.set_cons_zero, List.set_cons_succ])
 go_cut [12] (fun v12 wc => ∃ (kq : Nat) (x12_1 : Bool), v12 = .bool x12_1 ∧ Aside0 (boltingref04_Row.j0 kq x12_1 a0_0 a0_1 a0_2 a0_3 l0_4 = some r) ∧ Aside0 (kq ≤ k) ∧ Aside0 (wc.heap[gb308]? = some (.cells #[.int .i64 a0_0, .int .i64 a0_1, .string a0_2, .string a0_3, (.slice A0_4 l0_4.length c0_4)] 38 (0, 0))) ∧ Aside0 (Below w.heap.size w wc))
 case first =>
  have H := HC2.out
  clear HC2
  by_cases c4 : a0_1 = 1
  ·rw [if_pos c4] at H
   have c4b0 : (a0_1 == 1) = true := beq_iff_eq.mpr c4
   have c4b1 : (a0_1 != 1) = false := bne_eq_false_iff_eq.mpr c4
   clear c4
   (first | rw [c4b0] | (simp only [i64_w, i32_w]; rw [c4b0]) | skip)
   have H' := Aside0.mk H
   clear H
   obtain ⟨hcz5_0, hcz5_1, hcz5_2, hcz5_3, hcz5_4, hfz5_0, hfz5_1, hfz5_2, hfz5_3, hfz5_4⟩ := cz5 BK308.out
   go_wp2
   repeat (go_quiet (fail); try go_wp2)
   go_meet
   case rel => exact ⟨_, (true), zr, H', ⟨by first | omega | exact Nat.le_refl _⟩, ⟨by exact BK308.out⟩, ⟨zb1 HB GE308⟩⟩
  ·rw [if_neg c4] at H
   have c4b0 : (a0_1 == 1) = false := beq_eq_false_iff_ne.mpr c4
   have c4b1 : (a0_1 != 1) = true := bne_iff_ne.mpr c4
   (first | rw [c4b0] | (simp only [i64_w, i32_w]; rw [c4b0]) | skip)
   have H' := Aside0.mk H
   clear H
   obtain ⟨hcz6_0, hcz6_1, hcz6_2, hcz6_3, hcz6_4, hfz6_0, hfz6_1, hfz6_2, hfz6_3, hfz6_4⟩ := cz5 BK308.out
   go_wp2
   repeat (go_quiet (fail); try go_wp2)
   go_meet
   case rel => exact ⟨_, ((a0_1 == 2)), zr, H', ⟨by first | omega | exact Nat.le_refl _⟩, ⟨by exact BK308.out⟩, ⟨zb1 HB GE308⟩⟩
 case rest =>
  clear HC2
  try clear p2
  try clear c4
  try clear c4b0
  try clear c4b1
  try clear c5
  try clear hcz5_0
  try clear hcz5_1
  try clear hcz5_2
  try clear hcz5_3
  try clear hcz5_4
  try clear hcz6_0
  try clear hcz6_1
  try clear hcz6_2
  try clear hcz6_3
  try clear hcz6_4
  try clear hfz5_0
  try clear hfz5_1
  try clear hfz5_2
  try clear hfz5_3
  try clear hfz5_4
  try clear hfz6_0
  try clear hfz6_1
  try clear hfz6_2
  try clear hfz6_3
  try clear hfz6_4
  obtain ⟨kq, x12_1, rfl, HA, HJ1, BK308, HB⟩ := hcut
  cases kq with
  | zero => exact absurd HA.out (by simp [boltingref04_Row.j0])
  | succ kj1 =>
   have H := HA.out
   clear HA
   simp only [boltingref04_Row.j0] at H
   by_cases c7 : x12_1 = true
   ·subst c7
    replace H : (if a0_2.toList = ([] : List UInt8) then (some ((l0_4.length : Int) == 0)) else (some false)) = some r := by rw [if_pos rfl] at H; exact H
    by_cases c8 : a0_2.toList = ([] : List UInt8)
    ·rw [if_pos c8] at H
     have c8b0 : (a0_2.toList == ([] : List UInt8)) = true := beq_iff_eq.mpr c8
     have c8b1 : (a0_2.toList != ([] : List UInt8)) = false := bne_eq_false_iff_eq.mpr c8
     clear c8
     obtain rfl := Option.some.inj H
     obtain ⟨hcz9_0, hcz9_1, hcz9_2, hcz9_3, hcz9_4, hfz9_0, hfz9_1, hfz9_2, hfz9_3, hfz9_4⟩ := cz5 BK308.out
     go_wp2
     repeat (go_quiet (fail); try go_wp2)
     go_ret
     exact ⟨ze, zb1 HB GE308⟩
    ·rw [if_neg c8] at H
     have c8b0 : (a0_2.toList == ([] : List UInt8)) = false := beq_eq_false_iff_ne.mpr c8
     have c8b1 : (a0_2.toList != ([] : List UInt8)) = true := bne_iff_ne.mpr c8
     obtain rfl := Option.some.inj H
     obtain ⟨hcz10_0, hcz10_1, hcz10_2, hcz10_3, hcz10_4, hfz10_0, hfz10_1, hfz10_2, hfz10_3, hfz10_4⟩ := cz5 BK308.out
     go_wp2
     repeat (go_quiet (fail); try go_wp2)
     go_ret
     exact ⟨ze, zb1 HB GE308⟩
   ·replace c7 := Bool.eq_false_iff.mpr c7
    subst c7
    replace H : (boltingref04_Row.l0 kj1 0 a0_0 a0_1 a0_2 a0_3 l0_4) = some r := by rw [if_neg (show ¬ (false = true) by decide)] at H; exact H
    have H' := Aside0.mk H
    clear H
    go_wp2
    repeat (go_quiet (fail); try go_wp2)
    go_loopg [3] kj1 (fun kq v3 w' => ∃ (x3_2 : Int), v3 = .int .i64 x3_2 ∧ Aside0 (boltingref04_Row.l0 kq x3_2 a0_0 a0_1 a0_2 a0_3 l0_4 = some r) ∧ Aside0 (kq ≤ kj1) ∧ Aside0 (w'.heap[gb308]? = some (.cells #[.int .i64 a0_0, .int .i64 a0_1, .string a0_2, .string a0_3, (.slice A0_4 l0_4.length c0_4)] 38 (0, 0))) ∧ Aside0 (Below w.heap.size w w'))
    case atStart => exact ⟨(0), zr, H', ⟨Nat.le_refl _⟩, ⟨by exact BK308.out⟩, ⟨zb1 HB GE308⟩⟩
    case round =>
     clear H'
     try clear p2
     try clear c4
     try clear c4b0
     try clear c4b1
     try clear c5
     try clear c7
     try clear c8
     try clear c8b0
     try clear c8b1
     try clear hcz10_0
     try clear hcz10_1
     try clear hcz10_2
     try clear hcz10_3
     try clear hcz10_4
     try clear hcz5_0
     try clear hcz5_1
     try clear hcz5_2
     try clear hcz5_3
     try clear hcz5_4
     try clear hcz6_0
     try clear hcz6_1
     try clear hcz6_2
     try clear hcz6_3
     try clear hcz6_4
     try clear hcz9_0
     try clear hcz9_1
     try clear hcz9_2
     try clear hcz9_3
     try clear hcz9_4
     try clear hfz10_0
     try clear hfz10_1
     try clear hfz10_2
     try clear hfz10_3
     try clear hfz10_4
     try clear hfz5_0
     try clear hfz5_1
     try clear hfz5_2
     try clear hfz5_3
     try clear hfz5_4
     try clear hfz6_0
     try clear hfz6_1
     try clear hfz6_2
     try clear hfz6_3
     try clear hfz6_4
     try clear hfz9_0
     try clear hfz9_1
     try clear hfz9_2
     try clear hfz9_3
     try clear hfz9_4
     try clear p2
     obtain ⟨x3_2, rfl, HA, HK2, BK308, HB⟩ := hrel
     cases gk with
     | zero => exact absurd HA.out (by simp [boltingref04_Row.l0])
     | succ k2 =>
      have H := HA.out
      clear HA
      simp only [boltingref04_Row.l0] at H
      by_cases c11 : x3_2 < (l0_4.length : Int)
      ·rw [if_pos c11] at H
       have c11b0 : decide (x3_2 < (l0_4.length : Int)) = true := decide_eq_true c11
       clear c11
       have H' := Aside0.mk H
       clear H
       obtain ⟨hcz12_0, hcz12_1, hcz12_2, hcz12_3, hcz12_4, hfz12_0, hfz12_1, hfz12_2, hfz12_3, hfz12_4⟩ := cz5 BK308.out
       go_wp2
       repeat (go_quiet (fail); try go_wp2)
       go_loopg [4] k2 (fun kq v4 w' => ∃ (x4_3 : Int), v4 = .int .i64 x4_3 ∧ Aside0 (boltingref04_Row.l1 kq x3_2 x4_3 a0_0 a0_1 a0_2 a0_3 l0_4 = some r) ∧ Aside0 (kq ≤ k2) ∧ Aside0 (w'.heap[gb308]? = some (.cells #[.int .i64 a0_0, .int .i64 a0_1, .string a0_2, .string a0_3, (.slice A0_4 l0_4.length c0_4)] 38 (0, 0))) ∧ Aside0 (Below w.heap.size w w'))
       case atStart => exact ⟨(0), zr, H', ⟨Nat.le_refl _⟩, ⟨by exact BK308.out⟩, ⟨zb1 HB GE308⟩⟩
       case round =>
        clear H'
        try clear c1
        try clear p2
        try clear c4
        try clear c4b0
        try clear c4b1
        try clear c5
        try clear c7
        try clear c8
        try clear c8b0
        try clear c8b1
        try clear c11
        try clear c11b0
        try clear hcz10_0
        try clear hcz10_1
        try clear hcz10_2
        try clear hcz10_3
        try clear hcz10_4
        try clear hcz12_0
        try clear hcz12_1
        try clear hcz12_2
        try clear hcz12_3
        try clear hcz12_4
        try clear hcz5_0
        try clear hcz5_1
        try clear hcz5_2
        try clear hcz5_3
        try clear hcz5_4
        try clear hcz6_0
        try clear hcz6_1
        try clear hcz6_2
        try clear hcz6_3
        try clear hcz6_4
        try clear hcz9_0
        try clear hcz9_1
        try clear hcz9_2
        try clear hcz9_3
        try clear hcz9_4
        try clear hfz10_0
        try clear hfz10_1
        try clear hfz10_2
        try clear hfz10_3
        try clear hfz10_4
        try clear hfz12_0
        try clear hfz12_1
        try clear hfz12_2
        try clear hfz12_3
        try clear hfz12_4
        try clear hfz5_0
        try clear hfz5_1
        try clear hfz5_2
        try clear hfz5_3
        try clear hfz5_4
        try clear hfz6_0
        try clear hfz6_1
        try clear hfz6_2
        try clear hfz6_3
        try clear hfz6_4
        try clear hfz9_0
        try clear hfz9_1
        try clear hfz9_2
        try clear hfz9_3
        try clear hfz9_4
        try clear p2
        obtain ⟨x4_3, rfl, HA, HK3, BK308, HB⟩ := hrel
        cases gk with
        | zero => exact absurd HA.out (by simp [boltingref04_Row.l1])
        | succ k3 =>
         have H := HA.out
         clear HA
         simp only [boltingref04_Row.l1] at H
         by_cases c13 : x4_3 < x3_2
         ·rw [if_pos c13] at H
          have c13b0 : decide (x4_3 < x3_2) = true := decide_eq_true c13
          clear c13
          by_cases c14 : 0 ≤ x3_2
          ·rw [if_pos c14] at H
           have c14b0 : decide (0 ≤ x3_2) = true := decide_eq_true c14
           clear c14
           by_cases c15 : x3_2 < (l0_4.length : Int)
           ·rw [if_pos c15] at H
            have c15b0 : decide (x3_2 < (l0_4.length : Int)) = true := decide_eq_true c15
            clear c15
            by_cases c16 : 0 ≤ x4_3
            ·rw [if_pos c16] at H
             have c16b0 : decide (0 ≤ x4_3) = true := decide_eq_true c16
             clear c16
             by_cases c17 : x4_3 < (l0_4.length : Int)
             ·rw [if_pos c17] at H
              have c17b0 : decide (x4_3 < (l0_4.length : Int)) = true := decide_eq_true c17
              clear c17
              by_cases c18 : ((rd_T45 l0_4 x3_2).f0).toList = ((rd_T45 l0_4 x4_3).f0).toList
              ·rw [if_pos c18] at H
               have c18b0 : (((rd_T45 l0_4 x3_2).f0).toList == ((rd_T45 l0_4 x4_3).f0).toList) = true := beq_iff_eq.mpr c18
               have c18b1 : (((rd_T45 l0_4 x3_2).f0).toList != ((rd_T45 l0_4 x4_3).f0).toList) = false := bne_eq_false_iff_eq.mpr c18
               clear c18
               obtain rfl := Option.some.inj H
               obtain ⟨hcz19_0, hcz19_1, hcz19_2, hcz19_3, hcz19_4, hfz19_0, hfz19_1, hfz19_2, hfz19_3, hfz19_4⟩ := cz5 BK308.out
               have p309 : 0 ≤ (x3_2 : Int) := of_decide_eq_true za
               have q309 : x3_2 < (l0_4.length : Int) := of_decide_eq_true za
               obtain ⟨ad309, e309, hx309_0, hx309_1⟩ := at_T45 HR0_4.out x3_2 p309 q309
               cases e309
               replace hx309_0 := (HB.out.cell (World.block_lt_of_cell? w _ hx309_0)).trans hx309_0
               replace hx309_1 := (HB.out.cell (World.block_lt_of_cell? w _ hx309_1)).trans hx309_1
               replace p309 := eq_true p309
               replace q309 := eq_true q309
               have p310 : 0 ≤ (x4_3 : Int) := of_decide_eq_true za
               have q310 : x4_3 < (l0_4.length : Int) := of_decide_eq_true za
               obtain ⟨ad310, e310, hx310_0, hx310_1⟩ := at_T45 HR0_4.out x4_3 p310 q310
               obtain rfl : ad309 = ad310 := (by injection e310)
               replace hx310_0 := (HB.out.cell (World.block_lt_of_cell? w _ hx310_0)).trans hx310_0
               replace hx310_1 := (HB.out.cell (World.block_lt_of_cell? w _ hx310_1)).trans hx310_1
               replace p310 := eq_true p310
               replace q310 := eq_true q310
               go_wp2
               repeat (go_quiet (fail); try go_wp2)
               go_ret
               exact ⟨ze, zb1 HB GE308⟩
              ·rw [if_neg c18] at H
               have c18b0 : (((rd_T45 l0_4 x3_2).f0).toList == ((rd_T45 l0_4 x4_3).f0).toList) = false := beq_eq_false_iff_ne.mpr c18
               have c18b1 : (((rd_T45 l0_4 x3_2).f0).toList != ((rd_T45 l0_4 x4_3).f0).toList) = true := bne_iff_ne.mpr c18
               have H' := Aside0.mk H
               clear H
               obtain ⟨hcz20_0, hcz20_1, hcz20_2, hcz20_3, hcz20_4, hfz20_0, hfz20_1, hfz20_2, hfz20_3, hfz20_4⟩ := cz5 BK308.out
               have p309 : 0 ≤ (x3_2 : Int) := of_decide_eq_true za
               have q309 : x3_2 < (l0_4.length : Int) := of_decide_eq_true za
               obtain ⟨ad309, e309, hx309_0, hx309_1⟩ := at_T45 HR0_4.out x3_2 p309 q309
               cases e309
               replace hx309_0 := (HB.out.cell (World.block_lt_of_cell? w _ hx309_0)).trans hx309_0
               replace hx309_1 := (HB.out.cell (World.block_lt_of_cell? w _ hx309_1)).trans hx309_1
               replace p309 := eq_true p309
               replace q309 := eq_true q309
               have p310 : 0 ≤ (x4_3 : Int) := of_decide_eq_true za
               have q310 : x4_3 < (l0_4.length : Int) := of_decide_eq_true za
               obtain ⟨ad310, e310, hx310_0, hx310_1⟩ := at_T45 HR0_4.out x4_3 p310 q310
               obtain rfl : ad309 = ad310 := (by injection e310)
               replace hx310_0 := (HB.out.cell (World.block_lt_of_cell? w _ hx310_0)).trans hx310_0
               replace hx310_1 := (HB.out.cell (World.block_lt_of_cell? w _ hx310_1)).trans hx310_1
               replace p310 := eq_true p310
               replace q310 := eq_true q310
               go_wp2
               repeat (go_quiet (fail); try go_wp2)
               go_roundg k3
               case measure => have := HJ1.out; have := HK2.out; have := HK3.out; omega
               case rel => exact ⟨(wrap64 (x4_3 + 1)), zr, H', ⟨by have := HJ1.out; have := HK2.out; have := HK3.out; omega⟩, ⟨by exact BK308.out⟩, ⟨zb1 HB GE308⟩⟩
             ·rw [if_neg c17] at H
              exact absurd H (by simp)
            ·rw [if_neg c16] at H
             exact absurd H (by simp)
           ·rw [if_neg c15] at H
            exact absurd H (by simp)
          ·rw [if_neg c14] at H
           exact absurd H (by simp)
         ·rw [if_neg c13] at H
          have c13b0 : decide (x4_3 < x3_2) = false := decide_eq_false c13
          clear c13
          have H' := Aside0.mk H
          clear H
          go_wp2
          repeat (go_quiet (fail); try go_wp2)
          go_roundg k3
          case measure => have := HJ1.out; have := HK2.out; have := HK3.out; omega
          case rel => exact ⟨(wrap64 (x3_2 + 1)), zr, H', ⟨by have := HJ1.out; have := HK2.out; have := HK3.out; omega⟩, ⟨by exact BK308.out⟩, ⟨zb1 HB GE308⟩⟩
      ·rw [if_neg c11] at H
       have c11b0 : decide (x3_2 < (l0_4.length : Int)) = false := decide_eq_false c11
       clear c11
       by_cases c21 : a0_1 = 0
       ·rw [if_pos c21] at H
        have c21b0 : (a0_1 == 0) = true := beq_iff_eq.mpr c21
        have c21b1 : (a0_1 != 0) = false := bne_eq_false_iff_eq.mpr c21
        clear c21
        by_cases c22 : a0_2.toList = ([] : List UInt8)
        ·rw [if_pos c22] at H
         have c22b0 : (a0_2.toList == ([] : List UInt8)) = true := beq_iff_eq.mpr c22
         have c22b1 : (a0_2.toList != ([] : List UInt8)) = false := bne_eq_false_iff_eq.mpr c22
         clear c22
         obtain rfl := Option.some.inj H
         obtain ⟨hcz23_0, hcz23_1, hcz23_2, hcz23_3, hcz23_4, hfz23_0, hfz23_1, hfz23_2, hfz23_3, hfz23_4⟩ := cz5 BK308.out
         go_wp2
         repeat (go_quiet (fail); try go_wp2)
         go_ret
         exact ⟨ze, zb1 HB GE308⟩
        ·rw [if_neg c22] at H
         have c22b0 : (a0_2.toList == ([] : List UInt8)) = false := beq_eq_false_iff_ne.mpr c22
         have c22b1 : (a0_2.toList != ([] : List UInt8)) = true := bne_iff_ne.mpr c22
         obtain rfl := Option.some.inj H
         obtain ⟨hcz24_0, hcz24_1, hcz24_2, hcz24_3, hcz24_4, hfz24_0, hfz24_1, hfz24_2, hfz24_3, hfz24_4⟩ := cz5 BK308.out
         go_wp2
         repeat (go_quiet (fail); try go_wp2)
         go_ret
         exact ⟨ze, zb1 HB GE308⟩
       ·rw [if_neg c21] at H
        have c21b0 : (a0_1 == 0) = false := beq_eq_false_iff_ne.mpr c21
        have c21b1 : (a0_1 != 0) = true := bne_iff_ne.mpr c21
        obtain rfl := Option.some.inj H
        obtain ⟨hcz25_0, hcz25_1, hcz25_2, hcz25_3, hcz25_4, hfz25_0, hfz25_1, hfz25_2, hfz25_3, hfz25_4⟩ := cz5 BK308.out
        go_wp2
        repeat (go_quiet (fail); try go_wp2)
        go_ret
        exact ⟨ze, zb1 HB GE308⟩

end Go.Proofs.YticacakoefojbaaGreat.Pr
namespace Go.Proofs.YticacakoefojbaaGreat.Pr
open Go.RowKit Go.Proofs.YticacakoefojbaaGreatW.PrintWords Go.Proofs.YticacakoefojbaaGreatW.PrintLast Go.Proofs.YticacakoefojbaaGreatW.PrintMore
attribute [local go_sem] max2_int min2_int max_two min_two max_three min_three max_four min_four   -- for this text's walks alone
set_option linter.unusedVariables false
set_option linter.unusedSimpArgs false

mutual
def boltingref04_Right.l0 : Nat → List (S38) → Int → Option (Bool)
 | 0, _, _ => none
 | k + 1, x0, x3 => if x3 < (x0.length : Int) then (if 0 ≤ x3 then ((boltingref04_Row.f k ((rd_T38 x0 x3).f0) ((rd_T38 x0 x3).f1) ((rd_T38 x0 x3).f2) ((rd_T38 x0 x3).f3) ((rd_T38 x0 x3).f4)).bind fun t313 => (if t313 = true then (if ((rd_T38 x0 x3).f0) < 0 then (boltingref04_Right.j1 k x0 x3 ((rd_T38 x0 x3).f0) true) else (if x3 = 0 then (boltingref04_Right.j1 k x0 x3 ((rd_T38 x0 x3).f0) (((rd_T38 x0 x3).f0) != 0)) else (boltingref04_Right.j1 k x0 x3 ((rd_T38 x0 x3).f0) false))) else (boltingref04_Right.j1 k x0 x3 ((rd_T38 x0 x3).f0) true))) else (none)) else (some true)
def boltingref04_Right.j1 : Nat → List (S38) → Int → Int → Bool → Option (Bool)
 | 0, _, _, _, _ => none
 | k + 1, x0, x3, x4, x33 => if x33 = true then (some false) else (if x3 > 0 then (if 0 ≤ (wrap64 (x3 - 1)) then (if (wrap64 (x3 - 1)) < (x0.length : Int) then (if x4 > (wrap64 (((rd_T38 x0 (wrap64 (x3 - 1))).f0) + 1)) then (some false) else (if x4 = (wrap64 (((rd_T38 x0 (wrap64 (x3 - 1))).f0) + 1)) then (if ((rd_T38 x0 (wrap64 (x3 - 1))).f1) = 0 then (boltingref04_Right.l0 k x0 (wrap64 (x3 + 1))) else (some false)) else (boltingref04_Right.l0 k x0 (wrap64 (x3 + 1))))) else (none)) else (none)) else (boltingref04_Right.l0 k x0 (wrap64 (x3 + 1))))
end
def boltingref04_Right.f (k : Nat) (l0 : List (S38)) : Option (Bool) := boltingref04_Right.l0 k l0 0
set_option maxHeartbeats 8000000 in
set_option maxRecDepth 100000 in
theorem boltingref04_Right.calls (k : Nat) (A0 : Option Addr) (c0 : Nat) (l0 : List (S38)) (r : Bool) (w : World) (hr0 : Kd.C k38 w A0 l0.length l0) (hc0 : l0.length ≤ c0) (h : boltingref04_Right.f k l0 = some r) :
  Calls Tryz.prog 30 #[.slice A0 l0.length c0] w fun e w' => e = .returned (.bool r) ∧ Below w.heap.size w w' := by
 have hu38 := Tryz.underlying38
 have HR0 := Aside0.mk hr0
 have HC0 := Aside0.mk hc0
 clear hr0 hc0
 have HB := Aside0.mk (Below.refl w.heap.size w)
 have H : (boltingref04_Right.l0 k l0 0) = some r := h
 clear h
 have H' := Aside0.mk H
 clear H
 go_enter Tryz.func30, Tryz.ntmps30
 go_wp2
 go_loopg [3] k (fun kq v3 w' => ∃ (x3_1 : Int), v3 = .int .i64 x3_1 ∧ Aside0 (boltingref04_Right.l0 kq l0 x3_1 = some r) ∧ Aside0 (kq ≤ k) ∧ Aside0 (Below w.heap.size w w'))
 case atStart => exact ⟨(0), zr, H', ⟨Nat.le_refl _⟩, ⟨zb HB⟩⟩
 case round =>
  clear H'
  obtain ⟨x3_1, rfl, HA, HK1, HB⟩ := hrel
  cases gk with
  | zero => exact absurd HA.out (by simp [boltingref04_Right.l0])
  | succ k1 =>
   have H := HA.out
   clear HA
   simp only [boltingref04_Right.l0] at H
   by_cases c2 : x3_1 < (l0.length : Int)
   ·rw [if_pos c2] at H
    have c2b0 : decide (x3_1 < (l0.length : Int)) = true := decide_eq_true c2
    clear c2
    by_cases c3 : 0 ≤ x3_1
    ·rw [if_pos c3] at H
     have c3b0 : decide (0 ≤ x3_1) = true := decide_eq_true c3
     clear c3
     have HC4 := Aside0.mk H
     clear H
     have p311 : 0 ≤ (x3_1 : Int) := of_decide_eq_true za
     have q311 : x3_1 < (l0.length : Int) := of_decide_eq_true za
     obtain ⟨ad311, A311_4, c311_4, e311, hx311_0, hx311_1, hx311_2, hx311_3, hx311_4, hl311_4, hi311_4⟩ := at_T38 HR0.out x3_1 p311 q311
     cases e311
     replace hx311_0 := (HB.out.cell (World.block_lt_of_cell? w _ hx311_0)).trans hx311_0
     replace hx311_1 := (HB.out.cell (World.block_lt_of_cell? w _ hx311_1)).trans hx311_1
     replace hx311_2 := (HB.out.cell (World.block_lt_of_cell? w _ hx311_2)).trans hx311_2
     replace hx311_3 := (HB.out.cell (World.block_lt_of_cell? w _ hx311_3)).trans hx311_3
     replace hx311_4 := (HB.out.cell (World.block_lt_of_cell? w _ hx311_4)).trans hx311_4
     have HR311_4 := Aside0.mk hi311_4
     have HC311_4 := Aside0.mk hl311_4
     clear hi311_4 hl311_4
     replace p311 := eq_true p311
     replace q311 := eq_true q311
     go_upto_region 5 with (fail)
     go_cut [33] (fun v33 wc => ∃ (kq : Nat) (x33_3 : Bool), v33 = .bool x33_3 ∧ Aside0 (boltingref04_Right.j1 kq l0 x3_1 ((rd_T38 l0 x3_1).f0) x33_3 = some r) ∧ Aside0 (kq ≤ k1) ∧ Aside0 (Below w.heap.size w wc))
     case first =>
      have H := HC4.out
      clear HC4
      replace H := Option.bind_eq_some_iff.mp H
      obtain ⟨t313, A50, H⟩ := H
      have A5 := Aside0.mk A50
      clear A50
      by_cases c6 : t313 = true
      ·subst c6
       replace H : (if ((rd_T38 l0 x3_1).f0) < 0 then (boltingref04_Right.j1 k1 l0 x3_1 ((rd_T38 l0 x3_1).f0) true) else (if x3_1 = 0 then (boltingref04_Right.j1 k1 l0 x3_1 ((rd_T38 l0 x3_1).f0) (((rd_T38 l0 x3_1).f0) != 0)) else (boltingref04_Right.j1 k1 l0 x3_1 ((rd_T38 l0 x3_1).f0) false))) = some r := by rw [if_pos rfl] at H; exact H
       by_cases c7 : ((rd_T38 l0 x3_1).f0) < 0
       ·rw [if_pos c7] at H
        have c7b0 : decide (((rd_T38 l0 x3_1).f0) < 0) = true := decide_eq_true c7
        clear c7
        (first | rw [c7b0] | (simp only [i64_w, i32_w]; rw [c7b0]) | skip)
        have H' := Aside0.mk H
        clear H
        have p312 : 0 ≤ (x3_1 : Int) := of_decide_eq_true za
        have q312 : x3_1 < (l0.length : Int) := of_decide_eq_true za
        obtain ⟨ad312, A312_4, c312_4, e312, hx312_0, hx312_1, hx312_2, hx312_3, hx312_4, hl312_4, hi312_4⟩ := at_T38 HR0.out x3_1 p312 q312
        obtain rfl : ad311 = ad312 := (by injection e312)
        replace hx312_0 := (HB.out.cell (World.block_lt_of_cell? w _ hx312_0)).trans hx312_0
        replace hx312_1 := (HB.out.cell (World.block_lt_of_cell? w _ hx312_1)).trans hx312_1
        replace hx312_2 := (HB.out.cell (World.block_lt_of_cell? w _ hx312_2)).trans hx312_2
        replace hx312_3 := (HB.out.cell (World.block_lt_of_cell? w _ hx312_3)).trans hx312_3
        replace hx312_4 := (HB.out.cell (World.block_lt_of_cell? w _ hx312_4)).trans hx312_4
        (try (have eq_ := hx312_4.symm.trans hx311_4; simp only [Option.some.injEq, Value.slice.injEq] at eq_; obtain ⟨eqA_, _, eqc_⟩ := eq_; subst eqA_; subst eqc_))
        have HR312_4 := Aside0.mk hi312_4
        have HC312_4 := Aside0.mk hl312_4
        clear hi312_4 hl312_4
        replace p312 := eq_true p312
        replace q312 := eq_true q312
        go_wp2_with (first | ((with_reducible refine gate_callee (f := 50) rfl ?_); refine goesL_ (some 20) rfl rfl Tryz.func50 (by kernel_rfl) rfl #[.agg #[.int .i64 ((rd_T38 l0 x3_1).f0), .int .i64 ((rd_T38 l0 x3_1).f1), .string ((rd_T38 l0 x3_1).f2), .string ((rd_T38 l0 x3_1).f3), .slice A312_4 ((rd_T38 l0 x3_1).f4).length c312_4]] rfl zm ?_; (with_reducible refine (boltingref04_Row.calls k1 ((rd_T38 l0 x3_1).f0) ((rd_T38 l0 x3_1).f1) ((rd_T38 l0 x3_1).f2) ((rd_T38 l0 x3_1).f3) _ _ ((rd_T38 l0 x3_1).f4) true _ ?side1 ?side2 A5.out).mono ?_); (case side1 => exact zc (Kd.C_below HR312_4.out HB.out)); (case side2 => exact HC312_4.out); rintro e w8 ⟨rfl, hb⟩; refine ⟨_, rfl, ?_⟩; have n0_ := Aside0.mk (below_step (zb HB) hb); clear HB; have HB := n0_; clear n0_; (try clear hb)))
        go_meet
        case rel => exact ⟨_, (true), zr, H', ⟨by have := HK1.out; first | omega | exact Nat.le_refl _⟩, ⟨zb HB⟩⟩
       ·rw [if_neg c7] at H
        have c7b0 : decide (((rd_T38 l0 x3_1).f0) < 0) = false := decide_eq_false c7
        clear c7
        (first | rw [c7b0] | (simp only [i64_w, i32_w]; rw [c7b0]) | skip)
        by_cases c9 : x3_1 = 0
        ·rw [if_pos c9] at H
         have c9b0 : (x3_1 == 0) = true := beq_iff_eq.mpr c9
         have c9b1 : (x3_1 != 0) = false := bne_eq_false_iff_eq.mpr c9
         clear c9
         have H' := Aside0.mk H
         clear H
         have p312 : 0 ≤ (x3_1 : Int) := of_decide_eq_true za
         have q312 : x3_1 < (l0.length : Int) := of_decide_eq_true za
         obtain ⟨ad312, A312_4, c312_4, e312, hx312_0, hx312_1, hx312_2, hx312_3, hx312_4, hl312_4, hi312_4⟩ := at_T38 HR0.out x3_1 p312 q312
         obtain rfl : ad311 = ad312 := (by injection e312)
         replace hx312_0 := (HB.out.cell (World.block_lt_of_cell? w _ hx312_0)).trans hx312_0
         replace hx312_1 := (HB.out.cell (World.block_lt_of_cell? w _ hx312_1)).trans hx312_1
         replace hx312_2 := (HB.out.cell (World.block_lt_of_cell? w _ hx312_2)).trans hx312_2
         replace hx312_3 := (HB.out.cell (World.block_lt_of_cell? w _ hx312_3)).trans hx312_3
         replace hx312_4 := (HB.out.cell (World.block_lt_of_cell? w _ hx312_4)).trans hx312_4
         (try (have eq_ := hx312_4.symm.trans hx311_4; simp only [Option.some.injEq, Value.slice.injEq] at eq_; obtain ⟨eqA_, _, eqc_⟩ := eq_; subst eqA_; subst eqc_))
         have HR312_4 := Aside0.mk hi312_4
         have HC312_4 := Aside0.mk hl312_4
         clear hi312_4 hl312_4
         replace p312 := eq_true p312
         replace q312 := eq_true q312
         go_wp2_with (first | ((with_reducible refine gate_callee (f := 50) rfl ?_); refine goesL_ (some 20) rfl rfl Tryz.func50 (by kernel_rfl) rfl #[.agg #[.int .i64 ((rd_T38 l0 x3_1).f0), .int .i64 ((rd_T38 l0 x3_1).f1), .string ((rd_T38 l0 x3_1).f2), .string ((rd_T38 l0 x3_1).f3), .slice A312_4 ((rd_T38 l0 x3_1).f4).length c312_4]] rfl zm ?_; (with_reducible refine (boltingref04_Row.calls k1 ((rd_T38 l0 x3_1).f0) ((rd_T38 l0 x3_1).f1) ((rd_T38 l0 x3_1).f2) ((rd_T38 l0 x3_1).f3) _ _ ((rd_T38 l0 x3_1).f4) true _ ?side1 ?side2 A5.out).mono ?_); (case side1 => exact zc (Kd.C_below HR312_4.out HB.out)); (case side2 => exact HC312_4.out); rintro e w10 ⟨rfl, hb⟩; refine ⟨_, rfl, ?_⟩; have n0_ := Aside0.mk (below_step (zb HB) hb); clear HB; have HB := n0_; clear n0_; (try clear hb)))
         go_meet
         case rel => exact ⟨_, ((((rd_T38 l0 x3_1).f0) != 0)), zr, H', ⟨by have := HK1.out; first | omega | exact Nat.le_refl _⟩, ⟨zb HB⟩⟩
        ·rw [if_neg c9] at H
         have c9b0 : (x3_1 == 0) = false := beq_eq_false_iff_ne.mpr c9
         have c9b1 : (x3_1 != 0) = true := bne_iff_ne.mpr c9
         have H' := Aside0.mk H
         clear H
         have p312 : 0 ≤ (x3_1 : Int) := of_decide_eq_true za
         have q312 : x3_1 < (l0.length : Int) := of_decide_eq_true za
         obtain ⟨ad312, A312_4, c312_4, e312, hx312_0, hx312_1, hx312_2, hx312_3, hx312_4, hl312_4, hi312_4⟩ := at_T38 HR0.out x3_1 p312 q312
         obtain rfl : ad311 = ad312 := (by injection e312)
         replace hx312_0 := (HB.out.cell (World.block_lt_of_cell? w _ hx312_0)).trans hx312_0
         replace hx312_1 := (HB.out.cell (World.block_lt_of_cell? w _ hx312_1)).trans hx312_1
         replace hx312_2 := (HB.out.cell (World.block_lt_of_cell? w _ hx312_2)).trans hx312_2
         replace hx312_3 := (HB.out.cell (World.block_lt_of_cell? w _ hx312_3)).trans hx312_3
         replace hx312_4 := (HB.out.cell (World.block_lt_of_cell? w _ hx312_4)).trans hx312_4
         (try (have eq_ := hx312_4.symm.trans hx311_4; simp only [Option.some.injEq, Value.slice.injEq] at eq_; obtain ⟨eqA_, _, eqc_⟩ := eq_; subst eqA_; subst eqc_))
         have HR312_4 := Aside0.mk hi312_4
         have HC312_4 := Aside0.mk hl312_4
         clear hi312_4 hl312_4
         replace p312 := eq_true p312
         replace q312 := eq_true q312
         go_wp2_with (first | ((with_reducible refine gate_callee (f := 50) rfl ?_); refine goesL_ (some 20) rfl rfl Tryz.func50 (by kernel_rfl) rfl #[.agg #[.int .i64 ((rd_T38 l0 x3_1).f0), .int .i64 ((rd_T38 l0 x3_1).f1), .string ((rd_T38 l0 x3_1).f2), .string ((rd_T38 l0 x3_1).f3), .slice A312_4 ((rd_T38 l0 x3_1).f4).length c312_4]] rfl zm ?_; (with_reducible refine (boltingref04_Row.calls k1 ((rd_T38 l0 x3_1).f0) ((rd_T38 l0 x3_1).f1) ((rd_T38 l0 x3_1).f2) ((rd_T38 l0 x3_1).f3) _ _ ((rd_T38 l0 x3_1).f4) true _ ?side1 ?side2 A5.out).mono ?_); (case side1 => exact zc (Kd.C_below HR312_4.out HB.out)); (case side2 => exact HC312_4.out); rintro e w11 ⟨rfl, hb⟩; refine ⟨_, rfl, ?_⟩; have n0_ := Aside0.mk (below_step (zb HB) hb); clear HB; have HB := n0_; clear n0_; (try clear hb)))
         go_meet
         case rel => exact ⟨_, (false), zr, H', ⟨by have := HK1.out; first | omega | exact Nat.le_refl _⟩, ⟨zb HB⟩⟩
      ·replace c6 := Bool.eq_false_iff.mpr c6
       subst c6
       replace H : (boltingref04_Right.j1 k1 l0 x3_1 ((rd_T38 l0 x3_1).f0) true) = some r := by rw [if_neg (show ¬ (false = true) by decide)] at H; exact H
       have H' := Aside0.mk H
       clear H
       have p312 : 0 ≤ (x3_1 : Int) := of_decide_eq_true za
       have q312 : x3_1 < (l0.length : Int) := of_decide_eq_true za
       obtain ⟨ad312, A312_4, c312_4, e312, hx312_0, hx312_1, hx312_2, hx312_3, hx312_4, hl312_4, hi312_4⟩ := at_T38 HR0.out x3_1 p312 q312
       obtain rfl : ad311 = ad312 := (by injection e312)
       replace hx312_0 := (HB.out.cell (World.block_lt_of_cell? w _ hx312_0)).trans hx312_0
       replace hx312_1 := (HB.out.cell (World.block_lt_of_cell? w _ hx312_1)).trans hx312_1
       replace hx312_2 := (HB.out.cell (World.block_lt_of_cell? w _ hx312_2)).trans hx312_2
       replace hx312_3 := (HB.out.cell (World.block_lt_of_cell? w _ hx312_3)).trans hx312_3
       replace hx312_4 := (HB.out.cell (World.block_lt_of_cell? w _ hx312_4)).trans hx312_4
       (try (have eq_ := hx312_4.symm.trans hx311_4; simp only [Option.some.injEq, Value.slice.injEq] at eq_; obtain ⟨eqA_, _, eqc_⟩ := eq_; subst eqA_; subst eqc_))
       have HR312_4 := Aside0.mk hi312_4
       have HC312_4 := Aside0.mk hl312_4
       clear hi312_4 hl312_4
       replace p312 := eq_true p312
       replace q312 := eq_true q312
       go_wp2_with (first | ((with_reducible refine gate_callee (f := 50) rfl ?_); refine goesL_ (some 20) rfl rfl Tryz.func50 (by kernel_rfl) rfl #[.agg #[.int .i64 ((rd_T38 l0 x3_1).f0), .int .i64 ((rd_T38 l0 x3_1).f1), .string ((rd_T38 l0 x3_1).f2), .string ((rd_T38 l0 x3_1).f3), .slice A312_4 ((rd_T38 l0 x3_1).f4).length c312_4]] rfl zm ?_; (with_reducible refine (boltingref04_Row.calls k1 ((rd_T38 l0 x3_1).f0) ((rd_T38 l0 x3_1).f1) ((rd_T38 l0 x3_1).f2) ((rd_T38 l0 x3_1).f3) _ _ ((rd_T38 l0 x3_1).f4) false _ ?side1 ?side2 A5.out).mono ?_); (case side1 => exact zc (Kd.C_below HR312_4.out HB.out)); (case side2 => exact HC312_4.out); rintro e w12 ⟨rfl, hb⟩; refine ⟨_, rfl, ?_⟩; have n0_ := Aside0.mk (below_step (zb HB) hb); clear HB; have HB := n0_; clear n0_; (try clear hb)))
       go_meet
       case rel => exact ⟨_, (true), zr, H', ⟨by have := HK1.out; first | omega | exact Nat.le_refl _⟩, ⟨zb HB⟩⟩
     case rest =>
      clear HC4
      try clear c2
      try clear c2b0
      try clear p2
      try clear c3
      try clear c3b0
      try clear p3
      try clear q3
      try clear hx3
      try clear c5
      try clear c6
      try clear c7
      try clear c7b0
      try clear c9
      try clear c9b0
      try clear c9b1
      try clear hx311_0
      try clear hx311_1
      try clear hx311_2
      try clear hx311_3
      try clear hx311_4
      try clear hx312_0
      try clear hx312_1
      try clear hx312_2
      try clear hx312_3
      try clear hx312_4
      try clear p311
      try clear p312
      try clear q311
      try clear q312
      obtain ⟨kq, x33_3, rfl, HA, HJ3, HB⟩ := hcut
      cases kq with
      | zero => exact absurd HA.out (by simp [boltingref04_Right.j1])
      | succ kj3 =>
       have H := HA.out
       clear HA
       simp only [boltingref04_Right.j1] at H
       by_cases c13 : x33_3 = true
       ·subst c13
        replace H : (some false) = some r := by rw [if_pos rfl] at H; exact H
        obtain rfl := Option.some.inj H
        go_wp2
        go_ret
        exact ⟨ze, zb HB⟩
       ·replace c13 := Bool.eq_false_iff.mpr c13
        subst c13
        replace H : (if x3_1 > 0 then (if 0 ≤ (wrap64 (x3_1 - 1)) then (if (wrap64 (x3_1 - 1)) < (l0.length : Int) then (if ((rd_T38 l0 x3_1).f0) > (wrap64 (((rd_T38 l0 (wrap64 (x3_1 - 1))).f0) + 1)) then (some false) else (if ((rd_T38 l0 x3_1).f0) = (wrap64 (((rd_T38 l0 (wrap64 (x3_1 - 1))).f0) + 1)) then (if ((rd_T38 l0 (wrap64 (x3_1 - 1))).f1) = 0 then (boltingref04_Right.l0 kj3 l0 (wrap64 (x3_1 + 1))) else (some false)) else (boltingref04_Right.l0 kj3 l0 (wrap64 (x3_1 + 1))))) else (none)) else (none)) else (boltingref04_Right.l0 kj3 l0 (wrap64 (x3_1 + 1)))) = some r := by rw [if_neg (show ¬ (false = true) by decide)] at H; exact H
        by_cases c14 : x3_1 > 0
        ·rw [if_pos c14] at H
         have c14b0 : decide (0 < x3_1) = true := decide_eq_true c14
         clear c14
         obtain ⟨ji15, hji15⟩ : ∃ j_ : Int, (wrap64 (x3_1 - 1)) = j_ := ⟨_, rfl⟩
         replace H : (if 0 ≤ (ji15) then (if (ji15) < (l0.length : Int) then (if ((rd_T38 l0 x3_1).f0) > (wrap64 (((rd_T38 l0 (ji15)).f0) + 1)) then (some false) else (if ((rd_T38 l0 x3_1).f0) = (wrap64 (((rd_T38 l0 (ji15)).f0) + 1)) then (if ((rd_T38 l0 (ji15)).f1) = 0 then (boltingref04_Right.l0 kj3 l0 (wrap64 (x3_1 + 1))) else (some false)) else (boltingref04_Right.l0 kj3 l0 (wrap64 (x3_1 + 1))))) else (none)) else (none)) = some r := by first | (rw [hji15] at H; exact H) | (simp only [hji15] at H ⊢; exact H)
         have hji15w : (IntKind.i64.wrap (x3_1 - 1)) = ji15 := (i64_w _).trans hji15
         by_cases c16 : 0 ≤ (ji15)
         ·rw [if_pos c16] at H
          have c16b0 : decide (0 ≤ (ji15)) = true := decide_eq_true c16
          clear c16
          by_cases c17 : (ji15) < (l0.length : Int)
          ·rw [if_pos c17] at H
           have c17b0 : decide ((ji15) < (l0.length : Int)) = true := decide_eq_true c17
           clear c17
           by_cases c18 : ((rd_T38 l0 x3_1).f0) > (wrap64 (((rd_T38 l0 (ji15)).f0) + 1))
           ·rw [if_pos c18] at H
            have c18b0 : decide ((wrap64 (((rd_T38 l0 (ji15)).f0) + 1)) < ((rd_T38 l0 x3_1).f0)) = true := decide_eq_true c18
            clear c18
            obtain rfl := Option.some.inj H
            have p314 : 0 ≤ ((ji15) : Int) := of_decide_eq_true za
            have q314 : (ji15) < (l0.length : Int) := of_decide_eq_true za
            obtain ⟨ad314, A314_4, c314_4, e314, hx314_0, hx314_1, hx314_2, hx314_3, hx314_4, hl314_4, hi314_4⟩ := at_T38 HR0.out (ji15) p314 q314
            obtain rfl : ad311 = ad314 := (by injection e314)
            replace hx314_0 := (HB.out.cell (World.block_lt_of_cell? w _ hx314_0)).trans hx314_0
            replace hx314_1 := (HB.out.cell (World.block_lt_of_cell? w _ hx314_1)).trans hx314_1
            replace hx314_2 := (HB.out.cell (World.block_lt_of_cell? w _ hx314_2)).trans hx314_2
            replace hx314_3 := (HB.out.cell (World.block_lt_of_cell? w _ hx314_3)).trans hx314_3
            replace hx314_4 := (HB.out.cell (World.block_lt_of_cell? w _ hx314_4)).trans hx314_4
            (try (have eq_ := hx314_4.symm.trans hx311_4; simp only [Option.some.injEq, Value.slice.injEq] at eq_; obtain ⟨eqA_, _, eqc_⟩ := eq_; subst eqA_; subst eqc_))
            have HR314_4 := Aside0.mk hi314_4
            have HC314_4 := Aside0.mk hl314_4
            clear hi314_4 hl314_4
            replace p314 := eq_true p314
            replace q314 := eq_true q314
            go_wp2
            go_ret
            exact ⟨by first | rfl | (simp [errW_none, errW_some] <;> rfl) | (simp only [← hji15]; first | rfl | (simp [errW_none, errW_some] <;> rfl)) | (simp [*, errW_none, errW_some] <;> rfl), zb HB⟩
           ·rw [if_neg c18] at H
            have c18b0 : decide ((wrap64 (((rd_T38 l0 (ji15)).f0) + 1)) < ((rd_T38 l0 x3_1).f0)) = false := decide_eq_false c18
            clear c18
            by_cases c19 : ((rd_T38 l0 x3_1).f0) = (wrap64 (((rd_T38 l0 (ji15)).f0) + 1))
            ·rw [if_pos c19] at H
             have c19b0 : (((rd_T38 l0 x3_1).f0) == (wrap64 (((rd_T38 l0 (ji15)).f0) + 1))) = true := beq_iff_eq.mpr c19
             have c19b1 : (((rd_T38 l0 x3_1).f0) != (wrap64 (((rd_T38 l0 (ji15)).f0) + 1))) = false := bne_eq_false_iff_eq.mpr c19
             clear c19
             by_cases c20 : ((rd_T38 l0 (ji15)).f1) = 0
             ·rw [if_pos c20] at H
              have c20b0 : (((rd_T38 l0 (ji15)).f1) == 0) = true := beq_iff_eq.mpr c20
              have c20b1 : (((rd_T38 l0 (ji15)).f1) != 0) = false := bne_eq_false_iff_eq.mpr c20
              clear c20
              have H' := Aside0.mk H
              clear H
              have p314 : 0 ≤ ((ji15) : Int) := of_decide_eq_true za
              have q314 : (ji15) < (l0.length : Int) := of_decide_eq_true za
              obtain ⟨ad314, A314_4, c314_4, e314, hx314_0, hx314_1, hx314_2, hx314_3, hx314_4, hl314_4, hi314_4⟩ := at_T38 HR0.out (ji15) p314 q314
              obtain rfl : ad311 = ad314 := (by injection e314)
              replace hx314_0 := (HB.out.cell (World.block_lt_of_cell? w _ hx314_0)).trans hx314_0
              replace hx314_1 := (HB.out.cell (World.block_lt_of_cell? w _ hx314_1)).trans hx314_1
              replace hx314_2 := (HB.out.cell (World.block_lt_of_cell? w _ hx314_2)).trans hx314_2
              replace hx314_3 := (HB.out.cell (World.block_lt_of_cell? w _ hx314_3)).trans hx314_3
              replace hx314_4 := (HB.out.cell (World.block_lt_of_cell? w _ hx314_4)).trans hx314_4
              (try (have eq_ := hx314_4.symm.trans hx311_4; simp only [Option.some.injEq, Value.slice.injEq] at eq_; obtain ⟨eqA_, _, eqc_⟩ := eq_; subst eqA_; subst eqc_))
              have HR314_4 := Aside0.mk hi314_4
              have HC314_4 := Aside0.mk hl314_4
              clear hi314_4 hl314_4
              replace p314 := eq_true p314
              replace q314 := eq_true q314
              have p315 : 0 ≤ ((ji15) : Int) := of_decide_eq_true za
              have q315 : (ji15) < (l0.length : Int) := of_decide_eq_true za
              obtain ⟨ad315, A315_4, c315_4, e315, hx315_0, hx315_1, hx315_2, hx315_3, hx315_4, hl315_4, hi315_4⟩ := at_T38 HR0.out (ji15) p315 q315
              obtain rfl : ad311 = ad315 := (by injection e315)
              replace hx315_0 := (HB.out.cell (World.block_lt_of_cell? w _ hx315_0)).trans hx315_0
              replace hx315_1 := (HB.out.cell (World.block_lt_of_cell? w _ hx315_1)).trans hx315_1
              replace hx315_2 := (HB.out.cell (World.block_lt_of_cell? w _ hx315_2)).trans hx315_2
              replace hx315_3 := (HB.out.cell (World.block_lt_of_cell? w _ hx315_3)).trans hx315_3
              replace hx315_4 := (HB.out.cell (World.block_lt_of_cell? w _ hx315_4)).trans hx315_4
              (try (have eq_ := hx315_4.symm.trans hx311_4; simp only [Option.some.injEq, Value.slice.injEq] at eq_; obtain ⟨eqA_, _, eqc_⟩ := eq_; subst eqA_; subst eqc_))
              have HR315_4 := Aside0.mk hi315_4
              have HC315_4 := Aside0.mk hl315_4
              clear hi315_4 hl315_4
              replace p315 := eq_true p315
              replace q315 := eq_true q315
              have ea_ := Option.some.inj (hx314_4.symm.trans hx315_4)
              injection ea_ with ea_ en_ ec_
              subst ea_
              subst ec_
              clear en_
              have p316 : 0 ≤ ((ji15) : Int) := of_decide_eq_true za
              have q316 : (ji15) < (l0.length : Int) := of_decide_eq_true za
              obtain ⟨ad316, A316_4, c316_4, e316, hx316_0, hx316_1, hx316_2, hx316_3, hx316_4, hl316_4, hi316_4⟩ := at_T38 HR0.out (ji15) p316 q316
              obtain rfl : ad311 = ad316 := (by injection e316)
              replace hx316_0 := (HB.out.cell (World.block_lt_of_cell? w _ hx316_0)).trans hx316_0
              replace hx316_1 := (HB.out.cell (World.block_lt_of_cell? w _ hx316_1)).trans hx316_1
              replace hx316_2 := (HB.out.cell (World.block_lt_of_cell? w _ hx316_2)).trans hx316_2
              replace hx316_3 := (HB.out.cell (World.block_lt_of_cell? w _ hx316_3)).trans hx316_3
              replace hx316_4 := (HB.out.cell (World.block_lt_of_cell? w _ hx316_4)).trans hx316_4
              (try (have eq_ := hx316_4.symm.trans hx311_4; simp only [Option.some.injEq, Value.slice.injEq] at eq_; obtain ⟨eqA_, _, eqc_⟩ := eq_; subst eqA_; subst eqc_))
              have HR316_4 := Aside0.mk hi316_4
              have HC316_4 := Aside0.mk hl316_4
              clear hi316_4 hl316_4
              replace p316 := eq_true p316
              replace q316 := eq_true q316
              have ea_ := Option.some.inj (hx314_4.symm.trans hx316_4)
              injection ea_ with ea_ en_ ec_
              subst ea_
              subst ec_
              clear en_
              go_wp2
              go_roundg kj3
              case measure => have := HK1.out; have := HJ3.out; omega
              case rel => exact ⟨(wrap64 (x3_1 + 1)), zr, H', ⟨by have := HK1.out; have := HJ3.out; omega⟩, ⟨zb HB⟩⟩
             ·rw [if_neg c20] at H
              have c20b0 : (((rd_T38 l0 (ji15)).f1) == 0) = false := beq_eq_false_iff_ne.mpr c20
              have c20b1 : (((rd_T38 l0 (ji15)).f1) != 0) = true := bne_iff_ne.mpr c20
              obtain rfl := Option.some.inj H
              have p314 : 0 ≤ ((ji15) : Int) := of_decide_eq_true za
              have q314 : (ji15) < (l0.length : Int) := of_decide_eq_true za
              obtain ⟨ad314, A314_4, c314_4, e314, hx314_0, hx314_1, hx314_2, hx314_3, hx314_4, hl314_4, hi314_4⟩ := at_T38 HR0.out (ji15) p314 q314
              obtain rfl : ad311 = ad314 := (by injection e314)
              replace hx314_0 := (HB.out.cell (World.block_lt_of_cell? w _ hx314_0)).trans hx314_0
              replace hx314_1 := (HB.out.cell (World.block_lt_of_cell? w _ hx314_1)).trans hx314_1
              replace hx314_2 := (HB.out.cell (World.block_lt_of_cell? w _ hx314_2)).trans hx314_2
              replace hx314_3 := (HB.out.cell (World.block_lt_of_cell? w _ hx314_3)).trans hx314_3
              replace hx314_4 := (HB.out.cell (World.block_lt_of_cell? w _ hx314_4)).trans hx314_4
              (try (have eq_ := hx314_4.symm.trans hx311_4; simp only [Option.some.injEq, Value.slice.injEq] at eq_; obtain ⟨eqA_, _, eqc_⟩ := eq_; subst eqA_; subst eqc_))
              have HR314_4 := Aside0.mk hi314_4
              have HC314_4 := Aside0.mk hl314_4
              clear hi314_4 hl314_4
              replace p314 := eq_true p314
              replace q314 := eq_true q314
              have p315 : 0 ≤ ((ji15) : Int) := of_decide_eq_true za
              have q315 : (ji15) < (l0.length : Int) := of_decide_eq_true za
              obtain ⟨ad315, A315_4, c315_4, e315, hx315_0, hx315_1, hx315_2, hx315_3, hx315_4, hl315_4, hi315_4⟩ := at_T38 HR0.out (ji15) p315 q315
              obtain rfl : ad311 = ad315 := (by injection e315)
              replace hx315_0 := (HB.out.cell (World.block_lt_of_cell? w _ hx315_0)).trans hx315_0
              replace hx315_1 := (HB.out.cell (World.block_lt_of_cell? w _ hx315_1)).trans hx315_1
              replace hx315_2 := (HB.out.cell (World.block_lt_of_cell? w _ hx315_2)).trans hx315_2
              replace hx315_3 := (HB.out.cell (World.block_lt_of_cell? w _ hx315_3)).trans hx315_3
              replace hx315_4 := (HB.out.cell (World.block_lt_of_cell? w _ hx315_4)).trans hx315_4
              (try (have eq_ := hx315_4.symm.trans hx311_4; simp only [Option.some.injEq, Value.slice.injEq] at eq_; obtain ⟨eqA_, _, eqc_⟩ := eq_; subst eqA_; subst eqc_))
              have HR315_4 := Aside0.mk hi315_4
              have HC315_4 := Aside0.mk hl315_4
              clear hi315_4 hl315_4
              replace p315 := eq_true p315
              replace q315 := eq_true q315
              have ea_ := Option.some.inj (hx314_4.symm.trans hx315_4)
              injection ea_ with ea_ en_ ec_
              subst ea_
              subst ec_
              clear en_
              have p316 : 0 ≤ ((ji15) : Int) := of_decide_eq_true za
              have q316 : (ji15) < (l0.length : Int) := of_decide_eq_true za
              obtain ⟨ad316, A316_4, c316_4, e316, hx316_0, hx316_1, hx316_2, hx316_3, hx316_4, hl316_4, hi316_4⟩ := at_T38 HR0.out (ji15) p316 q316
              obtain rfl : ad311 = ad316 := (by injection e316)
              replace hx316_0 := (HB.out.cell (World.block_lt_of_cell? w _ hx316_0)).trans hx316_0
              replace hx316_1 := (HB.out.cell (World.block_lt_of_cell? w _ hx316_1)).trans hx316_1
              replace hx316_2 := (HB.out.cell (World.block_lt_of_cell? w _ hx316_2)).trans hx316_2
              replace hx316_3 := (HB.out.cell (World.block_lt_of_cell? w _ hx316_3)).trans hx316_3
              replace hx316_4 := (HB.out.cell (World.block_lt_of_cell? w _ hx316_4)).trans hx316_4
              (try (have eq_ := hx316_4.symm.trans hx311_4; simp only [Option.some.injEq, Value.slice.injEq] at eq_; obtain ⟨eqA_, _, eqc_⟩ := eq_; subst eqA_; subst eqc_))
              have HR316_4 := Aside0.mk hi316_4
              have HC316_4 := Aside0.mk hl316_4
              clear hi316_4 hl316_4
              replace p316 := eq_true p316
              replace q316 := eq_true q316
              have ea_ := Option.some.inj (hx314_4.symm.trans hx316_4)
              injection ea_ with ea_ en_ ec_
              subst ea_
              subst ec_
              clear en_
              go_wp2
              go_ret
              exact ⟨by first | rfl | (simp [errW_none, errW_some] <;> rfl) | (simp only [← hji15]; first | rfl | (simp [errW_none, errW_some] <;> rfl)) | (simp [*, errW_none, errW_some] <;> rfl), zb HB⟩
            ·rw [if_neg c19] at H
             have c19b0 : (((rd_T38 l0 x3_1).f0) == (wrap64 (((rd_T38 l0 (ji15)).f0) + 1))) = false := beq_eq_false_iff_ne.mpr c19
             have c19b1 : (((rd_T38 l0 x3_1).f0) != (wrap64 (((rd_T38 l0 (ji15)).f0) + 1))) = true := bne_iff_ne.mpr c19
             have H' := Aside0.mk H
             clear H
             have p314 : 0 ≤ ((ji15) : Int) := of_decide_eq_true za
             have q314 : (ji15) < (l0.length : Int) := of_decide_eq_true za
             obtain ⟨ad314, A314_4, c314_4, e314, hx314_0, hx314_1, hx314_2, hx314_3, hx314_4, hl314_4, hi314_4⟩ := at_T38 HR0.out (ji15) p314 q314
             obtain rfl : ad311 = ad314 := (by injection e314)
             replace hx314_0 := (HB.out.cell (World.block_lt_of_cell? w _ hx314_0)).trans hx314_0
             replace hx314_1 := (HB.out.cell (World.block_lt_of_cell? w _ hx314_1)).trans hx314_1
             replace hx314_2 := (HB.out.cell (World.block_lt_of_cell? w _ hx314_2)).trans hx314_2
             replace hx314_3 := (HB.out.cell (World.block_lt_of_cell? w _ hx314_3)).trans hx314_3
             replace hx314_4 := (HB.out.cell (World.block_lt_of_cell? w _ hx314_4)).trans hx314_4
             (try (have eq_ := hx314_4.symm.trans hx311_4; simp only [Option.some.injEq, Value.slice.injEq] at eq_; obtain ⟨eqA_, _, eqc_⟩ := eq_; subst eqA_; subst eqc_))
             have HR314_4 := Aside0.mk hi314_4
             have HC314_4 := Aside0.mk hl314_4
             clear hi314_4 hl314_4
             replace p314 := eq_true p314
             replace q314 := eq_true q314
             have p315 : 0 ≤ ((ji15) : Int) := of_decide_eq_true za
             have q315 : (ji15) < (l0.length : Int) := of_decide_eq_true za
             obtain ⟨ad315, A315_4, c315_4, e315, hx315_0, hx315_1, hx315_2, hx315_3, hx315_4, hl315_4, hi315_4⟩ := at_T38 HR0.out (ji15) p315 q315
             obtain rfl : ad311 = ad315 := (by injection e315)
             replace hx315_0 := (HB.out.cell (World.block_lt_of_cell? w _ hx315_0)).trans hx315_0
             replace hx315_1 := (HB.out.cell (World.block_lt_of_cell? w _ hx315_1)).trans hx315_1
             replace hx315_2 := (HB.out.cell (World.block_lt_of_cell? w _ hx315_2)).trans hx315_2
             replace hx315_3 := (HB.out.cell (World.block_lt_of_cell? w _ hx315_3)).trans hx315_3
             replace hx315_4 := (HB.out.cell (World.block_lt_of_cell? w _ hx315_4)).trans hx315_4
             (try (have eq_ := hx315_4.symm.trans hx311_4; simp only [Option.some.injEq, Value.slice.injEq] at eq_; obtain ⟨eqA_, _, eqc_⟩ := eq_; subst eqA_; subst eqc_))
             have HR315_4 := Aside0.mk hi315_4
             have HC315_4 := Aside0.mk hl315_4
             clear hi315_4 hl315_4
             replace p315 := eq_true p315
             replace q315 := eq_true q315
             have ea_ := Option.some.inj (hx314_4.symm.trans hx315_4)
             injection ea_ with ea_ en_ ec_
             subst ea_
             subst ec_
             clear en_
             go_wp2
             go_roundg kj3
             case measure => have := HK1.out; have := HJ3.out; omega
             case rel => exact ⟨(wrap64 (x3_1 + 1)), zr, H', ⟨by have := HK1.out; have := HJ3.out; omega⟩, ⟨zb HB⟩⟩
          ·rw [if_neg c17] at H
           exact absurd H (by simp)
         ·rw [if_neg c16] at H
          exact absurd H (by simp)
        ·rw [if_neg c14] at H
         have c14b0 : decide (0 < x3_1) = false := decide_eq_false c14
         clear c14
         have H' := Aside0.mk H
         clear H
         go_wp2
         go_roundg kj3
         case measure => have := HK1.out; have := HJ3.out; omega
         case rel => exact ⟨(wrap64 (x3_1 + 1)), zr, H', ⟨by have := HK1.out; have := HJ3.out; omega⟩, ⟨zb HB⟩⟩
    ·rw [if_neg c3] at H
     exact absurd H (by simp)
   ·rw [if_neg c2] at H
    have c2b0 : decide (x3_1 < (l0.length : Int)) = false := decide_eq_false c2
    clear c2
    obtain rfl := Option.some.inj H
    go_wp2
    go_ret
    exact ⟨ze, zb HB⟩

def boltingref04_Check.f (k : Nat) (l0 : List (S38)) : Option (Int) := (boltingref04_Big.f k l0).bind fun t317 => (if t317 = true then (some 2) else ((boltingref04_Right.f k l0).bind fun t318 => (if t318 = true then (some 0) else (some 40))))
set_option maxHeartbeats 8000000 in
set_option maxRecDepth 100000 in
theorem boltingref04_Check.calls (k : Nat) (A0 : Option Addr) (c0 : Nat) (l0 : List (S38)) (r : Int) (w : World) (hr0 : Kd.C k38 w A0 l0.length l0) (hc0 : l0.length ≤ c0) (h : boltingref04_Check.f k l0 = some r) :
  Calls Tryz.prog 11 #[.slice A0 l0.length c0] w fun e w' => e = .returned (.int .i64 r) ∧ Below w.heap.size w w' := by
 have HR0 := Aside0.mk hr0
 have HC0 := Aside0.mk hc0
 clear hr0 hc0
 have HB := Aside0.mk (Below.refl w.heap.size w)
 have H : ((boltingref04_Big.f k l0).bind fun t317 => (if t317 = true then (some 2) else ((boltingref04_Right.f k l0).bind fun t318 => (if t318 = true then (some 0) else (some 40))))) = some r := h
 clear h
 replace H := Option.bind_eq_some_iff.mp H
 obtain ⟨t317, A20, H⟩ := H
 have A2 := Aside0.mk A20
 clear A20
 by_cases c3 : t317 = true
 ·subst c3
  replace H : (some 2) = some r := by rw [if_pos rfl] at H; exact H
  obtain rfl := Option.some.inj H
  go_enter Tryz.func11, Tryz.ntmps11
  go_wp2_with (first | ((with_reducible refine gate_callee (f := 29) rfl ?_); refine goesL_ (some 4) rfl rfl Tryz.func29 (by kernel_rfl) rfl #[.slice A0 l0.length c0] rfl zm ?_; (with_reducible refine (boltingref04_Big.calls k _ _ l0 true _ ?side1 ?side2 A2.out).mono ?_); (case side1 => repeat (first | exact HR0.out | (with_reducible refine Kd.C_alloc ?_ _) | (with_reducible refine Kd.C_drewN ?_ _) | (with_reducible refine Kd.C_drew ?_))); (case side2 => exact HC0.out); rintro e w' ⟨rfl, ⟨nd, rfl⟩⟩; refine ⟨_, rfl, ?_⟩))
  go_ret
  exact ⟨ze, zb HB⟩
 ·replace c3 := Bool.eq_false_iff.mpr c3
  subst c3
  replace H : ((boltingref04_Right.f k l0).bind fun t318 => (if t318 = true then (some 0) else (some 40))) = some r := by rw [if_neg (show ¬ (false = true) by decide)] at H; exact H
  replace H := Option.bind_eq_some_iff.mp H
  obtain ⟨t318, A40, H⟩ := H
  have A4 := Aside0.mk A40
  clear A40
  by_cases c5 : t318 = true
  ·subst c5
   replace H : (some 0) = some r := by rw [if_pos rfl] at H; exact H
   obtain rfl := Option.some.inj H
   go_enter Tryz.func11, Tryz.ntmps11
   go_wp2_with (first | ((with_reducible refine gate_callee (f := 29) rfl ?_); refine goesL_ (some 4) rfl rfl Tryz.func29 (by kernel_rfl) rfl #[.slice A0 l0.length c0] rfl zm ?_; (with_reducible refine (boltingref04_Big.calls k _ _ l0 false _ ?side1 ?side2 A2.out).mono ?_); (case side1 => repeat (first | exact HR0.out | (with_reducible refine Kd.C_alloc ?_ _) | (with_reducible refine Kd.C_drewN ?_ _) | (with_reducible refine Kd.C_drew ?_))); (case side2 => exact HC0.out); rintro e w' ⟨rfl, ⟨nd, rfl⟩⟩; refine ⟨_, rfl, ?_⟩) | ((with_reducible refine gate_callee (f := 30) rfl ?_); refine goesL_ (some 6) rfl rfl Tryz.func30 (by kernel_rfl) rfl #[.slice A0 l0.length c0] rfl zm ?_; (with_reducible refine (boltingref04_Right.calls k _ _ l0 true _ ?side1 ?side2 A4.out).mono ?_); (case side1 => repeat (first | exact HR0.out | (with_reducible refine Kd.C_alloc ?_ _) | (with_reducible refine Kd.C_drewN ?_ _) | (with_reducible refine Kd.C_drew ?_))); (case side2 => exact HC0.out); rintro e w6 ⟨rfl, hb⟩; refine ⟨_, rfl, ?_⟩; have n0_ := Aside0.mk (below_step (zb HB) hb); clear HB; have HB := n0_; clear n0_; (try clear hb)))
   go_ret
   exact ⟨ze, zb HB⟩
  ·replace c5 := Bool.eq_false_iff.mpr c5
   subst c5
   replace H : (some 40) = some r := by rw [if_neg (show ¬ (false = true) by decide)] at H; exact H
   obtain rfl := Option.some.inj H
   go_enter Tryz.func11, Tryz.ntmps11
   go_wp2_with (first | ((with_reducible refine gate_callee (f := 29) rfl ?_); refine goesL_ (some 4) rfl rfl Tryz.func29 (by kernel_rfl) rfl #[.slice A0 l0.length c0] rfl zm ?_; (with_reducible refine (boltingref04_Big.calls k _ _ l0 false _ ?side1 ?side2 A2.out).mono ?_); (case side1 => repeat (first | exact HR0.out | (with_reducible refine Kd.C_alloc ?_ _) | (with_reducible refine Kd.C_drewN ?_ _) | (with_reducible refine Kd.C_drew ?_))); (case side2 => exact HC0.out); rintro e w' ⟨rfl, ⟨nd, rfl⟩⟩; refine ⟨_, rfl, ?_⟩) | ((with_reducible refine gate_callee (f := 30) rfl ?_); refine goesL_ (some 6) rfl rfl Tryz.func30 (by kernel_rfl) rfl #[.slice A0 l0.length c0] rfl zm ?_; (with_reducible refine (boltingref04_Right.calls k _ _ l0 false _ ?side1 ?side2 A4.out).mono ?_); (case side1 => repeat (first | exact HR0.out | (with_reducible refine Kd.C_alloc ?_ _) | (with_reducible refine Kd.C_drewN ?_ _) | (with_reducible refine Kd.C_drew ?_))); (case side2 => exact HC0.out); rintro e w7 ⟨rfl, hb⟩; refine ⟨_, rfl, ?_⟩; have n0_ := Aside0.mk (below_step (zb HB) hb); clear HB; have HB := n0_; clear n0_; (try clear hb)))
   go_ret
   exact ⟨ze, zb HB⟩

def boltingref04_Moved.l0 : Nat → List (S38) → Int → List (S38) → Int → Option ((List (S38)))
 | 0, _, _, _, _ => none
 | k + 1, x0, x1, x5, x6 => if x6 < (x0.length : Int) then (if 0 ≤ x6 then ((some (([] : List (S45)) : List (S45))).bind fun y324 => (if y324.length + ((rd_T38 x0 x6).f4).length < 4398046511104 then (if x5.length < 1954687338268 then (boltingref04_Moved.l0 k x0 x1 (x5 ++ [(⟨wrap64 (((rd_T38 x0 x6).f0) + x1), (rd_T38 x0 x6).f1, (rd_T38 x0 x6).f2, (rd_T38 x0 x6).f3, (y324 ++ ((rd_T38 x0 x6).f4))⟩ : S38)]) (wrap64 (x6 + 1))) else (none)) else (none))) else (none)) else (some x5)
def boltingref04_Moved.f (k : Nat) (l0 : List (S38)) (a1 : Int) : Option ((List (S38))) := boltingref04_Moved.l0 k l0 a1 (([] : List (S38))) 0
set_option maxHeartbeats 8000000 in
set_option maxRecDepth 100000 in
theorem boltingref04_Moved.calls (k : Nat) (A0 : Option Addr) (c0 : Nat) (l0 : List (S38)) (a1 : Int) (r : List (S38)) (w : World) (hr0 : Kd.C k38 w A0 l0.length l0) (hc0 : l0.length ≤ c0) (h : boltingref04_Moved.f k l0 a1 = some r) :
  Calls Tryz.prog 21 #[.slice A0 l0.length c0, .int .i64 a1] w fun e w' => ∃ v0_ : Value, e = .returned (v0_) ∧ Kd.S k38 38 w' w.heap.size (fun _ => True) v0_ r ∧ Below w.heap.size w w' := by
 have hu38 := Tryz.underlying38
 have HR0 := Aside0.mk hr0
 have HC0 := Aside0.mk hc0
 clear hr0 hc0
 have HB := Aside0.mk (Below.refl w.heap.size w)
 have H : (boltingref04_Moved.l0 k l0 a1 (([] : List (S38))) 0) = some r := h
 clear h
 obtain ⟨y319, hy319⟩ : ∃ y_ : List (S38), y_ = (([] : List (S38))) := ⟨_, rfl⟩
 replace H : (boltingref04_Moved.l0 k l0 a1 y319 0) = some r := by first | (rw [hy319]; with_reducible exact H) | (have H2_ := (Option.bind_some _ _).symm.trans H; rw [hy319]; with_reducible exact H2_) | (have H2_ := (Option.bind_some _ _).symm.trans H; with_reducible exact H2_) | with_reducible exact H | (rw [hy319]; exact H) | exact H
 have Ny319 := Aside0.mk hy319
 clear hy319
 have H' := Aside0.mk H
 clear H
 go_enter Tryz.func21, Tryz.ntmps21
 go_wp2_with (first | ((with_reducible refine gate_dst (N := 8) rfl ?_); refine Kd.S_lit k38 _ 38 ?hg (N := 8) ?hd (xs := ([] : List (S38))) (inner := []) (ok := fun _ => True) (okp := fun _ => True) ?hr ?hp (fun _ hk => hk) trivial (Below.refl _ _) (Nat.le_refl _) (by simp) ?_; (case hd => rfl); (case hg => rfl); (case hr => first | (go_simp; done) | (go_simp; rfl)); (case hp => exact (Reps.none _ _)); intro v320 w3 ho4 hb hg_ hnew_; clear hg_ hnew_; (first | rw [← Ny319.out] at ho4 | (simp only [Int.reduceToNat] at ho4; rw [← Ny319.out] at ho4)); have n0_ := Aside0.mk (Kd.S_lower ho4 (below_size (zb HB))); have n1_ := Aside0.mk (below_step (zb HB) hb); clear HB; have HO321 := n0_; have HB := n1_; clear n0_ n1_; clear hb ho4))
 go_loopg [5, 6] k (fun kq v5 v6 w' => ∃ (x5_1 : List (S38)) (x6_1 : Int), v6 = .int .i64 x6_1 ∧ Aside0 (boltingref04_Moved.l0 kq l0 a1 x5_1 x6_1 = some r) ∧ Aside0 (kq ≤ k) ∧ Aside0 (Kd.S k38 38 w' w.heap.size (fun _ => True) v5 x5_1) ∧ Aside0 (Below w.heap.size w w'))
 case atStart => exact ⟨(y319), (0), zr, H', ⟨Nat.le_refl _⟩, ⟨by exact HO321.out⟩, ⟨zb HB⟩⟩
 case round =>
  clear H'
  try clear c2
  try clear p2
  obtain ⟨x5_1, x6_1, rfl, HA, HK1, HO_5, HB⟩ := hrel
  cases gk with
  | zero => exact absurd HA.out (by simp [boltingref04_Moved.l0])
  | succ k1 =>
   have H := HA.out
   clear HA
   simp only [boltingref04_Moved.l0] at H
   by_cases c5 : x6_1 < (l0.length : Int)
   ·rw [if_pos c5] at H
    have c5b0 : decide (x6_1 < (l0.length : Int)) = true := decide_eq_true c5
    clear c5
    by_cases c6 : 0 ≤ x6_1
    ·rw [if_pos c6] at H
     have c6b0 : decide (0 ≤ x6_1) = true := decide_eq_true c6
     clear c6
     obtain ⟨y324, hy324⟩ : ∃ y_ : List (S45), y_ = (([] : List (S45))) := ⟨_, rfl⟩
     replace H : (if y324.length + ((rd_T38 l0 x6_1).f4).length < 4398046511104 then (if x5_1.length < 1954687338268 then (boltingref04_Moved.l0 k1 l0 a1 (x5_1 ++ [(⟨wrap64 (((rd_T38 l0 x6_1).f0) + a1), (rd_T38 l0 x6_1).f1, (rd_T38 l0 x6_1).f2, (rd_T38 l0 x6_1).f3, (y324 ++ ((rd_T38 l0 x6_1).f4))⟩ : S38)]) (wrap64 (x6_1 + 1))) else (none)) else (none)) = some r := by first | (rw [hy324]; with_reducible exact H) | (have H2_ := (Option.bind_some _ _).symm.trans H; rw [hy324]; with_reducible exact H2_) | (have H2_ := (Option.bind_some _ _).symm.trans H; with_reducible exact H2_) | with_reducible exact H | (rw [hy324]; exact H) | exact H
     have Ny324 := Aside0.mk hy324
     clear hy324
     by_cases c7 : y324.length + ((rd_T38 l0 x6_1).f4).length < 4398046511104
     ·rw [if_pos c7] at H
      have LMc7 := Aside0.mk c7
      clear c7
      obtain ⟨y327, hy327⟩ : ∃ y_ : List (S45), y_ = (y324 ++ ((rd_T38 l0 x6_1).f4)) := ⟨_, rfl⟩
      replace H : (if x5_1.length < 1954687338268 then (boltingref04_Moved.l0 k1 l0 a1 (x5_1 ++ [(⟨wrap64 (((rd_T38 l0 x6_1).f0) + a1), (rd_T38 l0 x6_1).f1, (rd_T38 l0 x6_1).f2, (rd_T38 l0 x6_1).f3, y327⟩ : S38)]) (wrap64 (x6_1 + 1))) else (none)) = some r := by first | (rw [hy327]; with_reducible exact H) | (have H2_ := (Option.bind_some _ _).symm.trans H; rw [hy327]; with_reducible exact H2_) | (have H2_ := (Option.bind_some _ _).symm.trans H; with_reducible exact H2_) | with_reducible exact H | (rw [hy327]; exact H) | exact H
      have Ny327 := Aside0.mk hy327
      clear hy327
      by_cases c8 : x5_1.length < 1954687338268
      ·rw [if_pos c8] at H
       have LMc8 := Aside0.mk c8
       clear c8
       obtain ⟨y330, hy330⟩ : ∃ y_ : List (S38), y_ = (x5_1 ++ [(⟨wrap64 (((rd_T38 l0 x6_1).f0) + a1), (rd_T38 l0 x6_1).f1, (rd_T38 l0 x6_1).f2, (rd_T38 l0 x6_1).f3, y327⟩ : S38)]) := ⟨_, rfl⟩
       replace H : (boltingref04_Moved.l0 k1 l0 a1 y330 (wrap64 (x6_1 + 1))) = some r := by first | (rw [hy330]; with_reducible exact H) | (have H2_ := (Option.bind_some _ _).symm.trans H; rw [hy330]; with_reducible exact H2_) | (have H2_ := (Option.bind_some _ _).symm.trans H; with_reducible exact H2_) | with_reducible exact H | (rw [hy330]; exact H) | exact H
       have Ny330 := Aside0.mk hy330
       clear hy330
       have H' := Aside0.mk H
       clear H
       have p322 : 0 ≤ (x6_1 : Int) := of_decide_eq_true za
       have q322 : x6_1 < (l0.length : Int) := of_decide_eq_true za
       obtain ⟨ad322, A322_4, c322_4, e322, hx322_0, hx322_1, hx322_2, hx322_3, hx322_4, hl322_4, hi322_4⟩ := at_T38 HR0.out x6_1 p322 q322
       cases e322
       replace hx322_0 := (HB.out.cell (World.block_lt_of_cell? w _ hx322_0)).trans hx322_0
       replace hx322_1 := (HB.out.cell (World.block_lt_of_cell? w _ hx322_1)).trans hx322_1
       replace hx322_2 := (HB.out.cell (World.block_lt_of_cell? w _ hx322_2)).trans hx322_2
       replace hx322_3 := (HB.out.cell (World.block_lt_of_cell? w _ hx322_3)).trans hx322_3
       replace hx322_4 := (HB.out.cell (World.block_lt_of_cell? w _ hx322_4)).trans hx322_4
       have HR322_4 := Aside0.mk hi322_4
       have HC322_4 := Aside0.mk hl322_4
       clear hi322_4 hl322_4
       replace p322 := eq_true p322
       replace q322 := eq_true q322
       go_wp2_with (first | ((with_reducible refine gate_dst (N := 7) rfl ?_); refine box_event ?hg (N := 7) ?hd (cs := #[.int .i64 0, .int .i64 0, .string (⟨#[]⟩ : ByteArray), .string (⟨#[]⟩ : ByteArray), .slice none 0 0]) (t := 38) ?hr ?_; (case hd => rfl); (case hg => rfl); (case hr => first | (go_simp; done) | (go_simp; rfl)); intro gb323 hg w9 hbox hb; have n0_ := Aside0.mk (Kd.S_below (Kd.S_elderB HO_5.out gb323 (Nat.le_of_eq hg.symm)) hb); have n1_ := Aside0.mk (below_step (zb HB) hb); have n2_ := Aside0.mk (hbox); have n4_ := Aside0.mk ((by rw [hg]; exact (below_size (zb HB)) : w.heap.size ≤ gb323)); clear HO_5; clear HB; have HO_5 := n0_; have HB := n1_; have BK323 := n2_; have GE323 := n4_; clear n0_ n1_ n2_ n4_; clear hb hbox hg; obtain ⟨hcz10_0, hcz10_1, hcz10_2, hcz10_3, hcz10_4, hfz10_0, hfz10_1, hfz10_2, hfz10_3, hfz10_4⟩ := cz5 BK323.out) | ((with_reducible refine gate_dst (N := 24) rfl ?_); refine Kd.R_lit k45 _ 45 ?hg (N := 24) ?hd (xs := ([] : List (S45))) (inner := []) (ok := fun _ => True) (okp := fun _ => True) ?hr ?hp (fun _ hk => hk) trivial (Below.refl _ _) (Nat.le_refl _) (by simp) ?_; (case hd => rfl); (case hg => rfl); (case hr => first | (go_simp; done) | (go_simp; rfl)); (case hp => exact (Reps.none _ _)); intro v325 w11 ho12 hb hg_ hnew_; clear hg_ hnew_; (first | rw [← Ny324.out] at ho12 | (simp only [Int.reduceToNat] at ho12; rw [← Ny324.out] at ho12)); have n0_ := Aside0.mk (Kd.S_elder' (by exact (Kd.S_mono (Kd.S_far (p := ⟨gb323, 0, none⟩) (Kd.S_far (p := ⟨gb323, 4, none⟩) (Kd.S_far (p := ⟨gb323, 3, none⟩) (Kd.S_far (p := ⟨gb323, 2, none⟩) (Kd.S_far (p := ⟨gb323, 1, none⟩) (Kd.S_far (p := ⟨gb323, 0, none⟩) (Kd.S_mono HO_5.out (fun k_ hk => (⟨hk, hk.2⟩ : _ ∧ k_ ≠ gb323))) (fun _ hk => hk.2) (.int .i64 ((rd_T38 l0 x6_1).f0))) (fun _ hk => hk.2) (.int .i64 ((rd_T38 l0 x6_1).f1))) (fun _ hk => hk.2) (.string ((rd_T38 l0 x6_1).f2))) (fun _ hk => hk.2) (.string ((rd_T38 l0 x6_1).f3))) (fun _ hk => hk.2) (.slice A322_4 ((rd_T38 l0 x6_1).f4).length c322_4)) (fun _ hk => hk.2) (.int .i64 (wrap64 (((rd_T38 l0 x6_1).f0) + a1)))) (fun _ h_ => h_.1))) (Kd.R_base ho12) hb); have n1_ := Aside0.mk (Kd.R_lower ho12 (below_size (zb1 HB GE323))); have n2_ := Aside0.mk (blk_below (g := gb323) (o := .cells #[.int .i64 (wrap64 (((rd_T38 l0 x6_1).f0) + a1)), .int .i64 ((rd_T38 l0 x6_1).f1), .string ((rd_T38 l0 x6_1).f2), .string ((rd_T38 l0 x6_1).f3), .slice A322_4 ((rd_T38 l0 x6_1).f4).length c322_4] 38 (0, 0)) (by refine blk_put (cs := #[.int .i64 ((rd_T38 l0 x6_1).f0), .int .i64 ((rd_T38 l0 x6_1).f1), .string ((rd_T38 l0 x6_1).f2), .string ((rd_T38 l0 x6_1).f3), .slice A322_4 ((rd_T38 l0 x6_1).f4).length c322_4]) ?_ 0 _ rfl; refine blk_put (cs := #[.int .i64 ((rd_T38 l0 x6_1).f0), .int .i64 ((rd_T38 l0 x6_1).f1), .string ((rd_T38 l0 x6_1).f2), .string ((rd_T38 l0 x6_1).f3), .slice none 0 0]) ?_ 4 _ rfl; refine blk_put (cs := #[.int .i64 ((rd_T38 l0 x6_1).f0), .int .i64 ((rd_T38 l0 x6_1).f1), .string ((rd_T38 l0 x6_1).f2), .string (⟨#[]⟩ : ByteArray), .slice none 0 0]) ?_ 3 _ rfl; refine blk_put (cs := #[.int .i64 ((rd_T38 l0 x6_1).f0), .int .i64 ((rd_T38 l0 x6_1).f1), .string (⟨#[]⟩ : ByteArray), .string (⟨#[]⟩ : ByteArray), .slice none 0 0]) ?_ 2 _ rfl; refine blk_put (cs := #[.int .i64 ((rd_T38 l0 x6_1).f0), .int .i64 0, .string (⟨#[]⟩ : ByteArray), .string (⟨#[]⟩ : ByteArray), .slice none 0 0]) ?_ 1 _ rfl; refine blk_put (cs := #[.int .i64 0, .int .i64 0, .string (⟨#[]⟩ : ByteArray), .string (⟨#[]⟩ : ByteArray), .slice none 0 0]) ?_ 0 _ rfl; exact BK323.out) hb); have n3_ := Aside0.mk (below_step (zb1 HB GE323) hb); clear HO_5; clear BK323; clear HB; have HO_5 := n0_; have HO326 := n1_; have BK323 := n2_; have HB := n3_; clear n0_ n1_ n2_ n3_; clear hb ho12; obtain ⟨hcz13_0, hcz13_1, hcz13_2, hcz13_3, hcz13_4, hfz13_0, hfz13_1, hfz13_2, hfz13_3, hfz13_4⟩ := cz5 BK323.out) | ((with_reducible refine gate_builtin (b := .append) (xs := #[.tmp 24, .tmp 26]) rfl ?_); at_builtin; refine Kd.R_append_rows k45 (w0 := w) w.heap.size rfl (.tmp 24) (.tmp 26) 36 45 (.agg #[(.string ⟨#[]⟩), (.string ⟨#[]⟩)]) 32 rfl Tryz.underlying36 info45 rfl (by decide) (by omega) v325 y324 ((rd_T38 l0 x6_1).f4) _ _ _ (fun _ => True) (fun _ => False) rfl rfl ?aO ?aR (fun _ _ h => h) (fun _ h => h.elim) ?aF ?aB ?aS ?aL ?_; (case aR => repeat (first | exact (Kd.C_below HR322_4.out HB.out) | (with_reducible refine Kd.C_alloc ?_ _) | (with_reducible refine Kd.C_drewN ?_ _) | (with_reducible refine Kd.C_drew ?_))); (case aB => exact (zb1 HB GE323)); (case aF => exact (fun _ _ => trivial)); (case aO => exact HO326.out); (case aS => exact (below_size (zb1 HB GE323))); (case aL => have := LMc7.out; omega); intro v328 w14 ho hb hg hat; rw [← Ny327.out] at ho; have n0_ := Aside0.mk (Kd.S_after (ok := (fun k_ => k_ ≠ gb323)) (by exact Kd.S_mono HO_5.out (fun _ hk => ⟨hk.1.2, hk.2⟩)) hg hat); have n1_ := Aside0.mk (blk_grown BK323.out hg (Kd.R_ne HO326.out BK323.out (by decide))); have n2_ := Aside0.mk (hb); have n3_ := Aside0.mk (ho); clear HO_5; clear BK323; clear HB; clear HO326; have HO_5 := n0_; have BK323 := n1_; have HB := n2_; have HO329 := n3_; clear n0_ n1_ n2_ n3_; clear ho hb hg hat; obtain ⟨Ao15, co15, eo15⟩ := Kd.R_slice HO329.out; subst eo15; obtain ⟨hcz16_0, hcz16_1, hcz16_2, hcz16_3, hcz16_4, hfz16_0, hfz16_1, hfz16_2, hfz16_3, hfz16_4⟩ := cz5 BK323.out) | ((with_reducible refine gate_store (t := 36) (p := 28) rfl ?_); refine store_event (t := 36) (p := 28) (v := ?vo_w17) (w1 := (w14.setCell ⟨gb323, 4, none⟩ (.slice Ao15 y327.length co15))) ?hg ?ho ?hn ?hr ?_; (case ho => rfl); (case hg => rfl); (case hn => rfl); (case hr => first | (go_simp; done) | (go_simp; rfl)); intro w17 hw; have n0_ : Aside0 (Kd.S k38 38 w17 w.heap.size (fun k_ => some k_ ≠ (.slice Ao15 y327.length co15 : Value).ownBlock ∧ k_ ≠ gb323) u5 x5_1) := ⟨(by rw [hw]; exact (by exact Kd.S_mono (Kd.S_far (p := ⟨gb323, 4, none⟩) (Kd.S_mono HO_5.out (fun k_ hk => (⟨hk, hk.1⟩ : _ ∧ k_ ≠ gb323))) (fun _ hk => hk.2) (.slice Ao15 y327.length co15)) (fun _ hk => ⟨hk.1.2, hk.1.1⟩)))⟩; have n1_ : Aside0 (Kd.R k45 45 w17 w.heap.size (fun _ => True) (.slice Ao15 y327.length co15) y327) := ⟨(by rw [hw]; exact (by exact Kd.R_mono (Kd.R_far (p := ⟨gb323, 4, none⟩) (Kd.R_types HO329.out BK323.out (by decide)) (fun _ hk => hk.2) (.slice Ao15 y327.length co15)) (fun _ hk => trivial)))⟩; have n2_ : Aside0 (w17.heap[gb323]? = some (.cells #[.int .i64 (wrap64 (((rd_T38 l0 x6_1).f0) + a1)), .int .i64 ((rd_T38 l0 x6_1).f1), .string ((rd_T38 l0 x6_1).f2), .string ((rd_T38 l0 x6_1).f3), .slice Ao15 y327.length co15] 38 (0, 0))) := ⟨(by rw [hw]; exact (by refine blk_put (cs := #[.int .i64 (wrap64 (((rd_T38 l0 x6_1).f0) + a1)), .int .i64 ((rd_T38 l0 x6_1).f1), .string ((rd_T38 l0 x6_1).f2), .string ((rd_T38 l0 x6_1).f3), .slice A322_4 ((rd_T38 l0 x6_1).f4).length c322_4]) ?_ 4 _ rfl; exact BK323.out))⟩; have n3_ : Aside0 (Below w.heap.size w w17) := ⟨(by rw [hw]; exact (zb1 HB GE323))⟩; clear hw; clear HO_5; clear HO329; clear BK323; clear HB; have HO_5 := n0_; have HO329 := n1_; have BK323 := n2_; have HB := n3_; clear n0_ n1_ n2_ n3_; obtain ⟨hcz18_0, hcz18_1, hcz18_2, hcz18_3, hcz18_4, hfz18_0, hfz18_1, hfz18_2, hfz18_3, hfz18_4⟩ := cz5 BK323.out) | ((with_reducible refine gate_builtin (b := .append) (xs := #[.tmp 29, .tmp 31]) rfl ?_); at_builtin; refine Kd.S_append k38 (w0 := w) w.heap.size rfl (.tmp 29) (.tmp 31) 22 38 (.agg #[(.int .i64 0), (.int .i64 0), (.string ⟨#[]⟩), (.string ⟨#[]⟩), (.slice none 0 0)]) 72 rfl Tryz.underlying22 info38 rfl (by decide) (by omega) u5 x5_1 (⟨wrap64 (((rd_T38 l0 x6_1).f0) + a1), (rd_T38 l0 x6_1).f1, (rd_T38 l0 x6_1).f2, (rd_T38 l0 x6_1).f3, y327⟩ : S38) [.int .i64 (wrap64 (((rd_T38 l0 x6_1).f0) + a1)), .int .i64 ((rd_T38 l0 x6_1).f1), .string ((rd_T38 l0 x6_1).f2), .string ((rd_T38 l0 x6_1).f3), .slice Ao15 y327.length co15] (fun k_ => k_ ≠ gb323) (fun k_ => some k_ = (.slice Ao15 y327.length co15 : Value).ownBlock) rfl rfl ?aP (fun k_ hk_ => ((Kd.R_mono (ok' := fun k_ => ((fun k_ => k_ ≠ gb323)) k_ ∧ some k_ ≠ (u5 : Value).ownBlock) (Kd.R_types (Kd.R_apart' (HO329.out) (Kd.S_typed HO_5.out) (by decide)) BK323.out (by decide)) (fun k_ hk => ⟨hk.2, hk.1.2⟩))).1 k_ hk_.symm) ?aF ?aO ?aB ?aS ?aL ?_; (case aP => exact k38_mkM _ _ _ (⟨wrap64 (((rd_T38 l0 x6_1).f0) + a1), (rd_T38 l0 x6_1).f1, (rd_T38 l0 x6_1).f2, (rd_T38 l0 x6_1).f3, y327⟩ : S38) (Kd.R_mono (Kd.R_tight rfl (Kd.R_mono (ok' := fun k_ => ((fun k_ => k_ ≠ gb323)) k_ ∧ some k_ ≠ (u5 : Value).ownBlock) (Kd.R_types (Kd.R_apart' (HO329.out) (Kd.S_typed HO_5.out) (by decide)) BK323.out (by decide)) (fun k_ hk => ⟨hk.2, hk.1.2⟩))) (fun _ h_ => h_))); (case aB => exact (zb1 HB GE323)); (case aF => exact (fun k_ hk => Kd.freshB BK323.out k_ hk)); (case aO => exact (by exact Kd.S_mono HO_5.out (fun k_ hk => ⟨hk.2, fun e_ => hk.1 e_⟩))); (case aS => exact (below_size (zb1 HB GE323))); (case aL => have := LMc8.out; omega); intro v331 w19 ho hb hg hat; rw [← Ny330.out] at ho; have n1_ := Aside0.mk (hb); have n2_ := Aside0.mk (ho); clear BK323; clear HB; clear HO_5; clear HO329; have HB := n1_; have HO332 := n2_; clear n1_ n2_; clear ho hb hg hat))
       go_roundg k1
       case measure => have := HK1.out; omega
       case rel => exact ⟨(y330), (wrap64 (x6_1 + 1)), zr, H', ⟨by have := HK1.out; omega⟩, ⟨by exact Kd.S_mono HO332.out (fun _ hk => trivial)⟩, ⟨zb1 HB GE323⟩⟩
      ·rw [if_neg c8] at H
       exact absurd H (by simp)
     ·rw [if_neg c7] at H
      exact absurd H (by simp)
    ·rw [if_neg c6] at H
     exact absurd H (by simp)
   ·rw [if_neg c5] at H
    have c5b0 : decide (x6_1 < (l0.length : Int)) = false := decide_eq_false c5
    clear c5
    obtain rfl := Option.some.inj H
    go_wp2
    go_ret
    exact ⟨_, ze, by exact HO_5.out, zb HB⟩

end Go.Proofs.YticacakoefojbaaGreat.Pr
namespace Go.Proofs.YticacakoefojbaaGreat.Pr
open Go.RowKit Go.Proofs.YticacakoefojbaaGreatW.PrintWords Go.Proofs.YticacakoefojbaaGreatW.PrintLast Go.Proofs.YticacakoefojbaaGreatW.PrintMore
attribute [local go_sem] max2_int min2_int max_two min_two max_three min_three max_four min_four   -- for this text's walks alone
set_option linter.unusedVariables false
set_option linter.unusedSimpArgs false

def boltingref04_Join.f (k : Nat) (l0 : List (S38)) (l1 : List (S38)) : Option ((List (S38))) := (boltingref04_Moved.f k l0 0).bind fun t759 => ((boltingref04_Moved.f k l1 0).bind fun t762 => (if t759.length + t762.length < 1954687338268 then (some (t759 ++ t762)) else (none)))
set_option maxHeartbeats 8000000 in
set_option maxRecDepth 100000 in
theorem boltingref04_Join.calls (k : Nat) (A0 : Option Addr) (c0 : Nat) (l0 : List (S38)) (A1 : Option Addr) (c1 : Nat) (l1 : List (S38)) (r : List (S38)) (w : World) (hr0 : Kd.C k38 w A0 l0.length l0) (hc0 : l0.length ≤ c0) (hr1 : Kd.C k38 w A1 l1.length l1) (hc1 : l1.length ≤ c1) (h : boltingref04_Join.f k l0 l1 = some r) :
  Calls Tryz.prog 28 #[.slice A0 l0.length c0, .slice A1 l1.length c1] w fun e w' => ∃ v0_ : Value, e = .returned (v0_) ∧ Kd.N k38 38 w' w.heap.size (fun k_ => (w.heap.size ≤ k_)) v0_ r ∧ Below w.heap.size w w' := by
 have HR0 := Aside0.mk hr0
 have HC0 := Aside0.mk hc0
 clear hr0 hc0
 have HR1 := Aside0.mk hr1
 have HC1 := Aside0.mk hc1
 clear hr1 hc1
 have HB := Aside0.mk (Below.refl w.heap.size w)
 have H : ((boltingref04_Moved.f k l0 0).bind fun t759 => ((boltingref04_Moved.f k l1 0).bind fun t762 => (if t759.length + t762.length < 1954687338268 then (some (t759 ++ t762)) else (none)))) = some r := h
 clear h
 replace H := Option.bind_eq_some_iff.mp H
 obtain ⟨t759, A30, H⟩ := H
 have A3 := Aside0.mk A30
 clear A30
 replace H := Option.bind_eq_some_iff.mp H
 obtain ⟨t762, A40, H⟩ := H
 have A4 := Aside0.mk A40
 clear A40
 by_cases c5 : t759.length + t762.length < 1954687338268
 ·rw [if_pos c5] at H
  have LMc5 := Aside0.mk c5
  clear c5
  obtain ⟨y765, hy765⟩ : ∃ y_ : List (S38), y_ = (t759 ++ t762) := ⟨_, rfl⟩
  replace H : (some y765) = some r := by first | (rw [hy765]; with_reducible exact H) | (have H2_ := (Option.bind_some _ _).symm.trans H; rw [hy765]; with_reducible exact H2_) | (have H2_ := (Option.bind_some _ _).symm.trans H; with_reducible exact H2_) | with_reducible exact H | (rw [hy765]; exact H) | exact H
  have Ny765 := Aside0.mk hy765
  clear hy765
  obtain rfl := Option.some.inj H
  go_enter Tryz.func28, Tryz.ntmps28
  go_wp2_with (first | ((with_reducible refine gate_callee (f := 21) rfl ?_); refine goesL_ (some 7) rfl rfl Tryz.func21 (by kernel_rfl) rfl #[.slice A0 l0.length c0, .int .i64 0] rfl zm ?_; (with_reducible refine (boltingref04_Moved.calls k _ _ l0 0 t759 _ ?side1 ?side2 A3.out).mono ?_); (case side1 => repeat (first | exact HR0.out | (with_reducible refine Kd.C_alloc ?_ _) | (with_reducible refine Kd.C_drewN ?_ _) | (with_reducible refine Kd.C_drew ?_))); (case side2 => exact HC0.out); rintro e w6 ⟨v760, rfl, ho0, hb⟩; refine ⟨_, rfl, ?_⟩; have n0_ := Aside0.mk (Kd.N_lower (Kd.N_mono (ok' := fun k_ => (w.heap.size ≤ k_)) (Kd.S_N (Kd.S_bound ho0)) (fun k_ hk_ => (Nat.le_trans (below_size (zb HB)) hk_.2.1))) (below_size (zb HB))); have n1_ := Aside0.mk (below_step (zb HB) hb); clear HB; have HO761 := n0_; have HB := n1_; clear n0_ n1_; (try clear hb); (try clear ho0)) | ((with_reducible refine gate_callee (f := 21) rfl ?_); refine goesL_ (some 10) rfl rfl Tryz.func21 (by kernel_rfl) rfl #[.slice A1 l1.length c1, .int .i64 0] rfl zm ?_; (with_reducible refine (boltingref04_Moved.calls k _ _ l1 0 t762 _ ?side1 ?side2 A4.out).mono ?_); (case side1 => exact zc (Kd.C_below HR1.out HB.out)); (case side2 => exact HC1.out); rintro e w7 ⟨v763, rfl, ho0, hb⟩; refine ⟨_, rfl, ?_⟩; have n0_ := Aside0.mk (Kd.N_elder' (by exact HO761.out) (zn ho0) hb); have n1_ := Aside0.mk (Kd.N_lower (Kd.N_mono (ok' := fun k_ => (w.heap.size ≤ k_) ∧ some k_ ≠ (v760 : Value).ownBlock) (Kd.S_N (Kd.S_bound ho0)) (fun k_ hk_ => ⟨(Nat.le_trans (below_size (zb HB)) hk_.2.1), (Kd.fresh' (Kd.N_lt (by exact HO761.out)) k_ hk_.2.1)⟩)) (below_size (zb HB))); have n2_ := Aside0.mk (below_step (zb HB) hb); clear HO761; clear HB; have HO761 := n0_; have HO764 := n1_; have HB := n2_; clear n0_ n1_ n2_; (try clear hb); (try clear ho0); obtain ⟨Ao9, co9, eo9⟩ := Kd.N_slice HO764.out; subst eo9) | ((with_reducible refine gate_builtin (b := .append) (xs := #[.tmp 8, .tmp 10]) rfl ?_); at_builtin; refine Kd.N_append_rows k38 (w0 := w) w.heap.size rfl (.tmp 8) (.tmp 10) 22 38 (.agg #[(.int .i64 0), (.int .i64 0), (.string ⟨#[]⟩), (.string ⟨#[]⟩), (.slice none 0 0)]) 72 rfl Tryz.underlying22 info38 rfl (by decide) (by omega) v760 t759 t762 _ _ _ (fun k_ => (w.heap.size ≤ k_)) (fun k_ => ((fun k_ => (w.heap.size ≤ k_))) k_ ∧ some k_ ≠ (v760 : Value).ownBlock) rfl rfl ?aO ?aR (fun _ hk => hk) ?aF ?aB ?aS ?aL ?_; (case aR => exact (by skip; exact Kd.N_F (Kd.N_mono (ok' := (fun k_ => ((fun k_ => (w.heap.size ≤ k_))) k_ ∧ some k_ ≠ (v760 : Value).ownBlock)) (HO764.out) (fun k_ hk => ⟨hk.1, hk.2⟩)))); (case aB => exact (zb HB)); (case aF => exact (fun k_ hk => (Nat.le_trans (below_size (zb HB)) hk))); (case aO => exact (by exact Kd.N_mono HO761.out (fun _ hk => hk.1))); (case aS => exact (below_size (zb HB))); (case aL => have := LMc5.out; omega); intro v766 w8 ho hb hg hat; rw [← Ny765.out] at ho; have n1_ := Aside0.mk (hb); have n2_ := Aside0.mk (ho); clear HO764; clear HB; clear HO761; have HB := n1_; have HO767 := n2_; clear n1_ n2_; clear ho hb hg hat))
  go_ret
  exact ⟨_, ze, by exact HO767.out, zb HB⟩
 ·rw [if_neg c5] at H
  exact absurd H (by simp)

end Go.Proofs.YticacakoefojbaaGreat.Pr
