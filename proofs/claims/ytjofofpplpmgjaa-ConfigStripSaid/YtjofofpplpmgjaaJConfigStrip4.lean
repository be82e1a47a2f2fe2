/- Texts under the row of ConfigStrip (part 4).. -/
import Derived.Test.YtjofofpplpmgjaaJConfigStrip3
import Derived.Test.YtjofofpplpmgjaaJConfigStrip1
namespace Go.Proofs.Ytjofofpplpmgjaa.Pr
open Go.RowKit Go.Proofs.YtjofofpplpmgjaaW.PrintWords Go.Proofs.YtjofofpplpmgjaaW.PrintLast Go.Proofs.YtjofofpplpmgjaaW.PrintMore
attribute [local go_sem] max2_int min2_int max_two min_two max_three min_three max_four min_four   -- for this text's walks alone
set_option linter.unusedVariables false
set_option linter.unusedSimpArgs false

/-! ### boltinglaw12_fixed: function 12 -/
def boltinglaw12_fixedK.f (k : Nat)  : Option (Bool) := (config_Plain.f).bind fun bt188 => ((config_All.f).bind fun bt204 => ((config_Strip.f bt204.1 bt204.2.1 bt204.2.2.1 bt204.2.2.2.1 bt204.2.2.2.2.1 bt204.2.2.2.2.2.1 bt204.2.2.2.2.2.2.1 bt204.2.2.2.2.2.2.2).bind fun bt222 => ((boltingref12_Plain.f).bind fun bt239 => ((boltingref12_Same.f k bt188.1 bt188.2.1 bt188.2.2.1 bt188.2.2.2.1 bt188.2.2.2.2.1 bt188.2.2.2.2.2.1 bt188.2.2.2.2.2.2.1 bt188.2.2.2.2.2.2.2 bt239.1 bt239.2.1 bt239.2.2.1 bt239.2.2.2.1 bt239.2.2.2.2.1 bt239.2.2.2.2.2.1 bt239.2.2.2.2.2.2.1 bt239.2.2.2.2.2.2.2).bind fun t255 => (if t255 = true then ((config_Element.f k bt188.1 bt188.2.1 bt188.2.2.1 bt188.2.2.2.1 bt188.2.2.2.2.1 bt188.2.2.2.2.2.1 bt188.2.2.2.2.2.2.1 bt188.2.2.2.2.2.2.2 (⟨#[98]⟩ : ByteArray)).bind fun t256 => (if t256 = 0 then ((config_Element.f k bt188.1 bt188.2.1 bt188.2.2.1 bt188.2.2.2.1 bt188.2.2.2.2.1 bt188.2.2.2.2.2.1 bt188.2.2.2.2.2.2.1 bt188.2.2.2.2.2.2.2 (⟨#[115, 99, 114, 105, 112, 116]⟩ : ByteArray)).bind fun t257 => (if t257 = 1 then ((config_Attr.f bt188.1 bt188.2.1 bt188.2.2.1 bt188.2.2.2.1 bt188.2.2.2.2.1 bt188.2.2.2.2.2.1 bt188.2.2.2.2.2.2.1 bt188.2.2.2.2.2.2.2 (⟨#[97]⟩ : ByteArray) (⟨#[104, 114, 101, 102]⟩ : ByteArray)).bind fun t258 => (if t258 = true then ((config_Attr.f bt188.1 bt188.2.1 bt188.2.2.1 bt188.2.2.2.1 bt188.2.2.2.2.1 bt188.2.2.2.2.2.1 bt188.2.2.2.2.2.2.1 bt188.2.2.2.2.2.2.2 (⟨#[98]⟩ : ByteArray) (⟨#[104, 114, 101, 102]⟩ : ByteArray)).bind fun t259 => (if t259 = true then (some false) else (if bt204.2.2.2.2.2.2.1 = true then ((config_Element.f k bt204.1 bt204.2.1 bt204.2.2.1 bt204.2.2.2.1 bt204.2.2.2.2.1 bt204.2.2.2.2.2.1 bt204.2.2.2.2.2.2.1 bt204.2.2.2.2.2.2.2 (⟨#[115, 99, 114, 105, 112, 116]⟩ : ByteArray)).bind fun t260 => (if t260 = 0 then ((config_Attr.f bt204.1 bt204.2.1 bt204.2.2.1 bt204.2.2.2.1 bt204.2.2.2.2.1 bt204.2.2.2.2.2.1 bt204.2.2.2.2.2.2.1 bt204.2.2.2.2.2.2.2 (⟨#[98]⟩ : ByteArray) (⟨#[111, 110, 99, 108, 105, 99, 107]⟩ : ByteArray)).bind fun t261 => (if t261 = true then ((config_Element.f k bt222.1 bt222.2.1 bt222.2.2.1 bt222.2.2.2.1 bt222.2.2.2.2.1 bt222.2.2.2.2.2.1 bt222.2.2.2.2.2.2.1 bt222.2.2.2.2.2.2.2 (⟨#[115, 99, 114, 105, 112, 116]⟩ : ByteArray)).bind fun t262 => (if t262 = 1 then ((config_Element.f k bt222.1 bt222.2.1 bt222.2.2.1 bt222.2.2.2.1 bt222.2.2.2.2.1 bt222.2.2.2.2.2.1 bt222.2.2.2.2.2.2.1 bt222.2.2.2.2.2.2.2 (⟨#[98]⟩ : ByteArray)).bind fun t263 => (if t263 = 0 then ((config_Check.f bt188.1 bt188.2.1 bt188.2.2.1 bt188.2.2.2.1 bt188.2.2.2.2.1 bt188.2.2.2.2.2.1 bt188.2.2.2.2.2.2.1 bt188.2.2.2.2.2.2.2).bind fun t264 => (if t264 = 0 then ((config_Check.f false false ([] : List ByteArray) ([] : List ByteArray) ([] : List ByteArray) ([] : List (S35)) false true).bind fun t265 => (if t265 = 120 then ((config_Check.f false false (([(⟨#[65]⟩ : ByteArray)] : List ByteArray)) ([] : List ByteArray) ([] : List ByteArray) ([] : List (S35)) false false).bind fun t269 => (if t269 = 121 then ((config_Check.f false false ([] : List ByteArray) ([] : List ByteArray) (([(⟨#[97]⟩ : ByteArray), (⟨#[97]⟩ : ByteArray)] : List ByteArray)) ([] : List (S35)) false false).bind fun t273 => (some (t273 == 122))) else (some false))) else (some false))) else (some false))) else (some false))) else (some false))) else (some false))) else (some false))) else (some false)))) else (some false))) else (some false))) else (some false))) else (some false))))))
def boltinglaw12_fixedK.T3 : Bool × List (List Nat × List Nat) := (true, [([], []), ([], []), ([0, 1, 1], [0, 1]), ([2, 2], [2]), ([3], [3]), ([4, 3, 3], [3, 4]), ([5, 3], [3, 5]), ([3, 6], [3, 6]), ([7, 5], [7]), ([8], [8]), ([9, 8, 8], [8, 9]), ([10, 8], [8, 10]), ([8, 11], [8, 11]), ([12, 10], [12]), ([13], [13]), ([14, 13, 13], [13, 14]), ([13, 15], [13, 15]), ([16, 15], [16]), ([17], [17]), ([18, 17, 17], [17, 18]), ([19, 17], [17, 19]), ([17, 20], [17, 20]), ([21, 19], [21]), ([22], [22]), ([23, 22], [22, 23]), ([22, 24], [22, 24]), ([25, 22], [25]), ([26], [26]), ([27, 26, 26], [26, 27]), ([28, 26], [26, 28]), ([26, 29], [26, 29]), ([30, 28], [30]), ([31], [31]), ([32, 31, 31], [31, 32]), ([31, 33], [31, 33]), ([34, 33], [34]), ([35], [35]), ([36, 35, 35], [35, 36]), ([37, 35], [35, 37]), ([35, 38], [35, 38]), ([39, 37], [39]), ([40], [40]), ([41, 40, 40], [40, 41]), ([42, 40], [40, 42]), ([40, 43], [40, 43]), ([44, 42], [44]), ([45], [45]), ([46, 45, 45], [45, 46]), ([47, 45], [45, 47]), ([45, 48], [45, 48]), ([49, 47], [49]), ([50], [50]), ([51, 50, 50], [50, 51]), ([52, 50], [50, 52]), ([50, 53], [50, 53]), ([54, 52], [54]), ([55], [55]), ([56, 55], [55, 56]), ([57, 55, 55], [55, 57]), ([58, 55], [55, 58]), ([55, 59], [55, 59]), ([60, 58], [60]), ([61], [61]), ([62, 61], [61, 62]), ([63, 61, 61], [61, 63]), ([64, 61], [61, 64]), ([61, 65], [61, 65]), ([66, 64, 0, 1, 2, 3, 4, 5, 6, 7, 8, 9, 10, 11, 12, 13, 14, 15, 16, 17, 18, 19, 20, 21, 22, 23, 24, 25, 26, 27, 28, 29, 30, 31, 32, 33, 34, 35, 36, 37, 38, 39, 40, 41, 42, 43, 44, 45, 46, 47, 48, 49, 50, 51, 52, 53, 54, 55, 56, 57, 58, 59, 60, 61, 62, 63, 64, 65, 66], [66])])
def boltinglaw12_fixedK.B3 : List Nat := [0, 0, 3, 7, 15, 31, 63, 127, 255, 511, 1023, 2047, 4095, 8191, 16383, 32767, 65535, 131071, 262143, 524287, 1048575, 2097151, 4194303, 8388607, 16777215, 33554431, 67108863, 134217727, 268435455, 536870911, 1073741823, 2147483647, 4294967295, 8589934591, 17179869183, 34359738367, 68719476735, 137438953471, 274877906943, 549755813887, 1099511627775, 2199023255551, 4398046511103, 8796093022207, 17592186044415, 35184372088831, 70368744177663, 140737488355327, 281474976710655, 562949953421311, 1125899906842623, 2251799813685247, 4503599627370495, 9007199254740991, 18014398509481983, 36028797018963967, 72057594037927935, 144115188075855871, 288230376151711743, 576460752303423487, 1152921504606846975, 2305843009213693951, 4611686018427387903, 9223372036854775807, 18446744073709551615, 36893488147419103231, 73786976294838206463, 147573952589676412927]
theorem boltinglaw12_fixedK.tab3 : rtab .any (opsOf Try.f12 3) = boltinglaw12_fixedK.T3 := by kernel_rfl
theorem boltinglaw12_fixedK.bits3 : waitsOk boltinglaw12_fixedK.T3.2 boltinglaw12_fixedK.B3 = true := by kernel_rfl
set_option maxHeartbeats 8000000 in
set_option maxRecDepth 100000 in
theorem boltinglaw12_fixedK.calls_true (k : Nat)  (r : Bool) (w : World) (h : boltinglaw12_fixedK.f k  = some r) (hT : Aside0 (r = true)) :
    Calls Try.prog 12 #[] w fun e w' => e = .returned (.bool r) ∧ Below w.heap.size w w' := by
 have hu25 := Try.underlying25
 have HB := Aside0.mk (Below.refl w.heap.size w)
 have H : ((config_Plain.f).bind fun bt188 => ((config_All.f).bind fun bt204 => ((config_Strip.f bt204.1 bt204.2.1 bt204.2.2.1 bt204.2.2.2.1 bt204.2.2.2.2.1 bt204.2.2.2.2.2.1 bt204.2.2.2.2.2.2.1 bt204.2.2.2.2.2.2.2).bind fun bt222 => ((boltingref12_Plain.f).bind fun bt239 => ((boltingref12_Same.f k bt188.1 bt188.2.1 bt188.2.2.1 bt188.2.2.2.1 bt188.2.2.2.2.1 bt188.2.2.2.2.2.1 bt188.2.2.2.2.2.2.1 bt188.2.2.2.2.2.2.2 bt239.1 bt239.2.1 bt239.2.2.1 bt239.2.2.2.1 bt239.2.2.2.2.1 bt239.2.2.2.2.2.1 bt239.2.2.2.2.2.2.1 bt239.2.2.2.2.2.2.2).bind fun t255 => (if t255 = true then ((config_Element.f k bt188.1 bt188.2.1 bt188.2.2.1 bt188.2.2.2.1 bt188.2.2.2.2.1 bt188.2.2.2.2.2.1 bt188.2.2.2.2.2.2.1 bt188.2.2.2.2.2.2.2 (⟨#[98]⟩ : ByteArray)).bind fun t256 => (if t256 = 0 then ((config_Element.f k bt188.1 bt188.2.1 bt188.2.2.1 bt188.2.2.2.1 bt188.2.2.2.2.1 bt188.2.2.2.2.2.1 bt188.2.2.2.2.2.2.1 bt188.2.2.2.2.2.2.2 (⟨#[115, 99, 114, 105, 112, 116]⟩ : ByteArray)).bind fun t257 => (if t257 = 1 then ((config_Attr.f bt188.1 bt188.2.1 bt188.2.2.1 bt188.2.2.2.1 bt188.2.2.2.2.1 bt188.2.2.2.2.2.1 bt188.2.2.2.2.2.2.1 bt188.2.2.2.2.2.2.2 (⟨#[97]⟩ : ByteArray) (⟨#[104, 114, 101, 102]⟩ : ByteArray)).bind fun t258 => (if t258 = true then ((config_Attr.f bt188.1 bt188.2.1 bt188.2.2.1 bt188.2.2.2.1 bt188.2.2.2.2.1 bt188.2.2.2.2.2.1 bt188.2.2.2.2.2.2.1 bt188.2.2.2.2.2.2.2 (⟨#[98]⟩ : ByteArray) (⟨#[104, 114, 101, 102]⟩ : ByteArray)).bind fun t259 => (if t259 = true then (some false) else (if bt204.2.2.2.2.2.2.1 = true then ((config_Element.f k bt204.1 bt204.2.1 bt204.2.2.1 bt204.2.2.2.1 bt204.2.2.2.2.1 bt204.2.2.2.2.2.1 bt204.2.2.2.2.2.2.1 bt204.2.2.2.2.2.2.2 (⟨#[115, 99, 114, 105, 112, 116]⟩ : ByteArray)).bind fun t260 => (if t260 = 0 then ((config_Attr.f bt204.1 bt204.2.1 bt204.2.2.1 bt204.2.2.2.1 bt204.2.2.2.2.1 bt204.2.2.2.2.2.1 bt204.2.2.2.2.2.2.1 bt204.2.2.2.2.2.2.2 (⟨#[98]⟩ : ByteArray) (⟨#[111, 110, 99, 108, 105, 99, 107]⟩ : ByteArray)).bind fun t261 => (if t261 = true then ((config_Element.f k bt222.1 bt222.2.1 bt222.2.2.1 bt222.2.2.2.1 bt222.2.2.2.2.1 bt222.2.2.2.2.2.1 bt222.2.2.2.2.2.2.1 bt222.2.2.2.2.2.2.2 (⟨#[115, 99, 114, 105, 112, 116]⟩ : ByteArray)).bind fun t262 => (if t262 = 1 then ((config_Element.f k bt222.1 bt222.2.1 bt222.2.2.1 bt222.2.2.2.1 bt222.2.2.2.2.1 bt222.2.2.2.2.2.1 bt222.2.2.2.2.2.2.1 bt222.2.2.2.2.2.2.2 (⟨#[98]⟩ : ByteArray)).bind fun t263 => (if t263 = 0 then ((config_Check.f bt188.1 bt188.2.1 bt188.2.2.1 bt188.2.2.2.1 bt188.2.2.2.2.1 bt188.2.2.2.2.2.1 bt188.2.2.2.2.2.2.1 bt188.2.2.2.2.2.2.2).bind fun t264 => (if t264 = 0 then ((config_Check.f false false ([] : List ByteArray) ([] : List ByteArray) ([] : List ByteArray) ([] : List (S35)) false true).bind fun t265 => (if t265 = 120 then ((config_Check.f false false (([(⟨#[65]⟩ : ByteArray)] : List ByteArray)) ([] : List ByteArray) ([] : List ByteArray) ([] : List (S35)) false false).bind fun t269 => (if t269 = 121 then ((config_Check.f false false ([] : List ByteArray) ([] : List ByteArray) (([(⟨#[97]⟩ : ByteArray), (⟨#[97]⟩ : ByteArray)] : List ByteArray)) ([] : List (S35)) false false).bind fun t273 => (some (t273 == 122))) else (some false))) else (some false))) else (some false))) else (some false))) else (some false))) else (some false))) else (some false))) else (some false)))) else (some false))) else (some false))) else (some false))) else (some false))))))) = some r := h
 clear h
 replace H := Option.bind_eq_some_iff.mp H
 obtain ⟨⟨t188, t189, t190, t193, t196, t199, t202, t203⟩, A10, H⟩ := H
 try dsimp only at H
 have A1 := Aside0.mk A10
 clear A10
 replace H := Option.bind_eq_some_iff.mp H
 obtain ⟨⟨t204, t205, t206, t209, t212, t215, t218, t219⟩, A20, H⟩ := H
 try dsimp only at H
 have A2 := Aside0.mk A20
 clear A20
 replace H := Option.bind_eq_some_iff.mp H
 obtain ⟨⟨t222, t223, t224, t227, t230, t233, t236, t237⟩, A30, H⟩ := H
 try dsimp only at H
 have A3 := Aside0.mk A30
 clear A30
 replace H := Option.bind_eq_some_iff.mp H
 obtain ⟨⟨t239, t240, t241, t244, t247, t250, t253, t254⟩, A40, H⟩ := H
 try dsimp only at H
 have A4 := Aside0.mk A40
 clear A40
 replace H := Option.bind_eq_some_iff.mp H
 obtain ⟨t255, A50, H⟩ := H
 have A5 := Aside0.mk A50
 clear A50
 by_cases c6 : t255 = true
 ·subst c6
  replace H : ((config_Element.f k t188 t189 t190 t193 t196 t199 t202 t203 (⟨#[98]⟩ : ByteArray)).bind fun t256 => (if t256 = 0 then ((config_Element.f k t188 t189 t190 t193 t196 t199 t202 t203 (⟨#[115, 99, 114, 105, 112, 116]⟩ : ByteArray)).bind fun t257 => (if t257 = 1 then ((config_Attr.f t188 t189 t190 t193 t196 t199 t202 t203 (⟨#[97]⟩ : ByteArray) (⟨#[104, 114, 101, 102]⟩ : ByteArray)).bind fun t258 => (if t258 = true then ((config_Attr.f t188 t189 t190 t193 t196 t199 t202 t203 (⟨#[98]⟩ : ByteArray) (⟨#[104, 114, 101, 102]⟩ : ByteArray)).bind fun t259 => (if t259 = true then (some false) else (if t218 = true then ((config_Element.f k t204 t205 t206 t209 t212 t215 t218 t219 (⟨#[115, 99, 114, 105, 112, 116]⟩ : ByteArray)).bind fun t260 => (if t260 = 0 then ((config_Attr.f t204 t205 t206 t209 t212 t215 t218 t219 (⟨#[98]⟩ : ByteArray) (⟨#[111, 110, 99, 108, 105, 99, 107]⟩ : ByteArray)).bind fun t261 => (if t261 = true then ((config_Element.f k t222 t223 t224 t227 t230 t233 t236 t237 (⟨#[115, 99, 114, 105, 112, 116]⟩ : ByteArray)).bind fun t262 => (if t262 = 1 then ((config_Element.f k t222 t223 t224 t227 t230 t233 t236 t237 (⟨#[98]⟩ : ByteArray)).bind fun t263 => (if t263 = 0 then ((config_Check.f t188 t189 t190 t193 t196 t199 t202 t203).bind fun t264 => (if t264 = 0 then ((config_Check.f false false ([] : List ByteArray) ([] : List ByteArray) ([] : List ByteArray) ([] : List (S35)) false true).bind fun t265 => (if t265 = 120 then ((config_Check.f false false (([(⟨#[65]⟩ : ByteArray)] : List ByteArray)) ([] : List ByteArray) ([] : List ByteArray) ([] : List (S35)) false false).bind fun t269 => (if t269 = 121 then ((config_Check.f false false ([] : List ByteArray) ([] : List ByteArray) (([(⟨#[97]⟩ : ByteArray), (⟨#[97]⟩ : ByteArray)] : List ByteArray)) ([] : List (S35)) false false).bind fun t273 => (some (t273 == 122))) else (some false))) else (some false))) else (some false))) else (some false))) else (some false))) else (some false))) else (some false))) else (some false)))) else (some false))) else (some false))) else (some false))) = some r := by rw [if_pos rfl] at H; exact H
  replace H := Option.bind_eq_some_iff.mp H
  obtain ⟨t256, A70, H⟩ := H
  have A7 := Aside0.mk A70
  clear A70
  by_cases c8 : t256 = 0
  ·rw [if_pos c8] at H
   have c8b0 : (t256 == 0) = true := beq_iff_eq.mpr c8
   have c8b1 : (t256 != 0) = false := bne_eq_false_iff_eq.mpr c8
   clear c8
   replace H := Option.bind_eq_some_iff.mp H
   obtain ⟨t257, A90, H⟩ := H
   have A9 := Aside0.mk A90
   clear A90
   by_cases c10 : t257 = 1
   ·rw [if_pos c10] at H
    have c10b0 : (t257 == 1) = true := beq_iff_eq.mpr c10
    have c10b1 : (t257 != 1) = false := bne_eq_false_iff_eq.mpr c10
    clear c10
    replace H := Option.bind_eq_some_iff.mp H
    obtain ⟨t258, A110, H⟩ := H
    have A11 := Aside0.mk A110
    clear A110
    by_cases c12 : t258 = true
    ·subst c12
     replace H : ((config_Attr.f t188 t189 t190 t193 t196 t199 t202 t203 (⟨#[98]⟩ : ByteArray) (⟨#[104, 114, 101, 102]⟩ : ByteArray)).bind fun t259 => (if t259 = true then (some false) else (if t218 = true then ((config_Element.f k t204 t205 t206 t209 t212 t215 t218 t219 (⟨#[115, 99, 114, 105, 112, 116]⟩ : ByteArray)).bind fun t260 => (if t260 = 0 then ((config_Attr.f t204 t205 t206 t209 t212 t215 t218 t219 (⟨#[98]⟩ : ByteArray) (⟨#[111, 110, 99, 108, 105, 99, 107]⟩ : ByteArray)).bind fun t261 => (if t261 = true then ((config_Element.f k t222 t223 t224 t227 t230 t233 t236 t237 (⟨#[115, 99, 114, 105, 112, 116]⟩ : ByteArray)).bind fun t262 => (if t262 = 1 then ((config_Element.f k t222 t223 t224 t227 t230 t233 t236 t237 (⟨#[98]⟩ : ByteArray)).bind fun t263 => (if t263 = 0 then ((config_Check.f t188 t189 t190 t193 t196 t199 t202 t203).bind fun t264 => (if t264 = 0 then ((config_Check.f false false ([] : List ByteArray) ([] : List ByteArray) ([] : List ByteArray) ([] : List (S35)) false true).bind fun t265 => (if t265 = 120 then ((config_Check.f false false (([(⟨#[65]⟩ : ByteArray)] : List ByteArray)) ([] : List ByteArray) ([] : List ByteArray) ([] : List (S35)) false false).bind fun t269 => (if t269 = 121 then ((config_Check.f false false ([] : List ByteArray) ([] : List ByteArray) (([(⟨#[97]⟩ : ByteArray), (⟨#[97]⟩ : ByteArray)] : List ByteArray)) ([] : List (S35)) false false).bind fun t273 => (some (t273 == 122))) else (some false))) else (some false))) else (some false))) else (some false))) else (some false))) else (some false))) else (some false))) else (some false)))) = some r := by rw [if_pos rfl] at H; exact H
     replace H := Option.bind_eq_some_iff.mp H
     obtain ⟨t259, A130, H⟩ := H
     have A13 := Aside0.mk A130
     clear A130
     by_cases c14 : t259 = true
     ·subst c14
      replace H : (some false) = some r := by rw [if_pos rfl] at H; exact H
      exact absurd (Option.some.inj H) (by rw [hT.out]; decide)
     ·replace c14 := Bool.eq_false_iff.mpr c14
      subst c14
      replace H : (if t218 = true then ((config_Element.f k t204 t205 t206 t209 t212 t215 t218 t219 (⟨#[115, 99, 114, 105, 112, 116]⟩ : ByteArray)).bind fun t260 => (if t260 = 0 then ((config_Attr.f t204 t205 t206 t209 t212 t215 t218 t219 (⟨#[98]⟩ : ByteArray) (⟨#[111, 110, 99, 108, 105, 99, 107]⟩ : ByteArray)).bind fun t261 => (if t261 = true then ((config_Element.f k t222 t223 t224 t227 t230 t233 t236 t237 (⟨#[115, 99, 114, 105, 112, 116]⟩ : ByteArray)).bind fun t262 => (if t262 = 1 then ((config_Element.f k t222 t223 t224 t227 t230 t233 t236 t237 (⟨#[98]⟩ : ByteArray)).bind fun t263 => (if t263 = 0 then ((config_Check.f t188 t189 t190 t193 t196 t199 t202 t203).bind fun t264 => (if t264 = 0 then ((config_Check.f false false ([] : List ByteArray) ([] : List ByteArray) ([] : List ByteArray) ([] : List (S35)) false true).bind fun t265 => (if t265 = 120 then ((config_Check.f false false (([(⟨#[65]⟩ : ByteArray)] : List ByteArray)) ([] : List ByteArray) ([] : List ByteArray) ([] : List (S35)) false false).bind fun t269 => (if t269 = 121 then ((config_Check.f false false ([] : List ByteArray) ([] : List ByteArray) (([(⟨#[97]⟩ : ByteArray), (⟨#[97]⟩ : ByteArray)] : List ByteArray)) ([] : List (S35)) false false).bind fun t273 => (some (t273 == 122))) else (some false))) else (some false))) else (some false))) else (some false))) else (some false))) else (some false))) else (some false))) else (some false)) = some r := by rw [if_neg (show ¬ (false = true) by decide)] at H; exact H
      by_cases c51 : t218 = true
      ·subst c51
       replace H : ((config_Element.f k t204 t205 t206 t209 t212 t215 true t219 (⟨#[115, 99, 114, 105, 112, 116]⟩ : ByteArray)).bind fun t260 => (if t260 = 0 then ((config_Attr.f t204 t205 t206 t209 t212 t215 true t219 (⟨#[98]⟩ : ByteArray) (⟨#[111, 110, 99, 108, 105, 99, 107]⟩ : ByteArray)).bind fun t261 => (if t261 = true then ((config_Element.f k t222 t223 t224 t227 t230 t233 t236 t237 (⟨#[115, 99, 114, 105, 112, 116]⟩ : ByteArray)).bind fun t262 => (if t262 = 1 then ((config_Element.f k t222 t223 t224 t227 t230 t233 t236 t237 (⟨#[98]⟩ : ByteArray)).bind fun t263 => (if t263 = 0 then ((config_Check.f t188 t189 t190 t193 t196 t199 t202 t203).bind fun t264 => (if t264 = 0 then ((config_Check.f false false ([] : List ByteArray) ([] : List ByteArray) ([] : List ByteArray) ([] : List (S35)) false true).bind fun t265 => (if t265 = 120 then ((config_Check.f false false (([(⟨#[65]⟩ : ByteArray)] : List ByteArray)) ([] : List ByteArray) ([] : List ByteArray) ([] : List (S35)) false false).bind fun t269 => (if t269 = 121 then ((config_Check.f false false ([] : List ByteArray) ([] : List ByteArray) (([(⟨#[97]⟩ : ByteArray), (⟨#[97]⟩ : ByteArray)] : List ByteArray)) ([] : List (S35)) false false).bind fun t273 => (some (t273 == 122))) else (some false))) else (some false))) else (some false))) else (some false))) else (some false))) else (some false))) else (some false))) = some r := by rw [if_pos rfl] at H; exact H
       replace H := Option.bind_eq_some_iff.mp H
       obtain ⟨t260, A520, H⟩ := H
       have A52 := Aside0.mk A520
       clear A520
       by_cases c53 : t260 = 0
       ·rw [if_pos c53] at H
        have c53b0 : (t260 == 0) = true := beq_iff_eq.mpr c53
        have c53b1 : (t260 != 0) = false := bne_eq_false_iff_eq.mpr c53
        clear c53
        replace H := Option.bind_eq_some_iff.mp H
        obtain ⟨t261, A540, H⟩ := H
        have A54 := Aside0.mk A540
        clear A540
        by_cases c55 : t261 = true
        ·subst c55
         replace H : ((config_Element.f k t222 t223 t224 t227 t230 t233 t236 t237 (⟨#[115, 99, 114, 105, 112, 116]⟩ : ByteArray)).bind fun t262 => (if t262 = 1 then ((config_Element.f k t222 t223 t224 t227 t230 t233 t236 t237 (⟨#[98]⟩ : ByteArray)).bind fun t263 => (if t263 = 0 then ((config_Check.f t188 t189 t190 t193 t196 t199 t202 t203).bind fun t264 => (if t264 = 0 then ((config_Check.f false false ([] : List ByteArray) ([] : List ByteArray) ([] : List ByteArray) ([] : List (S35)) false true).bind fun t265 => (if t265 = 120 then ((config_Check.f false false (([(⟨#[65]⟩ : ByteArray)] : List ByteArray)) ([] : List ByteArray) ([] : List ByteArray) ([] : List (S35)) false false).bind fun t269 => (if t269 = 121 then ((config_Check.f false false ([] : List ByteArray) ([] : List ByteArray) (([(⟨#[97]⟩ : ByteArray), (⟨#[97]⟩ : ByteArray)] : List ByteArray)) ([] : List (S35)) false false).bind fun t273 => (some (t273 == 122))) else (some false))) else (some false))) else (some false))) else (some false))) else (some false))) = some r := by rw [if_pos rfl] at H; exact H
         replace H := Option.bind_eq_some_iff.mp H
         obtain ⟨t262, A560, H⟩ := H
         have A56 := Aside0.mk A560
         clear A560
         by_cases c57 : t262 = 1
         ·rw [if_pos c57] at H
          have c57b0 : (t262 == 1) = true := beq_iff_eq.mpr c57
          have c57b1 : (t262 != 1) = false := bne_eq_false_iff_eq.mpr c57
          clear c57
          replace H := Option.bind_eq_some_iff.mp H
          obtain ⟨t263, A580, H⟩ := H
          have A58 := Aside0.mk A580
          clear A580
          by_cases c59 : t263 = 0
          ·rw [if_pos c59] at H
           have c59b0 : (t263 == 0) = true := beq_iff_eq.mpr c59
           have c59b1 : (t263 != 0) = false := bne_eq_false_iff_eq.mpr c59
           clear c59
           replace H := Option.bind_eq_some_iff.mp H
           obtain ⟨t264, A600, H⟩ := H
           have A60 := Aside0.mk A600
           clear A600
           by_cases c61 : t264 = 0
           ·rw [if_pos c61] at H
            have c61b0 : (t264 == 0) = true := beq_iff_eq.mpr c61
            have c61b1 : (t264 != 0) = false := bne_eq_false_iff_eq.mpr c61
            clear c61
            replace H := Option.bind_eq_some_iff.mp H
            obtain ⟨t265, A620, H⟩ := H
            have A62 := Aside0.mk A620
            clear A620
            by_cases c63 : t265 = 120
            ·rw [if_pos c63] at H
             have c63b0 : (t265 == 120) = true := beq_iff_eq.mpr c63
             have c63b1 : (t265 != 120) = false := bne_eq_false_iff_eq.mpr c63
             clear c63
             obtain ⟨y266, hy266⟩ : ∃ y_ : List ByteArray, y_ = (([(⟨#[65]⟩ : ByteArray)] : List ByteArray)) := ⟨_, rfl⟩
             replace H : ((config_Check.f false false y266 ([] : List ByteArray) ([] : List ByteArray) ([] : List (S35)) false false).bind fun t269 => (if t269 = 121 then ((config_Check.f false false ([] : List ByteArray) ([] : List ByteArray) (([(⟨#[97]⟩ : ByteArray), (⟨#[97]⟩ : ByteArray)] : List ByteArray)) ([] : List (S35)) false false).bind fun t273 => (some (t273 == 122))) else (some false))) = some r := by first | (rw [hy266]; with_reducible exact H) | (have H2_ := (Option.bind_some _ _).symm.trans H; rw [hy266]; with_reducible exact H2_) | (have H2_ := (Option.bind_some _ _).symm.trans H; with_reducible exact H2_) | with_reducible exact H | (rw [hy266]; exact H) | exact H
             have Ny266 := Aside0.mk hy266
             clear hy266
             replace H := Option.bind_eq_some_iff.mp H
             obtain ⟨t269, A640, H⟩ := H
             have A64 := Aside0.mk A640
             clear A640
             by_cases c65 : t269 = 121
             ·rw [if_pos c65] at H
              have c65b0 : (t269 == 121) = true := beq_iff_eq.mpr c65
              have c65b1 : (t269 != 121) = false := bne_eq_false_iff_eq.mpr c65
              clear c65
              obtain ⟨y270, hy270⟩ : ∃ y_ : List ByteArray, y_ = (([(⟨#[97]⟩ : ByteArray), (⟨#[97]⟩ : ByteArray)] : List ByteArray)) := ⟨_, rfl⟩
              replace H : ((config_Check.f false false ([] : List ByteArray) ([] : List ByteArray) y270 ([] : List (S35)) false false).bind fun t273 => (some (t273 == 122))) = some r := by first | (rw [hy270]; with_reducible exact H) | (have H2_ := (Option.bind_some _ _).symm.trans H; rw [hy270]; with_reducible exact H2_) | (have H2_ := (Option.bind_some _ _).symm.trans H; with_reducible exact H2_) | with_reducible exact H | (rw [hy270]; exact H) | exact H
              have Ny270 := Aside0.mk hy270
              clear hy270
              replace H := Option.bind_eq_some_iff.mp H
              obtain ⟨t273, A660, H⟩ := H
              replace H : (some (t273 == 122)) = some r := H
              have A66 := Aside0.mk A660
              clear A660
              obtain rfl := Option.some.inj H
              go_enter Try.func12, Try.ntmps12
              try go_wp2_with (first | ((with_reducible refine gate_callee (f := 28) rfl ?_); refine goesL_ (some 4) rfl rfl Try.func28 (by kernel_rfl) rfl #[] rfl (by (try simp only [List.map_toArray, List.map_cons, List.map_nil]); first | done | rfl | (simp only [List.length_drop, List.length_take]; rfl)) ?_; (with_reducible refine (config_Plain.calls  t188 t189 t190 t193 t196 t199 t202 t203 _ A1.out).mono ?_); rintro e w67 ⟨v191, v194, v197, v200, rfl, ho0, ho1, ho2, ho3, hb⟩; refine ⟨_, rfl, ?_⟩; have n0_ := Aside0.mk (Kd.R_lower (Kd.R_mono (ok' := fun k_ => some k_ ≠ (v194 : Value).ownBlock ∧ some k_ ≠ (v197 : Value).ownBlock) ho0 (fun _ hk_ => hk_.2)) (below_size (by repeat (first | (with_reducible first | exact HB.out | apply below_alloc | apply pw_below_drewN | apply below_drew1) | exact HB.out)))); have n1_ := Aside0.mk (Kd.R_lower (Kd.R_mono (ok' := fun k_ => some k_ ≠ (v191 : Value).ownBlock ∧ some k_ ≠ (v197 : Value).ownBlock) ho1 (fun _ hk_ => hk_.2)) (below_size (by repeat (first | (with_reducible first | exact HB.out | apply below_alloc | apply pw_below_drewN | apply below_drew1) | exact HB.out)))); have n2_ := Aside0.mk (Kd.R_lower (Kd.R_mono (ok' := fun k_ => some k_ ≠ (v191 : Value).ownBlock ∧ some k_ ≠ (v194 : Value).ownBlock) ho2 (fun _ hk_ => hk_.2)) (below_size (by repeat (first | (with_reducible first | exact HB.out | apply below_alloc | apply pw_below_drewN | apply below_drew1) | exact HB.out)))); have n3_ := Aside0.mk (Kd.N_lower (Kd.N_mono (ok' := fun k_ => some k_ ≠ (v191 : Value).ownBlock ∧ some k_ ≠ (v194 : Value).ownBlock ∧ some k_ ≠ (v197 : Value).ownBlock) ho3 (fun k_ hk_ => ⟨hk_.2.1, hk_.2.2.1, hk_.2.2.2⟩)) (below_size (by repeat (first | (with_reducible first | exact HB.out | apply below_alloc | apply pw_below_drewN | apply below_drew1) | exact HB.out)))); have n4_ := Aside0.mk (below_step (by repeat (first | (with_reducible first | exact HB.out | apply below_alloc | apply pw_below_drewN | apply below_drew1) | exact HB.out)) hb); clear HB; have HO192 := n0_; have HO195 := n1_; have HO198 := n2_; have HO201 := n3_; have HB := n4_; clear n0_ n1_ n2_ n3_ n4_; (try clear hb); (try clear hb2); (try clear hk); (try clear hi); (try clear ho0); (try clear ho1); (try clear ho2); (try clear ho3)) | ((with_reducible refine gate_callee (f := 29) rfl ?_); refine goesL_ (some 5) rfl rfl Try.func29 (by kernel_rfl) rfl #[] rfl (by (try simp only [List.map_toArray, List.map_cons, List.map_nil]); first | done | rfl | (simp only [List.length_drop, List.length_take]; rfl)) ?_; (with_reducible refine (config_All.calls  t204 t205 t206 t209 t212 t215 true t219 _ A2.out).mono ?_); rintro e w68 ⟨v207, v210, v213, v216, rfl, ho0, ho1, ho2, ho3, hb⟩; have ho3n_ := Kd.S_N ho3; refine ⟨_, rfl, ?_⟩; have n0_ := Aside0.mk (Kd.R_mono (Kd.R_told (Kd.R_told (Kd.R_told (Kd.R_old (by exact HO192.out) hb) (Kd.R_base ho0)) (Kd.R_base ho1)) (Kd.R_base ho2)) (fun _ h_ => h_.1)); have n1_ := Aside0.mk (Kd.R_mono (Kd.R_told (Kd.R_told (Kd.R_told (Kd.R_old (by exact HO195.out) hb) (Kd.R_base ho0)) (Kd.R_base ho1)) (Kd.R_base ho2)) (fun _ h_ => h_.1)); have n2_ := Aside0.mk (Kd.R_mono (Kd.R_told (Kd.R_told (Kd.R_told (Kd.R_old (by exact HO198.out) hb) (Kd.R_base ho0)) (Kd.R_base ho1)) (Kd.R_base ho2)) (fun _ h_ => h_.1)); have n3_ := Aside0.mk (Kd.N_mono (Kd.N_told (Kd.N_told (Kd.N_told (Kd.N_told (Kd.N_old (by exact HO201.out) hb) (Kd.R_base ho0)) (Kd.R_base ho1)) (Kd.R_base ho2)) (Kd.N_base ho3n_)) (fun _ h_ => h_.1)); have n4_ := Aside0.mk (Kd.R_lower (Kd.R_new' (Kd.R_new' (Kd.R_new' ho0 (Kd.R_lt (by exact HO192.out))) (Kd.R_lt (by exact HO195.out))) (Kd.R_lt (by exact HO198.out))) (below_size (by repeat (first | (with_reducible first | exact HB.out | apply below_alloc | apply pw_below_drewN | apply below_drew1) | exact HB.out)))); have n5_ := Aside0.mk (Kd.R_lower (Kd.R_new' (Kd.R_new' (Kd.R_new' ho1 (Kd.R_lt (by exact HO192.out))) (Kd.R_lt (by exact HO195.out))) (Kd.R_lt (by exact HO198.out))) (below_size (by repeat (first | (with_reducible first | exact HB.out | apply below_alloc | apply pw_below_drewN | apply below_drew1) | exact HB.out)))); have n6_ := Aside0.mk (Kd.R_lower (Kd.R_new' (Kd.R_new' (Kd.R_new' ho2 (Kd.R_lt (by exact HO192.out))) (Kd.R_lt (by exact HO195.out))) (Kd.R_lt (by exact HO198.out))) (below_size (by repeat (first | (with_reducible first | exact HB.out | apply below_alloc | apply pw_below_drewN | apply below_drew1) | exact HB.out)))); have n7_ := Aside0.mk (Kd.N_lower (Kd.N_mono (ok' := fun k_ => some k_ ≠ (v207 : Value).ownBlock ∧ some k_ ≠ (v210 : Value).ownBlock ∧ some k_ ≠ (v213 : Value).ownBlock ∧ some k_ ≠ (v191 : Value).ownBlock ∧ some k_ ≠ (v194 : Value).ownBlock ∧ some k_ ≠ (v197 : Value).ownBlock ∧ some k_ ≠ (v200 : Value).ownBlock) (Kd.S_N (Kd.S_bound ho3)) (fun k_ hk_ => ⟨hk_.1.1, hk_.1.2.1, hk_.1.2.2, (Kd.fresh' (Kd.R_lt (by exact HO192.out)) k_ hk_.2.1), (Kd.fresh' (Kd.R_lt (by exact HO195.out)) k_ hk_.2.1), (Kd.fresh' (Kd.R_lt (by exact HO198.out)) k_ hk_.2.1), (Kd.fresh' (Kd.N_lt (by exact HO201.out)) k_ hk_.2.1)⟩)) (below_size (by repeat (first | (with_reducible first | exact HB.out | apply below_alloc | apply pw_below_drewN | apply below_drew1) | exact HB.out)))); have n8_ := Aside0.mk (below_step (by repeat (first | (with_reducible first | exact HB.out | apply below_alloc | apply pw_below_drewN | apply below_drew1) | exact HB.out)) hb); clear HO192; clear HO195; clear HO198; clear HO201; clear HB; have HO192 := n0_; have HO195 := n1_; have HO198 := n2_; have HO201 := n3_; have HO208 := n4_; have HO211 := n5_; have HO214 := n6_; have HO217 := n7_; have HB := n8_; clear n0_ n1_ n2_ n3_ n4_ n5_ n6_ n7_ n8_; (try clear hb); (try clear hb2); (try clear hk); (try clear hi); (try clear ho0); (try clear ho1); (try clear ho2); (try clear ho3)) | ((with_reducible refine gate_dst (N := 1) rfl ?_); (try (refine gate_guard (by rfl) ?_; dsimp only)); refine box_event ?hg (N := 1) ?hd (cs := #[.bool false, .bool false, .slice none 0 0, .slice none 0 0, .slice none 0 0, .slice none 0 0, .bool false, .bool false]) (t := 25) ?hr ?_; (case hd => rfl); (case hg => rfl); (case hr => first | (go_simp; done) | (go_simp; rfl)); intro gb220 hg w69 hbox hb; have n0_ := Aside0.mk (Kd.R_below (by exact HO192.out) hb); have n1_ := Aside0.mk (Kd.R_below (by exact HO195.out) hb); have n2_ := Aside0.mk (Kd.R_below (by exact HO198.out) hb); have n3_ := Aside0.mk (Kd.N_below (Kd.N_elderB (by exact HO201.out) gb220 (Nat.le_of_eq hg.symm)) hb); have n4_ := Aside0.mk (Kd.R_below (by exact HO208.out) hb); have n5_ := Aside0.mk (Kd.R_below (by exact HO211.out) hb); have n6_ := Aside0.mk (Kd.R_below (by exact HO214.out) hb); have n7_ := Aside0.mk (Kd.N_below (Kd.N_elderB (by exact HO217.out) gb220 (Nat.le_of_eq hg.symm)) hb); have n8_ := Aside0.mk (below_step (by repeat (first | (with_reducible first | exact HB.out | apply below_alloc | apply pw_below_drewN | apply below_drew1) | exact HB.out)) hb); have n9_ := Aside0.mk (hbox); have n10_ := Aside0.mk ((by rw [hg]; exact (below_size (by repeat (first | (with_reducible first | exact HB.out | apply below_alloc | apply pw_below_drewN | apply below_drew1) | exact HB.out))) : w.heap.size ≤ gb220)); have n11_ := Aside0.mk ((by rw [hg]; exact (below_size (by repeat (first | (with_reducible first | exact HB.out | apply below_alloc | apply pw_below_drewN | apply below_drew1) | exact HB.out))) : w.heap.size ≤ gb220)); clear HO192; clear HO195; clear HO198; clear HO201; clear HO208; clear HO211; clear HO214; clear HO217; clear HB; have HO192 := n0_; have HO195 := n1_; have HO198 := n2_; have HO201 := n3_; have HO208 := n4_; have HO211 := n5_; have HO214 := n6_; have HO217 := n7_; have HB := n8_; have BK220 := n9_; have GW220 := n10_; have GE220 := n11_; clear n0_ n1_ n2_ n3_ n4_ n5_ n6_ n7_ n8_ n9_ n10_ n11_; clear hb hbox hg) | ((with_reducible refine gate_dst (N := 2) rfl ?_); (try (refine gate_guard (by rfl) ?_; dsimp only)); refine box_event ?hg (N := 2) ?hd (cs := #[.bool false, .bool false, .slice none 0 0, .slice none 0 0, .slice none 0 0, .slice none 0 0, .bool false, .bool false]) (t := 25) ?hr ?_; (case hd => rfl); (case hg => rfl); (case hr => first | (go_simp; done) | (go_simp; rfl)); intro gb221 hg w70 hbox hb; have n0_ := Aside0.mk (Kd.R_below (by exact HO192.out) hb); have n1_ := Aside0.mk (Kd.R_below (by exact HO195.out) hb); have n2_ := Aside0.mk (Kd.R_below (by exact HO198.out) hb); have n3_ := Aside0.mk (Kd.N_below (Kd.N_elderB (by exact HO201.out) gb221 (Nat.le_of_eq hg.symm)) hb); have n4_ := Aside0.mk (Kd.R_below (by exact HO208.out) hb); have n5_ := Aside0.mk (Kd.R_below (by exact HO211.out) hb); have n6_ := Aside0.mk (Kd.R_below (by exact HO214.out) hb); have n7_ := Aside0.mk (Kd.N_below (Kd.N_elderB (by exact HO217.out) gb221 (Nat.le_of_eq hg.symm)) hb); have n8_ := Aside0.mk (blk_below (g := gb220) (o := .cells #[.bool false, .bool false, .slice none 0 0, .slice none 0 0, .slice none 0 0, .slice none 0 0, .bool false, .bool false] 25 (0, 0)) (by exact BK220.out) hb); have n9_ := Aside0.mk (below_step (by repeat (first | (with_reducible first | exact HB.out | apply below_alloc | apply pw_below_drewN | apply below_drew1 | refine below_set ?_ GE220.out) | exact HB.out)) hb); have n10_ := Aside0.mk (hbox); have n11_ := Aside0.mk ((by rw [hg]; exact (below_size (by repeat (first | (with_reducible first | exact HB.out | apply below_alloc | apply pw_below_drewN | apply below_drew1 | refine below_set ?_ GE220.out) | exact HB.out))) : w.heap.size ≤ gb221)); have n12_ := Aside0.mk ((by rw [hg]; exact (below_size (by repeat (first | (with_reducible first | exact HB.out | apply below_alloc | apply pw_below_drewN | apply below_drew1 | refine below_set ?_ GE220.out) | exact HB.out))) : w.heap.size ≤ gb221)); have n13_ := Aside0.mk ((by rw [hg]; exact Nat.ne_of_lt (blk_lt (g := gb220) (o := .cells #[.bool false, .bool false, .slice none 0 0, .slice none 0 0, .slice none 0 0, .slice none 0 0, .bool false, .bool false] 25 (0, 0)) (by exact BK220.out)) : gb220 ≠ gb221)); have n14_ := Aside0.mk ((by rw [hg]; exact Nat.ne_of_gt (blk_lt (g := gb220) (o := .cells #[.bool false, .bool false, .slice none 0 0, .slice none 0 0, .slice none 0 0, .slice none 0 0, .bool false, .bool false] 25 (0, 0)) (by exact BK220.out)) : gb221 ≠ gb220)); clear HO192; clear HO195; clear HO198; clear HO201; clear HO208; clear HO211; clear HO214; clear HO217; clear BK220; clear HB; have HO192 := n0_; have HO195 := n1_; have HO198 := n2_; have HO201 := n3_; have HO208 := n4_; have HO211 := n5_; have HO214 := n6_; have HO217 := n7_; have BK220 := n8_; have HB := n9_; have BK221 := n10_; have GW221 := n11_; have GE221 := n12_; have NB220_221 := n13_; have NB221_220 := n14_; clear n0_ n1_ n2_ n3_ n4_ n5_ n6_ n7_ n8_ n9_ n10_ n11_ n12_ n13_ n14_; clear hb hbox hg; have hnb71 := NB220_221.out; have hnc71 := NB221_220.out; have hcz72_0 : w70.cell? ⟨gb220, 0, none⟩ = some (.bool false) := (blk_cell BK220.out 0).trans rfl; have hcz72_1 : w70.cell? ⟨gb220, 1, none⟩ = some (.bool false) := (blk_cell BK220.out 1).trans rfl; have hcz72_2 : w70.cell? ⟨gb220, 2, none⟩ = some (.slice none 0 0) := (blk_cell BK220.out 2).trans rfl; have hcz72_3 : w70.cell? ⟨gb220, 3, none⟩ = some (.slice none 0 0) := (blk_cell BK220.out 3).trans rfl; have hcz72_4 : w70.cell? ⟨gb220, 4, none⟩ = some (.slice none 0 0) := (blk_cell BK220.out 4).trans rfl; have hcz72_5 : w70.cell? ⟨gb220, 5, none⟩ = some (.slice none 0 0) := (blk_cell BK220.out 5).trans rfl; have hcz72_6 : w70.cell? ⟨gb220, 6, none⟩ = some (.bool false) := (blk_cell BK220.out 6).trans rfl; have hcz72_7 : w70.cell? ⟨gb220, 7, none⟩ = some (.bool false) := (blk_cell BK220.out 7).trans rfl; have hfz72_0 := blk_frozen BK220.out 0; have hfz72_1 := blk_frozen BK220.out 1; have hfz72_2 := blk_frozen BK220.out 2; have hfz72_3 := blk_frozen BK220.out 3; have hfz72_4 := blk_frozen BK220.out 4; have hfz72_5 := blk_frozen BK220.out 5; have hfz72_6 := blk_frozen BK220.out 6; have hfz72_7 := blk_frozen BK220.out 7; obtain ⟨Ao73, co73, eo73⟩ := Kd.R_slice HO192.out; subst eo73; obtain ⟨Ao74, co74, eo74⟩ := Kd.R_slice HO195.out; subst eo74; obtain ⟨Ao75, co75, eo75⟩ := Kd.R_slice HO198.out; subst eo75; obtain ⟨Ao76, co76, eo76⟩ := Kd.N_slice HO201.out; subst eo76; have hcz77_0 : w70.cell? ⟨gb221, 0, none⟩ = some (.bool false) := (blk_cell BK221.out 0).trans rfl; have hcz77_1 : w70.cell? ⟨gb221, 1, none⟩ = some (.bool false) := (blk_cell BK221.out 1).trans rfl; have hcz77_2 : w70.cell? ⟨gb221, 2, none⟩ = some (.slice none 0 0) := (blk_cell BK221.out 2).trans rfl; have hcz77_3 : w70.cell? ⟨gb221, 3, none⟩ = some (.slice none 0 0) := (blk_cell BK221.out 3).trans rfl; have hcz77_4 : w70.cell? ⟨gb221, 4, none⟩ = some (.slice none 0 0) := (blk_cell BK221.out 4).trans rfl; have hcz77_5 : w70.cell? ⟨gb221, 5, none⟩ = some (.slice none 0 0) := (blk_cell BK221.out 5).trans rfl; have hcz77_6 : w70.cell? ⟨gb221, 6, none⟩ = some (.bool false) := (blk_cell BK221.out 6).trans rfl; have hcz77_7 : w70.cell? ⟨gb221, 7, none⟩ = some (.bool false) := (blk_cell BK221.out 7).trans rfl; have hfz77_0 := blk_frozen BK221.out 0; have hfz77_1 := blk_frozen BK221.out 1; have hfz77_2 := blk_frozen BK221.out 2; have hfz77_3 := blk_frozen BK221.out 3; have hfz77_4 := blk_frozen BK221.out 4; have hfz77_5 := blk_frozen BK221.out 5; have hfz77_6 := blk_frozen BK221.out 6; have hfz77_7 := blk_frozen BK221.out 7; obtain ⟨Ao78, co78, eo78⟩ := Kd.R_slice HO208.out; subst eo78; obtain ⟨Ao79, co79, eo79⟩ := Kd.R_slice HO211.out; subst eo79; obtain ⟨Ao80, co80, eo80⟩ := Kd.R_slice HO214.out; subst eo80; obtain ⟨Ao81, co81, eo81⟩ := Kd.N_slice HO217.out; subst eo81) | ((with_reducible refine gate_callee (f := 17) rfl ?_); refine goesL_ (some 7) rfl rfl Try.func17 (by kernel_rfl) rfl #[.agg #[.bool t204, .bool t205, .slice Ao78 t206.length co78, .slice Ao79 t209.length co79, .slice Ao80 t212.length co80, .slice Ao81 t215.length co81, .bool true, .bool t219]] rfl (by (try simp only [List.map_toArray, List.map_cons, List.map_nil]); first | done | rfl | (simp only [List.length_drop, List.length_take]; rfl)) ?_; (with_reducible refine (config_Strip.calls t204 t205 _ _ t206 _ _ t209 _ _ t212 _ _ t215 true t219 t222 t223 t224 t227 t230 t233 t236 t237 _ ?side1 ?side2 ?side3 ?side4 ?side5 ?side6 ?okp7 ?side7 ?side8 A3.out).mono ?_); (case side1 => refine (Kd.R_reads' (e := 9) (base := w.heap.size) (ok := fun k_ => ((((some k_ ≠ (.slice Ao79 t209.length co79 : Value).ownBlock ∧ some k_ ≠ (.slice Ao80 t212.length co80 : Value).ownBlock) ∧ some k_ ≠ (.slice Ao73 t190.length co73 : Value).ownBlock) ∧ some k_ ≠ (.slice Ao74 t193.length co74 : Value).ownBlock) ∧ some k_ ≠ (.slice Ao75 t196.length co75 : Value).ownBlock)) (n := t206.length) (c := co78) ?_).2.2; exact (by exact (Kd.R_mono (Kd.R_mono (R_far8 (g := gb221) (R_far8 (g := gb220) (Kd.R_types (Kd.R_types HO208.out BK220.out (by decide)) BK221.out (by decide)) (fun _ hk => hk.1.2) (.bool t188) (.bool t189) (.slice Ao73 t190.length co73) (.slice Ao74 t193.length co74) (.slice Ao75 t196.length co75) (.slice Ao76 t199.length co76) (.bool t202) (.bool t203)) (fun _ hk => hk.2) (.bool t204) (.bool t205) (.slice Ao78 t206.length co78) (.slice Ao79 t209.length co79) (.slice Ao80 t212.length co80) (.slice Ao81 t215.length co81) (.bool true) (.bool t219)) (fun _ h_ => h_.1)) (fun _ h_ => h_.1)))); (case side2 => exact (Kd.R_reads' HO208.out).2.1); (case side3 => refine (Kd.R_reads' (e := 9) (base := w.heap.size) (ok := fun k_ => ((((some k_ ≠ (.slice Ao78 t206.length co78 : Value).ownBlock ∧ some k_ ≠ (.slice Ao80 t212.length co80 : Value).ownBlock) ∧ some k_ ≠ (.slice Ao73 t190.length co73 : Value).ownBlock) ∧ some k_ ≠ (.slice Ao74 t193.length co74 : Value).ownBlock) ∧ some k_ ≠ (.slice Ao75 t196.length co75 : Value).ownBlock)) (n := t209.length) (c := co79) ?_).2.2; exact (by exact (Kd.R_mono (Kd.R_mono (R_far8 (g := gb221) (R_far8 (g := gb220) (Kd.R_types (Kd.R_types HO211.out BK220.out (by decide)) BK221.out (by decide)) (fun _ hk => hk.1.2) (.bool t188) (.bool t189) (.slice Ao73 t190.length co73) (.slice Ao74 t193.length co74) (.slice Ao75 t196.length co75) (.slice Ao76 t199.length co76) (.bool t202) (.bool t203)) (fun _ hk => hk.2) (.bool t204) (.bool t205) (.slice Ao78 t206.length co78) (.slice Ao79 t209.length co79) (.slice Ao80 t212.length co80) (.slice Ao81 t215.length co81) (.bool true) (.bool t219)) (fun _ h_ => h_.1)) (fun _ h_ => h_.1)))); (case side4 => exact (Kd.R_reads' HO211.out).2.1); (case side5 => refine (Kd.R_reads' (e := 9) (base := w.heap.size) (ok := fun k_ => ((((some k_ ≠ (.slice Ao78 t206.length co78 : Value).ownBlock ∧ some k_ ≠ (.slice Ao79 t209.length co79 : Value).ownBlock) ∧ some k_ ≠ (.slice Ao73 t190.length co73 : Value).ownBlock) ∧ some k_ ≠ (.slice Ao74 t193.length co74 : Value).ownBlock) ∧ some k_ ≠ (.slice Ao75 t196.length co75 : Value).ownBlock)) (n := t212.length) (c := co80) ?_).2.2; exact (by exact (Kd.R_mono (Kd.R_mono (R_far8 (g := gb221) (R_far8 (g := gb220) (Kd.R_types (Kd.R_types HO214.out BK220.out (by decide)) BK221.out (by decide)) (fun _ hk => hk.1.2) (.bool t188) (.bool t189) (.slice Ao73 t190.length co73) (.slice Ao74 t193.length co74) (.slice Ao75 t196.length co75) (.slice Ao76 t199.length co76) (.bool t202) (.bool t203)) (fun _ hk => hk.2) (.bool t204) (.bool t205) (.slice Ao78 t206.length co78) (.slice Ao79 t209.length co79) (.slice Ao80 t212.length co80) (.slice Ao81 t215.length co81) (.bool true) (.bool t219)) (fun _ h_ => h_.1)) (fun _ h_ => h_.1)))); (case side6 => exact (Kd.R_reads' HO214.out).2.1); (case side7 => refine Shares.of_N (e := 35) (base := w.heap.size) (ok := fun k_ => (((some k_ ≠ (.slice Ao78 t206.length co78 : Value).ownBlock ∧ (some k_ ≠ (.slice Ao79 t209.length co79 : Value).ownBlock ∧ (some k_ ≠ (.slice Ao80 t212.length co80 : Value).ownBlock ∧ (some k_ ≠ (.slice Ao73 t190.length co73 : Value).ownBlock ∧ (some k_ ≠ (.slice Ao74 t193.length co74 : Value).ownBlock ∧ (some k_ ≠ (.slice Ao75 t196.length co75 : Value).ownBlock ∧ some k_ ≠ (.slice Ao76 t199.length co76 : Value).ownBlock)))))) ∧ k_ ≠ gb220) ∧ k_ ≠ gb221)) (n := t215.length) (c := co81) ?_; exact (by exact (Kd.N_mono (Kd.N_mono (N_far8 (g := gb221) (N_far8 (g := gb220) (Kd.N_mono (Kd.N_mono HO217.out (fun k_ hk => (⟨hk, hk.1.2⟩ : _ ∧ k_ ≠ gb220))) (fun k_ hk => (⟨hk, hk.1.2⟩ : _ ∧ k_ ≠ gb221))) (fun _ hk => hk.1.2) (.bool t188) (.bool t189) (.slice Ao73 t190.length co73) (.slice Ao74 t193.length co74) (.slice Ao75 t196.length co75) (.slice Ao76 t199.length co76) (.bool t202) (.bool t203)) (fun _ hk => hk.2) (.bool t204) (.bool t205) (.slice Ao78 t206.length co78) (.slice Ao79 t209.length co79) (.slice Ao80 t212.length co80) (.slice Ao81 t215.length co81) (.bool true) (.bool t219)) (fun _ h_ => h_.1)) (fun _ h_ => h_.1)))); (case side8 => exact (Kd.N_reads' HO217.out).2.1); rintro e w82 ⟨v225, v228, v231, v234, rfl, ho0, ho1, ho2, ho3, hb⟩; refine ⟨_, rfl, ?_⟩; have n0_ := Aside0.mk (Kd.R_mono (Kd.R_told (Kd.R_told (Kd.R_told (Kd.R_old (by exact (Kd.R_mono (Kd.R_mono (R_far8 (g := gb221) (R_far8 (g := gb220) (Kd.R_types (Kd.R_types HO192.out BK220.out (by decide)) BK221.out (by decide)) (fun _ hk => hk.1.2) (.bool t188) (.bool t189) (.slice Ao73 t190.length co73) (.slice Ao74 t193.length co74) (.slice Ao75 t196.length co75) (.slice Ao76 t199.length co76) (.bool t202) (.bool t203)) (fun _ hk => hk.2) (.bool t204) (.bool t205) (.slice Ao78 t206.length co78) (.slice Ao79 t209.length co79) (.slice Ao80 t212.length co80) (.slice Ao81 t215.length co81) (.bool true) (.bool t219)) (fun _ h_ => h_.1)) (fun _ h_ => h_.1))) hb) (Kd.R_base ho0)) (Kd.R_base ho1)) (Kd.R_base ho2)) (fun _ h_ => h_.1)); have n1_ := Aside0.mk (Kd.R_mono (Kd.R_told (Kd.R_told (Kd.R_told (Kd.R_old (by exact (Kd.R_mono (Kd.R_mono (R_far8 (g := gb221) (R_far8 (g := gb220) (Kd.R_types (Kd.R_types HO195.out BK220.out (by decide)) BK221.out (by decide)) (fun _ hk => hk.1.2) (.bool t188) (.bool t189) (.slice Ao73 t190.length co73) (.slice Ao74 t193.length co74) (.slice Ao75 t196.length co75) (.slice Ao76 t199.length co76) (.bool t202) (.bool t203)) (fun _ hk => hk.2) (.bool t204) (.bool t205) (.slice Ao78 t206.length co78) (.slice Ao79 t209.length co79) (.slice Ao80 t212.length co80) (.slice Ao81 t215.length co81) (.bool true) (.bool t219)) (fun _ h_ => h_.1)) (fun _ h_ => h_.1))) hb) (Kd.R_base ho0)) (Kd.R_base ho1)) (Kd.R_base ho2)) (fun _ h_ => h_.1)); have n2_ := Aside0.mk (Kd.R_mono (Kd.R_told (Kd.R_told (Kd.R_told (Kd.R_old (by exact (Kd.R_mono (Kd.R_mono (R_far8 (g := gb221) (R_far8 (g := gb220) (Kd.R_types (Kd.R_types HO198.out BK220.out (by decide)) BK221.out (by decide)) (fun _ hk => hk.1.2) (.bool t188) (.bool t189) (.slice Ao73 t190.length co73) (.slice Ao74 t193.length co74) (.slice Ao75 t196.length co75) (.slice Ao76 t199.length co76) (.bool t202) (.bool t203)) (fun _ hk => hk.2) (.bool t204) (.bool t205) (.slice Ao78 t206.length co78) (.slice Ao79 t209.length co79) (.slice Ao80 t212.length co80) (.slice Ao81 t215.length co81) (.bool true) (.bool t219)) (fun _ h_ => h_.1)) (fun _ h_ => h_.1))) hb) (Kd.R_base ho0)) (Kd.R_base ho1)) (Kd.R_base ho2)) (fun _ h_ => h_.1)); have n3_ := Aside0.mk (Kd.N_mono (Kd.N_told (Kd.N_told (Kd.N_told (Kd.N_told (Kd.N_old (by exact (Kd.N_mono (Kd.N_mono (N_far8 (g := gb221) (N_far8 (g := gb220) (Kd.N_mono (Kd.N_mono HO201.out (fun k_ hk => (⟨hk, hk.1.2⟩ : _ ∧ k_ ≠ gb220))) (fun k_ hk => (⟨hk, hk.1.2⟩ : _ ∧ k_ ≠ gb221))) (fun _ hk => hk.1.2) (.bool t188) (.bool t189) (.slice Ao73 t190.length co73) (.slice Ao74 t193.length co74) (.slice Ao75 t196.length co75) (.slice Ao76 t199.length co76) (.bool t202) (.bool t203)) (fun _ hk => hk.2) (.bool t204) (.bool t205) (.slice Ao78 t206.length co78) (.slice Ao79 t209.length co79) (.slice Ao80 t212.length co80) (.slice Ao81 t215.length co81) (.bool true) (.bool t219)) (fun _ h_ => h_.1)) (fun _ h_ => h_.1))) hb) (Kd.R_base ho0)) (Kd.R_base ho1)) (Kd.R_base ho2)) (Kd.N_base ho3)) (fun _ h_ => h_.1)); have n4_ := Aside0.mk (Kd.R_mono (Kd.R_told (Kd.R_told (Kd.R_told (Kd.R_old (by exact (Kd.R_mono (Kd.R_mono (R_far8 (g := gb221) (R_far8 (g := gb220) (Kd.R_types (Kd.R_types HO208.out BK220.out (by decide)) BK221.out (by decide)) (fun _ hk => hk.1.2) (.bool t188) (.bool t189) (.slice Ao73 t190.length co73) (.slice Ao74 t193.length co74) (.slice Ao75 t196.length co75) (.slice Ao76 t199.length co76) (.bool t202) (.bool t203)) (fun _ hk => hk.2) (.bool t204) (.bool t205) (.slice Ao78 t206.length co78) (.slice Ao79 t209.length co79) (.slice Ao80 t212.length co80) (.slice Ao81 t215.length co81) (.bool true) (.bool t219)) (fun _ h_ => h_.1)) (fun _ h_ => h_.1))) hb) (Kd.R_base ho0)) (Kd.R_base ho1)) (Kd.R_base ho2)) (fun _ h_ => h_.1)); have n5_ := Aside0.mk (Kd.R_mono (Kd.R_told (Kd.R_told (Kd.R_told (Kd.R_old (by exact (Kd.R_mono (Kd.R_mono (R_far8 (g := gb221) (R_far8 (g := gb220) (Kd.R_types (Kd.R_types HO211.out BK220.out (by decide)) BK221.out (by decide)) (fun _ hk => hk.1.2) (.bool t188) (.bool t189) (.slice Ao73 t190.length co73) (.slice Ao74 t193.length co74) (.slice Ao75 t196.length co75) (.slice Ao76 t199.length co76) (.bool t202) (.bool t203)) (fun _ hk => hk.2) (.bool t204) (.bool t205) (.slice Ao78 t206.length co78) (.slice Ao79 t209.length co79) (.slice Ao80 t212.length co80) (.slice Ao81 t215.length co81) (.bool true) (.bool t219)) (fun _ h_ => h_.1)) (fun _ h_ => h_.1))) hb) (Kd.R_base ho0)) (Kd.R_base ho1)) (Kd.R_base ho2)) (fun _ h_ => h_.1)); have n6_ := Aside0.mk (Kd.R_mono (Kd.R_told (Kd.R_told (Kd.R_told (Kd.R_old (by exact (Kd.R_mono (Kd.R_mono (R_far8 (g := gb221) (R_far8 (g := gb220) (Kd.R_types (Kd.R_types HO214.out BK220.out (by decide)) BK221.out (by decide)) (fun _ hk => hk.1.2) (.bool t188) (.bool t189) (.slice Ao73 t190.length co73) (.slice Ao74 t193.length co74) (.slice Ao75 t196.length co75) (.slice Ao76 t199.length co76) (.bool t202) (.bool t203)) (fun _ hk => hk.2) (.bool t204) (.bool t205) (.slice Ao78 t206.length co78) (.slice Ao79 t209.length co79) (.slice Ao80 t212.length co80) (.slice Ao81 t215.length co81) (.bool true) (.bool t219)) (fun _ h_ => h_.1)) (fun _ h_ => h_.1))) hb) (Kd.R_base ho0)) (Kd.R_base ho1)) (Kd.R_base ho2)) (fun _ h_ => h_.1)); have n7_ := Aside0.mk (Kd.N_mono (Kd.N_told (Kd.N_told (Kd.N_told (Kd.N_told (Kd.N_old (by exact (Kd.N_mono (Kd.N_mono (N_far8 (g := gb221) (N_far8 (g := gb220) (Kd.N_mono (Kd.N_mono HO217.out (fun k_ hk => (⟨hk, hk.1.2⟩ : _ ∧ k_ ≠ gb220))) (fun k_ hk => (⟨hk, hk.1.2⟩ : _ ∧ k_ ≠ gb221))) (fun _ hk => hk.1.2) (.bool t188) (.bool t189) (.slice Ao73 t190.length co73) (.slice Ao74 t193.length co74) (.slice Ao75 t196.length co75) (.slice Ao76 t199.length co76) (.bool t202) (.bool t203)) (fun _ hk => hk.2) (.bool t204) (.bool t205) (.slice Ao78 t206.length co78) (.slice Ao79 t209.length co79) (.slice Ao80 t212.length co80) (.slice Ao81 t215.length co81) (.bool true) (.bool t219)) (fun _ h_ => h_.1)) (fun _ h_ => h_.1))) hb) (Kd.R_base ho0)) (Kd.R_base ho1)) (Kd.R_base ho2)) (Kd.N_base ho3)) (fun _ h_ => h_.1)); have n8_ := Aside0.mk (Kd.R_lower (Kd.R_new' (Kd.R_new' (Kd.R_new' (Kd.R_new' (Kd.R_new' (Kd.R_new' ho0 (Kd.R_lt (by exact (Kd.R_mono (Kd.R_mono (R_far8 (g := gb221) (R_far8 (g := gb220) (Kd.R_types (Kd.R_types HO192.out BK220.out (by decide)) BK221.out (by decide)) (fun _ hk => hk.1.2) (.bool t188) (.bool t189) (.slice Ao73 t190.length co73) (.slice Ao74 t193.length co74) (.slice Ao75 t196.length co75) (.slice Ao76 t199.length co76) (.bool t202) (.bool t203)) (fun _ hk => hk.2) (.bool t204) (.bool t205) (.slice Ao78 t206.length co78) (.slice Ao79 t209.length co79) (.slice Ao80 t212.length co80) (.slice Ao81 t215.length co81) (.bool true) (.bool t219)) (fun _ h_ => h_.1)) (fun _ h_ => h_.1))))) (Kd.R_lt (by exact (Kd.R_mono (Kd.R_mono (R_far8 (g := gb221) (R_far8 (g := gb220) (Kd.R_types (Kd.R_types HO195.out BK220.out (by decide)) BK221.out (by decide)) (fun _ hk => hk.1.2) (.bool t188) (.bool t189) (.slice Ao73 t190.length co73) (.slice Ao74 t193.length co74) (.slice Ao75 t196.length co75) (.slice Ao76 t199.length co76) (.bool t202) (.bool t203)) (fun _ hk => hk.2) (.bool t204) (.bool t205) (.slice Ao78 t206.length co78) (.slice Ao79 t209.length co79) (.slice Ao80 t212.length co80) (.slice Ao81 t215.length co81) (.bool true) (.bool t219)) (fun _ h_ => h_.1)) (fun _ h_ => h_.1))))) (Kd.R_lt (by exact (Kd.R_mono (Kd.R_mono (R_far8 (g := gb221) (R_far8 (g := gb220) (Kd.R_types (Kd.R_types HO198.out BK220.out (by decide)) BK221.out (by decide)) (fun _ hk => hk.1.2) (.bool t188) (.bool t189) (.slice Ao73 t190.length co73) (.slice Ao74 t193.length co74) (.slice Ao75 t196.length co75) (.slice Ao76 t199.length co76) (.bool t202) (.bool t203)) (fun _ hk => hk.2) (.bool t204) (.bool t205) (.slice Ao78 t206.length co78) (.slice Ao79 t209.length co79) (.slice Ao80 t212.length co80) (.slice Ao81 t215.length co81) (.bool true) (.bool t219)) (fun _ h_ => h_.1)) (fun _ h_ => h_.1))))) (Kd.R_lt (by exact (Kd.R_mono (Kd.R_mono (R_far8 (g := gb221) (R_far8 (g := gb220) (Kd.R_types (Kd.R_types HO208.out BK220.out (by decide)) BK221.out (by decide)) (fun _ hk => hk.1.2) (.bool t188) (.bool t189) (.slice Ao73 t190.length co73) (.slice Ao74 t193.length co74) (.slice Ao75 t196.length co75) (.slice Ao76 t199.length co76) (.bool t202) (.bool t203)) (fun _ hk => hk.2) (.bool t204) (.bool t205) (.slice Ao78 t206.length co78) (.slice Ao79 t209.length co79) (.slice Ao80 t212.length co80) (.slice Ao81 t215.length co81) (.bool true) (.bool t219)) (fun _ h_ => h_.1)) (fun _ h_ => h_.1))))) (Kd.R_lt (by exact (Kd.R_mono (Kd.R_mono (R_far8 (g := gb221) (R_far8 (g := gb220) (Kd.R_types (Kd.R_types HO211.out BK220.out (by decide)) BK221.out (by decide)) (fun _ hk => hk.1.2) (.bool t188) (.bool t189) (.slice Ao73 t190.length co73) (.slice Ao74 t193.length co74) (.slice Ao75 t196.length co75) (.slice Ao76 t199.length co76) (.bool t202) (.bool t203)) (fun _ hk => hk.2) (.bool t204) (.bool t205) (.slice Ao78 t206.length co78) (.slice Ao79 t209.length co79) (.slice Ao80 t212.length co80) (.slice Ao81 t215.length co81) (.bool true) (.bool t219)) (fun _ h_ => h_.1)) (fun _ h_ => h_.1))))) (Kd.R_lt (by exact (Kd.R_mono (Kd.R_mono (R_far8 (g := gb221) (R_far8 (g := gb220) (Kd.R_types (Kd.R_types HO214.out BK220.out (by decide)) BK221.out (by decide)) (fun _ hk => hk.1.2) (.bool t188) (.bool t189) (.slice Ao73 t190.length co73) (.slice Ao74 t193.length co74) (.slice Ao75 t196.length co75) (.slice Ao76 t199.length co76) (.bool t202) (.bool t203)) (fun _ hk => hk.2) (.bool t204) (.bool t205) (.slice Ao78 t206.length co78) (.slice Ao79 t209.length co79) (.slice Ao80 t212.length co80) (.slice Ao81 t215.length co81) (.bool true) (.bool t219)) (fun _ h_ => h_.1)) (fun _ h_ => h_.1))))) (below_size (by repeat (first | (with_reducible first | exact HB.out | apply below_alloc | apply pw_below_drewN | apply below_drew1 | refine below_set ?_ GE220.out | refine below_set ?_ GE221.out) | exact HB.out)))); have n9_ := Aside0.mk (Kd.R_lower (Kd.R_new' (Kd.R_new' (Kd.R_new' (Kd.R_new' (Kd.R_new' (Kd.R_new' ho1 (Kd.R_lt (by exact (Kd.R_mono (Kd.R_mono (R_far8 (g := gb221) (R_far8 (g := gb220) (Kd.R_types (Kd.R_types HO192.out BK220.out (by decide)) BK221.out (by decide)) (fun _ hk => hk.1.2) (.bool t188) (.bool t189) (.slice Ao73 t190.length co73) (.slice Ao74 t193.length co74) (.slice Ao75 t196.length co75) (.slice Ao76 t199.length co76) (.bool t202) (.bool t203)) (fun _ hk => hk.2) (.bool t204) (.bool t205) (.slice Ao78 t206.length co78) (.slice Ao79 t209.length co79) (.slice Ao80 t212.length co80) (.slice Ao81 t215.length co81) (.bool true) (.bool t219)) (fun _ h_ => h_.1)) (fun _ h_ => h_.1))))) (Kd.R_lt (by exact (Kd.R_mono (Kd.R_mono (R_far8 (g := gb221) (R_far8 (g := gb220) (Kd.R_types (Kd.R_types HO195.out BK220.out (by decide)) BK221.out (by decide)) (fun _ hk => hk.1.2) (.bool t188) (.bool t189) (.slice Ao73 t190.length co73) (.slice Ao74 t193.length co74) (.slice Ao75 t196.length co75) (.slice Ao76 t199.length co76) (.bool t202) (.bool t203)) (fun _ hk => hk.2) (.bool t204) (.bool t205) (.slice Ao78 t206.length co78) (.slice Ao79 t209.length co79) (.slice Ao80 t212.length co80) (.slice Ao81 t215.length co81) (.bool true) (.bool t219)) (fun _ h_ => h_.1)) (fun _ h_ => h_.1))))) (Kd.R_lt (by exact (Kd.R_mono (Kd.R_mono (R_far8 (g := gb221) (R_far8 (g := gb220) (Kd.R_types (Kd.R_types HO198.out BK220.out (by decide)) BK221.out (by decide)) (fun _ hk => hk.1.2) (.bool t188) (.bool t189) (.slice Ao73 t190.length co73) (.slice Ao74 t193.length co74) (.slice Ao75 t196.length co75) (.slice Ao76 t199.length co76) (.bool t202) (.bool t203)) (fun _ hk => hk.2) (.bool t204) (.bool t205) (.slice Ao78 t206.length co78) (.slice Ao79 t209.length co79) (.slice Ao80 t212.length co80) (.slice Ao81 t215.length co81) (.bool true) (.bool t219)) (fun _ h_ => h_.1)) (fun _ h_ => h_.1))))) (Kd.R_lt (by exact (Kd.R_mono (Kd.R_mono (R_far8 (g := gb221) (R_far8 (g := gb220) (Kd.R_types (Kd.R_types HO208.out BK220.out (by decide)) BK221.out (by decide)) (fun _ hk => hk.1.2) (.bool t188) (.bool t189) (.slice Ao73 t190.length co73) (.slice Ao74 t193.length co74) (.slice Ao75 t196.length co75) (.slice Ao76 t199.length co76) (.bool t202) (.bool t203)) (fun _ hk => hk.2) (.bool t204) (.bool t205) (.slice Ao78 t206.length co78) (.slice Ao79 t209.length co79) (.slice Ao80 t212.length co80) (.slice Ao81 t215.length co81) (.bool true) (.bool t219)) (fun _ h_ => h_.1)) (fun _ h_ => h_.1))))) (Kd.R_lt (by exact (Kd.R_mono (Kd.R_mono (R_far8 (g := gb221) (R_far8 (g := gb220) (Kd.R_types (Kd.R_types HO211.out BK220.out (by decide)) BK221.out (by decide)) (fun _ hk => hk.1.2) (.bool t188) (.bool t189) (.slice Ao73 t190.length co73) (.slice Ao74 t193.length co74) (.slice Ao75 t196.length co75) (.slice Ao76 t199.length co76) (.bool t202) (.bool t203)) (fun _ hk => hk.2) (.bool t204) (.bool t205) (.slice Ao78 t206.length co78) (.slice Ao79 t209.length co79) (.slice Ao80 t212.length co80) (.slice Ao81 t215.length co81) (.bool true) (.bool t219)) (fun _ h_ => h_.1)) (fun _ h_ => h_.1))))) (Kd.R_lt (by exact (Kd.R_mono (Kd.R_mono (R_far8 (g := gb221) (R_far8 (g := gb220) (Kd.R_types (Kd.R_types HO214.out BK220.out (by decide)) BK221.out (by decide)) (fun _ hk => hk.1.2) (.bool t188) (.bool t189) (.slice Ao73 t190.length co73) (.slice Ao74 t193.length co74) (.slice Ao75 t196.length co75) (.slice Ao76 t199.length co76) (.bool t202) (.bool t203)) (fun _ hk => hk.2) (.bool t204) (.bool t205) (.slice Ao78 t206.length co78) (.slice Ao79 t209.length co79) (.slice Ao80 t212.length co80) (.slice Ao81 t215.length co81) (.bool true) (.bool t219)) (fun _ h_ => h_.1)) (fun _ h_ => h_.1))))) (below_size (by repeat (first | (with_reducible first | exact HB.out | apply below_alloc | apply pw_below_drewN | apply below_drew1 | refine below_set ?_ GE220.out | refine below_set ?_ GE221.out) | exact HB.out)))); have n10_ := Aside0.mk (Kd.R_lower (Kd.R_new' (Kd.R_new' (Kd.R_new' (Kd.R_new' (Kd.R_new' (Kd.R_new' ho2 (Kd.R_lt (by exact (Kd.R_mono (Kd.R_mono (R_far8 (g := gb221) (R_far8 (g := gb220) (Kd.R_types (Kd.R_types HO192.out BK220.out (by decide)) BK221.out (by decide)) (fun _ hk => hk.1.2) (.bool t188) (.bool t189) (.slice Ao73 t190.length co73) (.slice Ao74 t193.length co74) (.slice Ao75 t196.length co75) (.slice Ao76 t199.length co76) (.bool t202) (.bool t203)) (fun _ hk => hk.2) (.bool t204) (.bool t205) (.slice Ao78 t206.length co78) (.slice Ao79 t209.length co79) (.slice Ao80 t212.length co80) (.slice Ao81 t215.length co81) (.bool true) (.bool t219)) (fun _ h_ => h_.1)) (fun _ h_ => h_.1))))) (Kd.R_lt (by exact (Kd.R_mono (Kd.R_mono (R_far8 (g := gb221) (R_far8 (g := gb220) (Kd.R_types (Kd.R_types HO195.out BK220.out (by decide)) BK221.out (by decide)) (fun _ hk => hk.1.2) (.bool t188) (.bool t189) (.slice Ao73 t190.length co73) (.slice Ao74 t193.length co74) (.slice Ao75 t196.length co75) (.slice Ao76 t199.length co76) (.bool t202) (.bool t203)) (fun _ hk => hk.2) (.bool t204) (.bool t205) (.slice Ao78 t206.length co78) (.slice Ao79 t209.length co79) (.slice Ao80 t212.length co80) (.slice Ao81 t215.length co81) (.bool true) (.bool t219)) (fun _ h_ => h_.1)) (fun _ h_ => h_.1))))) (Kd.R_lt (by exact (Kd.R_mono (Kd.R_mono (R_far8 (g := gb221) (R_far8 (g := gb220) (Kd.R_types (Kd.R_types HO198.out BK220.out (by decide)) BK221.out (by decide)) (fun _ hk => hk.1.2) (.bool t188) (.bool t189) (.slice Ao73 t190.length co73) (.slice Ao74 t193.length co74) (.slice Ao75 t196.length co75) (.slice Ao76 t199.length co76) (.bool t202) (.bool t203)) (fun _ hk => hk.2) (.bool t204) (.bool t205) (.slice Ao78 t206.length co78) (.slice Ao79 t209.length co79) (.slice Ao80 t212.length co80) (.slice Ao81 t215.length co81) (.bool true) (.bool t219)) (fun _ h_ => h_.1)) (fun _ h_ => h_.1))))) (Kd.R_lt (by exact (Kd.R_mono (Kd.R_mono (R_far8 (g := gb221) (R_far8 (g := gb220) (Kd.R_types (Kd.R_types HO208.out BK220.out (by decide)) BK221.out (by decide)) (fun _ hk => hk.1.2) (.bool t188) (.bool t189) (.slice Ao73 t190.length co73) (.slice Ao74 t193.length co74) (.slice Ao75 t196.length co75) (.slice Ao76 t199.length co76) (.bool t202) (.bool t203)) (fun _ hk => hk.2) (.bool t204) (.bool t205) (.slice Ao78 t206.length co78) (.slice Ao79 t209.length co79) (.slice Ao80 t212.length co80) (.slice Ao81 t215.length co81) (.bool true) (.bool t219)) (fun _ h_ => h_.1)) (fun _ h_ => h_.1))))) (Kd.R_lt (by exact (Kd.R_mono (Kd.R_mono (R_far8 (g := gb221) (R_far8 (g := gb220) (Kd.R_types (Kd.R_types HO211.out BK220.out (by decide)) BK221.out (by decide)) (fun _ hk => hk.1.2) (.bool t188) (.bool t189) (.slice Ao73 t190.length co73) (.slice Ao74 t193.length co74) (.slice Ao75 t196.length co75) (.slice Ao76 t199.length co76) (.bool t202) (.bool t203)) (fun _ hk => hk.2) (.bool t204) (.bool t205) (.slice Ao78 t206.length co78) (.slice Ao79 t209.length co79) (.slice Ao80 t212.length co80) (.slice Ao81 t215.length co81) (.bool true) (.bool t219)) (fun _ h_ => h_.1)) (fun _ h_ => h_.1))))) (Kd.R_lt (by exact (Kd.R_mono (Kd.R_mono (R_far8 (g := gb221) (R_far8 (g := gb220) (Kd.R_types (Kd.R_types HO214.out BK220.out (by decide)) BK221.out (by decide)) (fun _ hk => hk.1.2) (.bool t188) (.bool t189) (.slice Ao73 t190.length co73) (.slice Ao74 t193.length co74) (.slice Ao75 t196.length co75) (.slice Ao76 t199.length co76) (.bool t202) (.bool t203)) (fun _ hk => hk.2) (.bool t204) (.bool t205) (.slice Ao78 t206.length co78) (.slice Ao79 t209.length co79) (.slice Ao80 t212.length co80) (.slice Ao81 t215.length co81) (.bool true) (.bool t219)) (fun _ h_ => h_.1)) (fun _ h_ => h_.1))))) (below_size (by repeat (first | (with_reducible first | exact HB.out | apply below_alloc | apply pw_below_drewN | apply below_drew1 | refine below_set ?_ GE220.out | refine below_set ?_ GE221.out) | exact HB.out)))); have n11_ := Aside0.mk (Kd.N_lower (Kd.N_mono (ok' := fun k_ => some k_ ≠ (v225 : Value).ownBlock ∧ some k_ ≠ (v228 : Value).ownBlock ∧ some k_ ≠ (v231 : Value).ownBlock ∧ some k_ ≠ (.slice Ao73 t190.length co73 : Value).ownBlock ∧ some k_ ≠ (.slice Ao74 t193.length co74 : Value).ownBlock ∧ some k_ ≠ (.slice Ao75 t196.length co75 : Value).ownBlock ∧ some k_ ≠ (.slice Ao76 t199.length co76 : Value).ownBlock ∧ some k_ ≠ (.slice Ao78 t206.length co78 : Value).ownBlock ∧ some k_ ≠ (.slice Ao79 t209.length co79 : Value).ownBlock ∧ some k_ ≠ (.slice Ao80 t212.length co80 : Value).ownBlock ∧ some k_ ≠ (.slice Ao81 t215.length co81 : Value).ownBlock ∧ k_ ≠ gb220 ∧ k_ ≠ gb221) ho3 (fun k_ hk_ => ⟨hk_.1.1, hk_.1.2.1, hk_.1.2.2, (hk_.2.elim (fun h_ => (Kd.fresh' (Kd.R_lt (by exact (Kd.R_mono (Kd.R_mono (R_far8 (g := gb221) (R_far8 (g := gb220) (Kd.R_types (Kd.R_types HO192.out BK220.out (by decide)) BK221.out (by decide)) (fun _ hk => hk.1.2) (.bool t188) (.bool t189) (.slice Ao73 t190.length co73) (.slice Ao74 t193.length co74) (.slice Ao75 t196.length co75) (.slice Ao76 t199.length co76) (.bool t202) (.bool t203)) (fun _ hk => hk.2) (.bool t204) (.bool t205) (.slice Ao78 t206.length co78) (.slice Ao79 t209.length co79) (.slice Ao80 t212.length co80) (.slice Ao81 t215.length co81) (.bool true) (.bool t219)) (fun _ h_ => h_.1)) (fun _ h_ => h_.1)))) k_ h_)) (fun h_ => by (revert h_; simp only [and_imp]; intros; assumption))), (hk_.2.elim (fun h_ => (Kd.fresh' (Kd.R_lt (by exact (Kd.R_mono (Kd.R_mono (R_far8 (g := gb221) (R_far8 (g := gb220) (Kd.R_types (Kd.R_types HO195.out BK220.out (by decide)) BK221.out (by decide)) (fun _ hk => hk.1.2) (.bool t188) (.bool t189) (.slice Ao73 t190.length co73) (.slice Ao74 t193.length co74) (.slice Ao75 t196.length co75) (.slice Ao76 t199.length co76) (.bool t202) (.bool t203)) (fun _ hk => hk.2) (.bool t204) (.bool t205) (.slice Ao78 t206.length co78) (.slice Ao79 t209.length co79) (.slice Ao80 t212.length co80) (.slice Ao81 t215.length co81) (.bool true) (.bool t219)) (fun _ h_ => h_.1)) (fun _ h_ => h_.1)))) k_ h_)) (fun h_ => by (revert h_; simp only [and_imp]; intros; assumption))), (hk_.2.elim (fun h_ => (Kd.fresh' (Kd.R_lt (by exact (Kd.R_mono (Kd.R_mono (R_far8 (g := gb221) (R_far8 (g := gb220) (Kd.R_types (Kd.R_types HO198.out BK220.out (by decide)) BK221.out (by decide)) (fun _ hk => hk.1.2) (.bool t188) (.bool t189) (.slice Ao73 t190.length co73) (.slice Ao74 t193.length co74) (.slice Ao75 t196.length co75) (.slice Ao76 t199.length co76) (.bool t202) (.bool t203)) (fun _ hk => hk.2) (.bool t204) (.bool t205) (.slice Ao78 t206.length co78) (.slice Ao79 t209.length co79) (.slice Ao80 t212.length co80) (.slice Ao81 t215.length co81) (.bool true) (.bool t219)) (fun _ h_ => h_.1)) (fun _ h_ => h_.1)))) k_ h_)) (fun h_ => by (revert h_; simp only [and_imp]; intros; assumption))), (hk_.2.elim (fun h_ => (Kd.fresh' (Kd.N_lt (by exact (Kd.N_mono (Kd.N_mono (N_far8 (g := gb221) (N_far8 (g := gb220) (Kd.N_mono (Kd.N_mono HO201.out (fun k_ hk => (⟨hk, hk.1.2⟩ : _ ∧ k_ ≠ gb220))) (fun k_ hk => (⟨hk, hk.1.2⟩ : _ ∧ k_ ≠ gb221))) (fun _ hk => hk.1.2) (.bool t188) (.bool t189) (.slice Ao73 t190.length co73) (.slice Ao74 t193.length co74) (.slice Ao75 t196.length co75) (.slice Ao76 t199.length co76) (.bool t202) (.bool t203)) (fun _ hk => hk.2) (.bool t204) (.bool t205) (.slice Ao78 t206.length co78) (.slice Ao79 t209.length co79) (.slice Ao80 t212.length co80) (.slice Ao81 t215.length co81) (.bool true) (.bool t219)) (fun _ h_ => h_.1)) (fun _ h_ => h_.1)))) k_ h_)) (fun h_ => by (revert h_; simp only [and_imp]; intros; assumption))), (hk_.2.elim (fun h_ => (Kd.fresh' (Kd.R_lt (by exact (Kd.R_mono (Kd.R_mono (R_far8 (g := gb221) (R_far8 (g := gb220) (Kd.R_types (Kd.R_types HO208.out BK220.out (by decide)) BK221.out (by decide)) (fun _ hk => hk.1.2) (.bool t188) (.bool t189) (.slice Ao73 t190.length co73) (.slice Ao74 t193.length co74) (.slice Ao75 t196.length co75) (.slice Ao76 t199.length co76) (.bool t202) (.bool t203)) (fun _ hk => hk.2) (.bool t204) (.bool t205) (.slice Ao78 t206.length co78) (.slice Ao79 t209.length co79) (.slice Ao80 t212.length co80) (.slice Ao81 t215.length co81) (.bool true) (.bool t219)) (fun _ h_ => h_.1)) (fun _ h_ => h_.1)))) k_ h_)) (fun h_ => by (revert h_; simp only [and_imp]; intros; assumption))), (hk_.2.elim (fun h_ => (Kd.fresh' (Kd.R_lt (by exact (Kd.R_mono (Kd.R_mono (R_far8 (g := gb221) (R_far8 (g := gb220) (Kd.R_types (Kd.R_types HO211.out BK220.out (by decide)) BK221.out (by decide)) (fun _ hk => hk.1.2) (.bool t188) (.bool t189) (.slice Ao73 t190.length co73) (.slice Ao74 t193.length co74) (.slice Ao75 t196.length co75) (.slice Ao76 t199.length co76) (.bool t202) (.bool t203)) (fun _ hk => hk.2) (.bool t204) (.bool t205) (.slice Ao78 t206.length co78) (.slice Ao79 t209.length co79) (.slice Ao80 t212.length co80) (.slice Ao81 t215.length co81) (.bool true) (.bool t219)) (fun _ h_ => h_.1)) (fun _ h_ => h_.1)))) k_ h_)) (fun h_ => by (revert h_; simp only [and_imp]; intros; assumption))), (hk_.2.elim (fun h_ => (Kd.fresh' (Kd.R_lt (by exact (Kd.R_mono (Kd.R_mono (R_far8 (g := gb221) (R_far8 (g := gb220) (Kd.R_types (Kd.R_types HO214.out BK220.out (by decide)) BK221.out (by decide)) (fun _ hk => hk.1.2) (.bool t188) (.bool t189) (.slice Ao73 t190.length co73) (.slice Ao74 t193.length co74) (.slice Ao75 t196.length co75) (.slice Ao76 t199.length co76) (.bool t202) (.bool t203)) (fun _ hk => hk.2) (.bool t204) (.bool t205) (.slice Ao78 t206.length co78) (.slice Ao79 t209.length co79) (.slice Ao80 t212.length co80) (.slice Ao81 t215.length co81) (.bool true) (.bool t219)) (fun _ h_ => h_.1)) (fun _ h_ => h_.1)))) k_ h_)) (fun h_ => by (revert h_; simp only [and_imp]; intros; assumption))), (hk_.2.elim (fun h_ => (Kd.fresh' (Kd.N_lt (by exact (Kd.N_mono (Kd.N_mono (N_far8 (g := gb221) (N_far8 (g := gb220) (Kd.N_mono (Kd.N_mono HO217.out (fun k_ hk => (⟨hk, hk.1.2⟩ : _ ∧ k_ ≠ gb220))) (fun k_ hk => (⟨hk, hk.1.2⟩ : _ ∧ k_ ≠ gb221))) (fun _ hk => hk.1.2) (.bool t188) (.bool t189) (.slice Ao73 t190.length co73) (.slice Ao74 t193.length co74) (.slice Ao75 t196.length co75) (.slice Ao76 t199.length co76) (.bool t202) (.bool t203)) (fun _ hk => hk.2) (.bool t204) (.bool t205) (.slice Ao78 t206.length co78) (.slice Ao79 t209.length co79) (.slice Ao80 t212.length co80) (.slice Ao81 t215.length co81) (.bool true) (.bool t219)) (fun _ h_ => h_.1)) (fun _ h_ => h_.1)))) k_ h_)) (fun h_ => by (revert h_; simp only [and_imp]; intros; assumption))), (hk_.2.elim (fun h_ => (Kd.freshB (g := gb220) (o := .cells #[.bool t188, .bool t189, .slice Ao73 t190.length co73, .slice Ao74 t193.length co74, .slice Ao75 t196.length co75, .slice Ao76 t199.length co76, .bool t202, .bool t203] 25 (0, 0)) (by refine blk_far ?_ NB220_221.out _; refine blk_far ?_ NB220_221.out _; refine blk_far ?_ NB220_221.out _; refine blk_far ?_ NB220_221.out _; refine blk_far ?_ NB220_221.out _; refine blk_far ?_ NB220_221.out _; refine blk_far ?_ NB220_221.out _; refine blk_far ?_ NB220_221.out _; refine blk_put (cs := #[.bool t188, .bool t189, .slice Ao73 t190.length co73, .slice Ao74 t193.length co74, .slice Ao75 t196.length co75, .slice Ao76 t199.length co76, .bool t202, .bool false]) ?_ 7 _ rfl; refine blk_put (cs := #[.bool t188, .bool t189, .slice Ao73 t190.length co73, .slice Ao74 t193.length co74, .slice Ao75 t196.length co75, .slice Ao76 t199.length co76, .bool false, .bool false]) ?_ 6 _ rfl; refine blk_put (cs := #[.bool t188, .bool t189, .slice Ao73 t190.length co73, .slice Ao74 t193.length co74, .slice Ao75 t196.length co75, .slice none 0 0, .bool false, .bool false]) ?_ 5 _ rfl; refine blk_put (cs := #[.bool t188, .bool t189, .slice Ao73 t190.length co73, .slice Ao74 t193.length co74, .slice none 0 0, .slice none 0 0, .bool false, .bool false]) ?_ 4 _ rfl; refine blk_put (cs := #[.bool t188, .bool t189, .slice Ao73 t190.length co73, .slice none 0 0, .slice none 0 0, .slice none 0 0, .bool false, .bool false]) ?_ 3 _ rfl; refine blk_put (cs := #[.bool t188, .bool t189, .slice none 0 0, .slice none 0 0, .slice none 0 0, .slice none 0 0, .bool false, .bool false]) ?_ 2 _ rfl; refine blk_put (cs := #[.bool t188, .bool false, .slice none 0 0, .slice none 0 0, .slice none 0 0, .slice none 0 0, .bool false, .bool false]) ?_ 1 _ rfl; refine blk_put (cs := #[.bool false, .bool false, .slice none 0 0, .slice none 0 0, .slice none 0 0, .slice none 0 0, .bool false, .bool false]) ?_ 0 _ rfl; exact BK220.out) k_ h_)) (fun h_ => by (revert h_; simp only [and_imp]; intros; assumption))), (hk_.2.elim (fun h_ => (Kd.freshB (g := gb221) (o := .cells #[.bool t204, .bool t205, .slice Ao78 t206.length co78, .slice Ao79 t209.length co79, .slice Ao80 t212.length co80, .slice Ao81 t215.length co81, .bool true, .bool t219] 25 (0, 0)) (by refine blk_put (cs := #[.bool t204, .bool t205, .slice Ao78 t206.length co78, .slice Ao79 t209.length co79, .slice Ao80 t212.length co80, .slice Ao81 t215.length co81, .bool true, .bool false]) ?_ 7 _ rfl; refine blk_put (cs := #[.bool t204, .bool t205, .slice Ao78 t206.length co78, .slice Ao79 t209.length co79, .slice Ao80 t212.length co80, .slice Ao81 t215.length co81, .bool false, .bool false]) ?_ 6 _ rfl; refine blk_put (cs := #[.bool t204, .bool t205, .slice Ao78 t206.length co78, .slice Ao79 t209.length co79, .slice Ao80 t212.length co80, .slice none 0 0, .bool false, .bool false]) ?_ 5 _ rfl; refine blk_put (cs := #[.bool t204, .bool t205, .slice Ao78 t206.length co78, .slice Ao79 t209.length co79, .slice none 0 0, .slice none 0 0, .bool false, .bool false]) ?_ 4 _ rfl; refine blk_put (cs := #[.bool t204, .bool t205, .slice Ao78 t206.length co78, .slice none 0 0, .slice none 0 0, .slice none 0 0, .bool false, .bool false]) ?_ 3 _ rfl; refine blk_put (cs := #[.bool t204, .bool t205, .slice none 0 0, .slice none 0 0, .slice none 0 0, .slice none 0 0, .bool false, .bool false]) ?_ 2 _ rfl; refine blk_put (cs := #[.bool t204, .bool false, .slice none 0 0, .slice none 0 0, .slice none 0 0, .slice none 0 0, .bool false, .bool false]) ?_ 1 _ rfl; refine blk_put (cs := #[.bool false, .bool false, .slice none 0 0, .slice none 0 0, .slice none 0 0, .slice none 0 0, .bool false, .bool false]) ?_ 0 _ rfl; refine blk_far ?_ NB221_220.out _; refine blk_far ?_ NB221_220.out _; refine blk_far ?_ NB221_220.out _; refine blk_far ?_ NB221_220.out _; refine blk_far ?_ NB221_220.out _; refine blk_far ?_ NB221_220.out _; refine blk_far ?_ NB221_220.out _; refine blk_far ?_ NB221_220.out _; exact BK221.out) k_ h_)) (fun h_ => by (revert h_; simp only [and_imp]; intros; assumption)))⟩)) (below_size (by repeat (first | (with_reducible first | exact HB.out | apply below_alloc | apply pw_below_drewN | apply below_drew1 | refine below_set ?_ GE220.out | refine below_set ?_ GE221.out) | exact HB.out)))); have n12_ := Aside0.mk (blk_below (g := gb220) (o := .cells #[.bool t188, .bool t189, .slice Ao73 t190.length co73, .slice Ao74 t193.length co74, .slice Ao75 t196.length co75, .slice Ao76 t199.length co76, .bool t202, .bool t203] 25 (0, 0)) (by refine blk_far ?_ NB220_221.out _; refine blk_far ?_ NB220_221.out _; refine blk_far ?_ NB220_221.out _; refine blk_far ?_ NB220_221.out _; refine blk_far ?_ NB220_221.out _; refine blk_far ?_ NB220_221.out _; refine blk_far ?_ NB220_221.out _; refine blk_far ?_ NB220_221.out _; refine blk_put (cs := #[.bool t188, .bool t189, .slice Ao73 t190.length co73, .slice Ao74 t193.length co74, .slice Ao75 t196.length co75, .slice Ao76 t199.length co76, .bool t202, .bool false]) ?_ 7 _ rfl; refine blk_put (cs := #[.bool t188, .bool t189, .slice Ao73 t190.length co73, .slice Ao74 t193.length co74, .slice Ao75 t196.length co75, .slice Ao76 t199.length co76, .bool false, .bool false]) ?_ 6 _ rfl; refine blk_put (cs := #[.bool t188, .bool t189, .slice Ao73 t190.length co73, .slice Ao74 t193.length co74, .slice Ao75 t196.length co75, .slice none 0 0, .bool false, .bool false]) ?_ 5 _ rfl; refine blk_put (cs := #[.bool t188, .bool t189, .slice Ao73 t190.length co73, .slice Ao74 t193.length co74, .slice none 0 0, .slice none 0 0, .bool false, .bool false]) ?_ 4 _ rfl; refine blk_put (cs := #[.bool t188, .bool t189, .slice Ao73 t190.length co73, .slice none 0 0, .slice none 0 0, .slice none 0 0, .bool false, .bool false]) ?_ 3 _ rfl; refine blk_put (cs := #[.bool t188, .bool t189, .slice none 0 0, .slice none 0 0, .slice none 0 0, .slice none 0 0, .bool false, .bool false]) ?_ 2 _ rfl; refine blk_put (cs := #[.bool t188, .bool false, .slice none 0 0, .slice none 0 0, .slice none 0 0, .slice none 0 0, .bool false, .bool false]) ?_ 1 _ rfl; refine blk_put (cs := #[.bool false, .bool false, .slice none 0 0, .slice none 0 0, .slice none 0 0, .slice none 0 0, .bool false, .bool false]) ?_ 0 _ rfl; exact BK220.out) hb); have n13_ := Aside0.mk (blk_below (g := gb221) (o := .cells #[.bool t204, .bool t205, .slice Ao78 t206.length co78, .slice Ao79 t209.length co79, .slice Ao80 t212.length co80, .slice Ao81 t215.length co81, .bool true, .bool t219] 25 (0, 0)) (by refine blk_put (cs := #[.bool t204, .bool t205, .slice Ao78 t206.length co78, .slice Ao79 t209.length co79, .slice Ao80 t212.length co80, .slice Ao81 t215.length co81, .bool true, .bool false]) ?_ 7 _ rfl; refine blk_put (cs := #[.bool t204, .bool t205, .slice Ao78 t206.length co78, .slice Ao79 t209.length co79, .slice Ao80 t212.length co80, .slice Ao81 t215.length co81, .bool false, .bool false]) ?_ 6 _ rfl; refine blk_put (cs := #[.bool t204, .bool t205, .slice Ao78 t206.length co78, .slice Ao79 t209.length co79, .slice Ao80 t212.length co80, .slice none 0 0, .bool false, .bool false]) ?_ 5 _ rfl; refine blk_put (cs := #[.bool t204, .bool t205, .slice Ao78 t206.length co78, .slice Ao79 t209.length co79, .slice none 0 0, .slice none 0 0, .bool false, .bool false]) ?_ 4 _ rfl; refine blk_put (cs := #[.bool t204, .bool t205, .slice Ao78 t206.length co78, .slice none 0 0, .slice none 0 0, .slice none 0 0, .bool false, .bool false]) ?_ 3 _ rfl; refine blk_put (cs := #[.bool t204, .bool t205, .slice none 0 0, .slice none 0 0, .slice none 0 0, .slice none 0 0, .bool false, .bool false]) ?_ 2 _ rfl; refine blk_put (cs := #[.bool t204, .bool false, .slice none 0 0, .slice none 0 0, .slice none 0 0, .slice none 0 0, .bool false, .bool false]) ?_ 1 _ rfl; refine blk_put (cs := #[.bool false, .bool false, .slice none 0 0, .slice none 0 0, .slice none 0 0, .slice none 0 0, .bool false, .bool false]) ?_ 0 _ rfl; refine blk_far ?_ NB221_220.out _; refine blk_far ?_ NB221_220.out _; refine blk_far ?_ NB221_220.out _; refine blk_far ?_ NB221_220.out _; refine blk_far ?_ NB221_220.out _; refine blk_far ?_ NB221_220.out _; refine blk_far ?_ NB221_220.out _; refine blk_far ?_ NB221_220.out _; exact BK221.out) hb); have n14_ := Aside0.mk (below_step (by repeat (first | (with_reducible first | exact HB.out | apply below_alloc | apply pw_below_drewN | apply below_drew1 | refine below_set ?_ GE220.out | refine below_set ?_ GE221.out) | exact HB.out)) hb); clear HO192; clear HO195; clear HO198; clear HO201; clear HO208; clear HO211; clear HO214; clear HO217; clear BK220; clear BK221; clear HB; have HO192 := n0_; have HO195 := n1_; have HO198 := n2_; have HO201 := n3_; have HO208 := n4_; have HO211 := n5_; have HO214 := n6_; have HO217 := n7_; have HO226 := n8_; have HO229 := n9_; have HO232 := n10_; have HO235 := n11_; have BK220 := n12_; have BK221 := n13_; have HB := n14_; clear n0_ n1_ n2_ n3_ n4_ n5_ n6_ n7_ n8_ n9_ n10_ n11_ n12_ n13_ n14_; (try clear hb); (try clear hb2); (try clear hk); (try clear hi); (try clear ho0); (try clear ho1); (try clear ho2); (try clear ho3)) | ((with_reducible refine gate_dst (N := 3) rfl ?_); (try (refine gate_guard (by rfl) ?_; dsimp only)); refine box_event ?hg (N := 3) ?hd (cs := #[.bool false, .bool false, .slice none 0 0, .slice none 0 0, .slice none 0 0, .slice none 0 0, .bool false, .bool false]) (t := 25) ?hr ?_; (case hd => rfl); (case hg => rfl); (case hr => first | (go_simp; done) | (go_simp; rfl)); intro gb238 hg w83 hbox hb; have n0_ := Aside0.mk (Kd.R_below (by exact HO192.out) hb); have n1_ := Aside0.mk (Kd.R_below (by exact HO195.out) hb); have n2_ := Aside0.mk (Kd.R_below (by exact HO198.out) hb); have n3_ := Aside0.mk (Kd.N_below (Kd.N_elderB (by exact HO201.out) gb238 (Nat.le_of_eq hg.symm)) hb); have n4_ := Aside0.mk (Kd.R_below (by exact HO208.out) hb); have n5_ := Aside0.mk (Kd.R_below (by exact HO211.out) hb); have n6_ := Aside0.mk (Kd.R_below (by exact HO214.out) hb); have n7_ := Aside0.mk (Kd.N_below (Kd.N_elderB (by exact HO217.out) gb238 (Nat.le_of_eq hg.symm)) hb); have n8_ := Aside0.mk (Kd.R_below (by exact HO226.out) hb); have n9_ := Aside0.mk (Kd.R_below (by exact HO229.out) hb); have n10_ := Aside0.mk (Kd.R_below (by exact HO232.out) hb); have n11_ := Aside0.mk (Kd.N_below (Kd.N_elderB (by exact HO235.out) gb238 (Nat.le_of_eq hg.symm)) hb); have n12_ := Aside0.mk (blk_below (g := gb220) (o := .cells #[.bool t188, .bool t189, .slice Ao73 t190.length co73, .slice Ao74 t193.length co74, .slice Ao75 t196.length co75, .slice Ao76 t199.length co76, .bool t202, .bool t203] 25 (0, 0)) (by exact BK220.out) hb); have n13_ := Aside0.mk (blk_below (g := gb221) (o := .cells #[.bool t204, .bool t205, .slice Ao78 t206.length co78, .slice Ao79 t209.length co79, .slice Ao80 t212.length co80, .slice Ao81 t215.length co81, .bool true, .bool t219] 25 (0, 0)) (by exact BK221.out) hb); have n14_ := Aside0.mk (below_step (by repeat (first | (with_reducible first | exact HB.out | apply below_alloc | apply pw_below_drewN | apply below_drew1 | refine below_set ?_ GE220.out | refine below_set ?_ GE221.out) | exact HB.out)) hb); have n15_ := Aside0.mk (hbox); have n16_ := Aside0.mk ((by rw [hg]; exact (below_size (by repeat (first | (with_reducible first | exact HB.out | apply below_alloc | apply pw_below_drewN | apply below_drew1 | refine below_set ?_ GE220.out | refine below_set ?_ GE221.out) | exact HB.out))) : w.heap.size ≤ gb238)); have n17_ := Aside0.mk ((by rw [hg]; exact (below_size (by repeat (first | (with_reducible first | exact HB.out | apply below_alloc | apply pw_below_drewN | apply below_drew1 | refine below_set ?_ GE220.out | refine below_set ?_ GE221.out) | exact HB.out))) : w.heap.size ≤ gb238)); have n18_ := Aside0.mk ((by rw [hg]; exact Nat.ne_of_lt (blk_lt (g := gb220) (o := .cells #[.bool t188, .bool t189, .slice Ao73 t190.length co73, .slice Ao74 t193.length co74, .slice Ao75 t196.length co75, .slice Ao76 t199.length co76, .bool t202, .bool t203] 25 (0, 0)) (by exact BK220.out)) : gb220 ≠ gb238)); have n19_ := Aside0.mk ((by rw [hg]; exact Nat.ne_of_gt (blk_lt (g := gb220) (o := .cells #[.bool t188, .bool t189, .slice Ao73 t190.length co73, .slice Ao74 t193.length co74, .slice Ao75 t196.length co75, .slice Ao76 t199.length co76, .bool t202, .bool t203] 25 (0, 0)) (by exact BK220.out)) : gb238 ≠ gb220)); have n20_ := Aside0.mk ((by rw [hg]; exact Nat.ne_of_lt (blk_lt (g := gb221) (o := .cells #[.bool t204, .bool t205, .slice Ao78 t206.length co78, .slice Ao79 t209.length co79, .slice Ao80 t212.length co80, .slice Ao81 t215.length co81, .bool true, .bool t219] 25 (0, 0)) (by exact BK221.out)) : gb221 ≠ gb238)); have n21_ := Aside0.mk ((by rw [hg]; exact Nat.ne_of_gt (blk_lt (g := gb221) (o := .cells #[.bool t204, .bool t205, .slice Ao78 t206.length co78, .slice Ao79 t209.length co79, .slice Ao80 t212.length co80, .slice Ao81 t215.length co81, .bool true, .bool t219] 25 (0, 0)) (by exact BK221.out)) : gb238 ≠ gb221)); clear HO192; clear HO195; clear HO198; clear HO201; clear HO208; clear HO211; clear HO214; clear HO217; clear HO226; clear HO229; clear HO232; clear HO235; clear BK220; clear BK221; clear HB; have HO192 := n0_; have HO195 := n1_; have HO198 := n2_; have HO201 := n3_; have HO208 := n4_; have HO211 := n5_; have HO214 := n6_; have HO217 := n7_; have HO226 := n8_; have HO229 := n9_; have HO232 := n10_; have HO235 := n11_; have BK220 := n12_; have BK221 := n13_; have HB := n14_; have BK238 := n15_; have GW238 := n16_; have GE238 := n17_; have NB220_238 := n18_; have NB238_220 := n19_; have NB221_238 := n20_; have NB238_221 := n21_; clear n0_ n1_ n2_ n3_ n4_ n5_ n6_ n7_ n8_ n9_ n10_ n11_ n12_ n13_ n14_ n15_ n16_ n17_ n18_ n19_ n20_ n21_; clear hb hbox hg; have hnb84 := NB238_220.out; have hnc84 := NB220_238.out; have hnb85 := NB238_221.out; have hnc85 := NB221_238.out; have hcz86_0 : w83.cell? ⟨gb238, 0, none⟩ = some (.bool false) := (blk_cell BK238.out 0).trans rfl; have hcz86_1 : w83.cell? ⟨gb238, 1, none⟩ = some (.bool false) := (blk_cell BK238.out 1).trans rfl; have hcz86_2 : w83.cell? ⟨gb238, 2, none⟩ = some (.slice none 0 0) := (blk_cell BK238.out 2).trans rfl; have hcz86_3 : w83.cell? ⟨gb238, 3, none⟩ = some (.slice none 0 0) := (blk_cell BK238.out 3).trans rfl; have hcz86_4 : w83.cell? ⟨gb238, 4, none⟩ = some (.slice none 0 0) := (blk_cell BK238.out 4).trans rfl; have hcz86_5 : w83.cell? ⟨gb238, 5, none⟩ = some (.slice none 0 0) := (blk_cell BK238.out 5).trans rfl; have hcz86_6 : w83.cell? ⟨gb238, 6, none⟩ = some (.bool false) := (blk_cell BK238.out 6).trans rfl; have hcz86_7 : w83.cell? ⟨gb238, 7, none⟩ = some (.bool false) := (blk_cell BK238.out 7).trans rfl; have hfz86_0 := blk_frozen BK238.out 0; have hfz86_1 := blk_frozen BK238.out 1; have hfz86_2 := blk_frozen BK238.out 2; have hfz86_3 := blk_frozen BK238.out 3; have hfz86_4 := blk_frozen BK238.out 4; have hfz86_5 := blk_frozen BK238.out 5; have hfz86_6 := blk_frozen BK238.out 6; have hfz86_7 := blk_frozen BK238.out 7; obtain ⟨Ao87, co87, eo87⟩ := Kd.R_slice HO226.out; subst eo87; obtain ⟨Ao88, co88, eo88⟩ := Kd.R_slice HO229.out; subst eo88; obtain ⟨Ao89, co89, eo89⟩ := Kd.R_slice HO232.out; subst eo89; obtain ⟨Ao90, co90, eo90⟩ := Kd.N_slice HO235.out; subst eo90))
              have n0_ : Aside0 (Kd.R Kd.string 9 ((((((((w83.setCell ⟨gb238, 0, none⟩ (.bool t222)).setCell ⟨gb238, 1, none⟩ (.bool t223)).setCell ⟨gb238, 2, none⟩ (.slice Ao87 t224.length co87)).setCell ⟨gb238, 3, none⟩ (.slice Ao88 t227.length co88)).setCell ⟨gb238, 4, none⟩ (.slice Ao89 t230.length co89)).setCell ⟨gb238, 5, none⟩ (.slice Ao90 t233.length co90)).setCell ⟨gb238, 6, none⟩ (.bool t236)).setCell ⟨gb238, 7, none⟩ (.bool t237)) w.heap.size (fun k_ => some k_ ≠ (.slice Ao74 t193.length co74 : Value).ownBlock ∧ some k_ ≠ (.slice Ao75 t196.length co75 : Value).ownBlock ∧ some k_ ≠ (.slice Ao78 t206.length co78 : Value).ownBlock ∧ some k_ ≠ (.slice Ao79 t209.length co79 : Value).ownBlock ∧ some k_ ≠ (.slice Ao80 t212.length co80 : Value).ownBlock ∧ some k_ ≠ (.slice Ao87 t224.length co87 : Value).ownBlock ∧ some k_ ≠ (.slice Ao88 t227.length co88 : Value).ownBlock ∧ some k_ ≠ (.slice Ao89 t230.length co89 : Value).ownBlock) (.slice Ao73 t190.length co73) t190) := ⟨by exact Kd.R_mono (R_far8 (g := gb238) (Kd.R_types HO192.out BK238.out (by decide)) (fun _ hk => hk.2) (.bool t222) (.bool t223) (.slice Ao87 t224.length co87) (.slice Ao88 t227.length co88) (.slice Ao89 t230.length co89) (.slice Ao90 t233.length co90) (.bool t236) (.bool t237)) (fun _ hk => ⟨hk.1.1.1.1.1.1.1.1, ⟨hk.1.1.1.1.1.1.1.2, ⟨hk.1.1.1.1.1.1.2, ⟨hk.1.1.1.1.1.2, ⟨hk.1.1.1.1.2, ⟨hk.1.1.1.2, ⟨hk.1.1.2, hk.1.2⟩⟩⟩⟩⟩⟩⟩)⟩
              have n1_ : Aside0 (Kd.R Kd.string 9 ((((((((w83.setCell ⟨gb238, 0, none⟩ (.bool t222)).setCell ⟨gb238, 1, none⟩ (.bool t223)).setCell ⟨gb238, 2, none⟩ (.slice Ao87 t224.length co87)).setCell ⟨gb238, 3, none⟩ (.slice Ao88 t227.length co88)).setCell ⟨gb238, 4, none⟩ (.slice Ao89 t230.length co89)).setCell ⟨gb238, 5, none⟩ (.slice Ao90 t233.length co90)).setCell ⟨gb238, 6, none⟩ (.bool t236)).setCell ⟨gb238, 7, none⟩ (.bool t237)) w.heap.size (fun k_ => some k_ ≠ (.slice Ao73 t190.length co73 : Value).ownBlock ∧ some k_ ≠ (.slice Ao75 t196.length co75 : Value).ownBlock ∧ some k_ ≠ (.slice Ao78 t206.length co78 : Value).ownBlock ∧ some k_ ≠ (.slice Ao79 t209.length co79 : Value).ownBlock ∧ some k_ ≠ (.slice Ao80 t212.length co80 : Value).ownBlock ∧ some k_ ≠ (.slice Ao87 t224.length co87 : Value).ownBlock ∧ some k_ ≠ (.slice Ao88 t227.length co88 : Value).ownBlock ∧ some k_ ≠ (.slice Ao89 t230.length co89 : Value).ownBlock) (.slice Ao74 t193.length co74) t193) := ⟨by exact Kd.R_mono (R_far8 (g := gb238) (Kd.R_types HO195.out BK238.out (by decide)) (fun _ hk => hk.2) (.bool t222) (.bool t223) (.slice Ao87 t224.length co87) (.slice Ao88 t227.length co88) (.slice Ao89 t230.length co89) (.slice Ao90 t233.length co90) (.bool t236) (.bool t237)) (fun _ hk => ⟨hk.1.1.1.1.1.1.1.1, ⟨hk.1.1.1.1.1.1.1.2, ⟨hk.1.1.1.1.1.1.2, ⟨hk.1.1.1.1.1.2, ⟨hk.1.1.1.1.2, ⟨hk.1.1.1.2, ⟨hk.1.1.2, hk.1.2⟩⟩⟩⟩⟩⟩⟩)⟩
              have n2_ : Aside0 (Kd.R Kd.string 9 ((((((((w83.setCell ⟨gb238, 0, none⟩ (.bool t222)).setCell ⟨gb238, 1, none⟩ (.bool t223)).setCell ⟨gb238, 2, none⟩ (.slice Ao87 t224.length co87)).setCell ⟨gb238, 3, none⟩ (.slice Ao88 t227.length co88)).setCell ⟨gb238, 4, none⟩ (.slice Ao89 t230.length co89)).setCell ⟨gb238, 5, none⟩ (.slice Ao90 t233.length co90)).setCell ⟨gb238, 6, none⟩ (.bool t236)).setCell ⟨gb238, 7, none⟩ (.bool t237)) w.heap.size (fun k_ => some k_ ≠ (.slice Ao73 t190.length co73 : Value).ownBlock ∧ some k_ ≠ (.slice Ao74 t193.length co74 : Value).ownBlock ∧ some k_ ≠ (.slice Ao78 t206.length co78 : Value).ownBlock ∧ some k_ ≠ (.slice Ao79 t209.length co79 : Value).ownBlock ∧ some k_ ≠ (.slice Ao80 t212.length co80 : Value).ownBlock ∧ some k_ ≠ (.slice Ao87 t224.length co87 : Value).ownBlock ∧ some k_ ≠ (.slice Ao88 t227.length co88 : Value).ownBlock ∧ some k_ ≠ (.slice Ao89 t230.length co89 : Value).ownBlock) (.slice Ao75 t196.length co75) t196) := ⟨by exact Kd.R_mono (R_far8 (g := gb238) (Kd.R_types HO198.out BK238.out (by decide)) (fun _ hk => hk.2) (.bool t222) (.bool t223) (.slice Ao87 t224.length co87) (.slice Ao88 t227.length co88) (.slice Ao89 t230.length co89) (.slice Ao90 t233.length co90) (.bool t236) (.bool t237)) (fun _ hk => ⟨hk.1.1.1.1.1.1.1.1, ⟨hk.1.1.1.1.1.1.1.2, ⟨hk.1.1.1.1.1.1.2, ⟨hk.1.1.1.1.1.2, ⟨hk.1.1.1.1.2, ⟨hk.1.1.1.2, ⟨hk.1.1.2, hk.1.2⟩⟩⟩⟩⟩⟩⟩)⟩
              have n3_ : Aside0 (Kd.N k35 35 ((((((((w83.setCell ⟨gb238, 0, none⟩ (.bool t222)).setCell ⟨gb238, 1, none⟩ (.bool t223)).setCell ⟨gb238, 2, none⟩ (.slice Ao87 t224.length co87)).setCell ⟨gb238, 3, none⟩ (.slice Ao88 t227.length co88)).setCell ⟨gb238, 4, none⟩ (.slice Ao89 t230.length co89)).setCell ⟨gb238, 5, none⟩ (.slice Ao90 t233.length co90)).setCell ⟨gb238, 6, none⟩ (.bool t236)).setCell ⟨gb238, 7, none⟩ (.bool t237)) w.heap.size (fun k_ => some k_ ≠ (.slice Ao73 t190.length co73 : Value).ownBlock ∧ some k_ ≠ (.slice Ao74 t193.length co74 : Value).ownBlock ∧ some k_ ≠ (.slice Ao75 t196.length co75 : Value).ownBlock ∧ some k_ ≠ (.slice Ao78 t206.length co78 : Value).ownBlock ∧ some k_ ≠ (.slice Ao79 t209.length co79 : Value).ownBlock ∧ some k_ ≠ (.slice Ao80 t212.length co80 : Value).ownBlock ∧ some k_ ≠ (.slice Ao81 t215.length co81 : Value).ownBlock ∧ some k_ ≠ (.slice Ao87 t224.length co87 : Value).ownBlock ∧ some k_ ≠ (.slice Ao88 t227.length co88 : Value).ownBlock ∧ some k_ ≠ (.slice Ao89 t230.length co89 : Value).ownBlock ∧ some k_ ≠ (.slice Ao90 t233.length co90 : Value).ownBlock ∧ k_ ≠ gb220 ∧ k_ ≠ gb221 ∧ k_ ≠ gb238) (.slice Ao76 t199.length co76) t199) := ⟨by exact Kd.N_mono (N_far8 (g := gb238) (Kd.N_mono HO201.out (fun k_ hk => (⟨hk, hk.2⟩ : _ ∧ k_ ≠ gb238))) (fun _ hk => hk.2) (.bool t222) (.bool t223) (.slice Ao87 t224.length co87) (.slice Ao88 t227.length co88) (.slice Ao89 t230.length co89) (.slice Ao90 t233.length co90) (.bool t236) (.bool t237)) (fun _ hk => ⟨hk.1.1.1.1.1.1.1.1.1.1.1.1.1, ⟨hk.1.1.1.1.1.1.1.1.1.1.1.1.2.1, ⟨hk.1.1.1.1.1.1.1.1.1.1.1.1.2.2, ⟨hk.1.1.1.1.1.1.1.1.1.1.1.2, ⟨hk.1.1.1.1.1.1.1.1.1.1.2, ⟨hk.1.1.1.1.1.1.1.1.1.2, ⟨hk.1.1.1.1.1.1.1.1.2, ⟨hk.1.1.1.1.1.2, ⟨hk.1.1.1.1.2, ⟨hk.1.1.1.2, ⟨hk.1.1.2, ⟨hk.1.1.1.1.1.1.1.2, ⟨hk.1.1.1.1.1.1.2, hk.1.2⟩⟩⟩⟩⟩⟩⟩⟩⟩⟩⟩⟩⟩)⟩
              have n4_ : Aside0 (Kd.R Kd.string 9 ((((((((w83.setCell ⟨gb238, 0, none⟩ (.bool t222)).setCell ⟨gb238, 1, none⟩ (.bool t223)).setCell ⟨gb238, 2, none⟩ (.slice Ao87 t224.length co87)).setCell ⟨gb238, 3, none⟩ (.slice Ao88 t227.length co88)).setCell ⟨gb238, 4, none⟩ (.slice Ao89 t230.length co89)).setCell ⟨gb238, 5, none⟩ (.slice Ao90 t233.length co90)).setCell ⟨gb238, 6, none⟩ (.bool t236)).setCell ⟨gb238, 7, none⟩ (.bool t237)) w.heap.size (fun k_ => some k_ ≠ (.slice Ao73 t190.length co73 : Value).ownBlock ∧ some k_ ≠ (.slice Ao74 t193.length co74 : Value).ownBlock ∧ some k_ ≠ (.slice Ao75 t196.length co75 : Value).ownBlock ∧ some k_ ≠ (.slice Ao79 t209.length co79 : Value).ownBlock ∧ some k_ ≠ (.slice Ao80 t212.length co80 : Value).ownBlock ∧ some k_ ≠ (.slice Ao87 t224.length co87 : Value).ownBlock ∧ some k_ ≠ (.slice Ao88 t227.length co88 : Value).ownBlock ∧ some k_ ≠ (.slice Ao89 t230.length co89 : Value).ownBlock) (.slice Ao78 t206.length co78) t206) := ⟨by exact Kd.R_mono (R_far8 (g := gb238) (Kd.R_types HO208.out BK238.out (by decide)) (fun _ hk => hk.2) (.bool t222) (.bool t223) (.slice Ao87 t224.length co87) (.slice Ao88 t227.length co88) (.slice Ao89 t230.length co89) (.slice Ao90 t233.length co90) (.bool t236) (.bool t237)) (fun _ hk => ⟨hk.1.1.1.1.1.1.2, ⟨hk.1.1.1.1.1.2, ⟨hk.1.1.1.1.2, ⟨hk.1.1.1.1.1.1.1.1, ⟨hk.1.1.1.1.1.1.1.2, ⟨hk.1.1.1.2, ⟨hk.1.1.2, hk.1.2⟩⟩⟩⟩⟩⟩⟩)⟩
              have n5_ : Aside0 (Kd.R Kd.string 9 ((((((((w83.setCell ⟨gb238, 0, none⟩ (.bool t222)).setCell ⟨gb238, 1, none⟩ (.bool t223)).setCell ⟨gb238, 2, none⟩ (.slice Ao87 t224.length co87)).setCell ⟨gb238, 3, none⟩ (.slice Ao88 t227.length co88)).setCell ⟨gb238, 4, none⟩ (.slice Ao89 t230.length co89)).setCell ⟨gb238, 5, none⟩ (.slice Ao90 t233.length co90)).setCell ⟨gb238, 6, none⟩ (.bool t236)).setCell ⟨gb238, 7, none⟩ (.bool t237)) w.heap.size (fun k_ => some k_ ≠ (.slice Ao73 t190.length co73 : Value).ownBlock ∧ some k_ ≠ (.slice Ao74 t193.length co74 : Value).ownBlock ∧ some k_ ≠ (.slice Ao75 t196.length co75 : Value).ownBlock ∧ some k_ ≠ (.slice Ao78 t206.length co78 : Value).ownBlock ∧ some k_ ≠ (.slice Ao80 t212.length co80 : Value).ownBlock ∧ some k_ ≠ (.slice Ao87 t224.length co87 : Value).ownBlock ∧ some k_ ≠ (.slice Ao88 t227.length co88 : Value).ownBlock ∧ some k_ ≠ (.slice Ao89 t230.length co89 : Value).ownBlock) (.slice Ao79 t209.length co79) t209) := ⟨by exact Kd.R_mono (R_far8 (g := gb238) (Kd.R_types HO211.out BK238.out (by decide)) (fun _ hk => hk.2) (.bool t222) (.bool t223) (.slice Ao87 t224.length co87) (.slice Ao88 t227.length co88) (.slice Ao89 t230.length co89) (.slice Ao90 t233.length co90) (.bool t236) (.bool t237)) (fun _ hk => ⟨hk.1.1.1.1.1.1.2, ⟨hk.1.1.1.1.1.2, ⟨hk.1.1.1.1.2, ⟨hk.1.1.1.1.1.1.1.1, ⟨hk.1.1.1.1.1.1.1.2, ⟨hk.1.1.1.2, ⟨hk.1.1.2, hk.1.2⟩⟩⟩⟩⟩⟩⟩)⟩
              have n6_ : Aside0 (Kd.R Kd.string 9 ((((((((w83.setCell ⟨gb238, 0, none⟩ (.bool t222)).setCell ⟨gb238, 1, none⟩ (.bool t223)).setCell ⟨gb238, 2, none⟩ (.slice Ao87 t224.length co87)).setCell ⟨gb238, 3, none⟩ (.slice Ao88 t227.length co88)).setCell ⟨gb238, 4, none⟩ (.slice Ao89 t230.length co89)).setCell ⟨gb238, 5, none⟩ (.slice Ao90 t233.length co90)).setCell ⟨gb238, 6, none⟩ (.bool t236)).setCell ⟨gb238, 7, none⟩ (.bool t237)) w.heap.size (fun k_ => some k_ ≠ (.slice Ao73 t190.length co73 : Value).ownBlock ∧ some k_ ≠ (.slice Ao74 t193.length co74 : Value).ownBlock ∧ some k_ ≠ (.slice Ao75 t196.length co75 : Value).ownBlock ∧ some k_ ≠ (.slice Ao78 t206.length co78 : Value).ownBlock ∧ some k_ ≠ (.slice Ao79 t209.length co79 : Value).ownBlock ∧ some k_ ≠ (.slice Ao87 t224.length co87 : Value).ownBlock ∧ some k_ ≠ (.slice Ao88 t227.length co88 : Value).ownBlock ∧ some k_ ≠ (.slice Ao89 t230.length co89 : Value).ownBlock) (.slice Ao80 t212.length co80) t212) := ⟨by exact Kd.R_mono (R_far8 (g := gb238) (Kd.R_types HO214.out BK238.out (by decide)) (fun _ hk => hk.2) (.bool t222) (.bool t223) (.slice Ao87 t224.length co87) (.slice Ao88 t227.length co88) (.slice Ao89 t230.length co89) (.slice Ao90 t233.length co90) (.bool t236) (.bool t237)) (fun _ hk => ⟨hk.1.1.1.1.1.1.2, ⟨hk.1.1.1.1.1.2, ⟨hk.1.1.1.1.2, ⟨hk.1.1.1.1.1.1.1.1, ⟨hk.1.1.1.1.1.1.1.2, ⟨hk.1.1.1.2, ⟨hk.1.1.2, hk.1.2⟩⟩⟩⟩⟩⟩⟩)⟩
              have n7_ : Aside0 (Kd.N k35 35 ((((((((w83.setCell ⟨gb238, 0, none⟩ (.bool t222)).setCell ⟨gb238, 1, none⟩ (.bool t223)).setCell ⟨gb238, 2, none⟩ (.slice Ao87 t224.length co87)).setCell ⟨gb238, 3, none⟩ (.slice Ao88 t227.length co88)).setCell ⟨gb238, 4, none⟩ (.slice Ao89 t230.length co89)).setCell ⟨gb238, 5, none⟩ (.slice Ao90 t233.length co90)).setCell ⟨gb238, 6, none⟩ (.bool t236)).setCell ⟨gb238, 7, none⟩ (.bool t237)) w.heap.size (fun k_ => some k_ ≠ (.slice Ao73 t190.length co73 : Value).ownBlock ∧ some k_ ≠ (.slice Ao74 t193.length co74 : Value).ownBlock ∧ some k_ ≠ (.slice Ao75 t196.length co75 : Value).ownBlock ∧ some k_ ≠ (.slice Ao76 t199.length co76 : Value).ownBlock ∧ some k_ ≠ (.slice Ao78 t206.length co78 : Value).ownBlock ∧ some k_ ≠ (.slice Ao79 t209.length co79 : Value).ownBlock ∧ some k_ ≠ (.slice Ao80 t212.length co80 : Value).ownBlock ∧ some k_ ≠ (.slice Ao87 t224.length co87 : Value).ownBlock ∧ some k_ ≠ (.slice Ao88 t227.length co88 : Value).ownBlock ∧ some k_ ≠ (.slice Ao89 t230.length co89 : Value).ownBlock ∧ some k_ ≠ (.slice Ao90 t233.length co90 : Value).ownBlock ∧ k_ ≠ gb220 ∧ k_ ≠ gb221 ∧ k_ ≠ gb238) (.slice Ao81 t215.length co81) t215) := ⟨by exact Kd.N_mono (N_far8 (g := gb238) (Kd.N_mono HO217.out (fun k_ hk => (⟨hk, hk.2⟩ : _ ∧ k_ ≠ gb238))) (fun _ hk => hk.2) (.bool t222) (.bool t223) (.slice Ao87 t224.length co87) (.slice Ao88 t227.length co88) (.slice Ao89 t230.length co89) (.slice Ao90 t233.length co90) (.bool t236) (.bool t237)) (fun _ hk => ⟨hk.1.1.1.1.1.1.1.1.2.2.2.1, ⟨hk.1.1.1.1.1.1.1.1.2.2.2.2.1, ⟨hk.1.1.1.1.1.1.1.1.2.2.2.2.2.1, ⟨hk.1.1.1.1.1.1.1.1.2.2.2.2.2.2, ⟨hk.1.1.1.1.1.1.1.1.1, ⟨hk.1.1.1.1.1.1.1.1.2.1, ⟨hk.1.1.1.1.1.1.1.1.2.2.1, ⟨hk.1.1.1.1.1.2, ⟨hk.1.1.1.1.2, ⟨hk.1.1.1.2, ⟨hk.1.1.2, ⟨hk.1.1.1.1.1.1.1.2, ⟨hk.1.1.1.1.1.1.2, hk.1.2⟩⟩⟩⟩⟩⟩⟩⟩⟩⟩⟩⟩⟩)⟩
              have n8_ : Aside0 (Kd.R Kd.string 9 ((((((((w83.setCell ⟨gb238, 0, none⟩ (.bool t222)).setCell ⟨gb238, 1, none⟩ (.bool t223)).setCell ⟨gb238, 2, none⟩ (.slice Ao87 t224.length co87)).setCell ⟨gb238, 3, none⟩ (.slice Ao88 t227.length co88)).setCell ⟨gb238, 4, none⟩ (.slice Ao89 t230.length co89)).setCell ⟨gb238, 5, none⟩ (.slice Ao90 t233.length co90)).setCell ⟨gb238, 6, none⟩ (.bool t236)).setCell ⟨gb238, 7, none⟩ (.bool t237)) w.heap.size (fun k_ => some k_ ≠ (.slice Ao73 t190.length co73 : Value).ownBlock ∧ some k_ ≠ (.slice Ao74 t193.length co74 : Value).ownBlock ∧ some k_ ≠ (.slice Ao75 t196.length co75 : Value).ownBlock ∧ some k_ ≠ (.slice Ao78 t206.length co78 : Value).ownBlock ∧ some k_ ≠ (.slice Ao79 t209.length co79 : Value).ownBlock ∧ some k_ ≠ (.slice Ao80 t212.length co80 : Value).ownBlock ∧ some k_ ≠ (.slice Ao88 t227.length co88 : Value).ownBlock ∧ some k_ ≠ (.slice Ao89 t230.length co89 : Value).ownBlock) (.slice Ao87 t224.length co87) t224) := ⟨by exact Kd.R_mono (R_far8 (g := gb238) (Kd.R_types HO226.out BK238.out (by decide)) (fun _ hk => hk.2) (.bool t222) (.bool t223) (.slice Ao87 t224.length co87) (.slice Ao88 t227.length co88) (.slice Ao89 t230.length co89) (.slice Ao90 t233.length co90) (.bool t236) (.bool t237)) (fun _ hk => ⟨hk.1.1.1.1.1.1.2, ⟨hk.1.1.1.1.1.2, ⟨hk.1.1.1.1.2, ⟨hk.1.1.1.2, ⟨hk.1.1.2, ⟨hk.1.2, ⟨hk.1.1.1.1.1.1.1.1, hk.1.1.1.1.1.1.1.2⟩⟩⟩⟩⟩⟩⟩)⟩
              have n9_ : Aside0 (Kd.R Kd.string 9 ((((((((w83.setCell ⟨gb238, 0, none⟩ (.bool t222)).setCell ⟨gb238, 1, none⟩ (.bool t223)).setCell ⟨gb238, 2, none⟩ (.slice Ao87 t224.length co87)).setCell ⟨gb238, 3, none⟩ (.slice Ao88 t227.length co88)).setCell ⟨gb238, 4, none⟩ (.slice Ao89 t230.length co89)).setCell ⟨gb238, 5, none⟩ (.slice Ao90 t233.length co90)).setCell ⟨gb238, 6, none⟩ (.bool t236)).setCell ⟨gb238, 7, none⟩ (.bool t237)) w.heap.size (fun k_ => some k_ ≠ (.slice Ao73 t190.length co73 : Value).ownBlock ∧ some k_ ≠ (.slice Ao74 t193.length co74 : Value).ownBlock ∧ some k_ ≠ (.slice Ao75 t196.length co75 : Value).ownBlock ∧ some k_ ≠ (.slice Ao78 t206.length co78 : Value).ownBlock ∧ some k_ ≠ (.slice Ao79 t209.length co79 : Value).ownBlock ∧ some k_ ≠ (.slice Ao80 t212.length co80 : Value).ownBlock ∧ some k_ ≠ (.slice Ao87 t224.length co87 : Value).ownBlock ∧ some k_ ≠ (.slice Ao89 t230.length co89 : Value).ownBlock) (.slice Ao88 t227.length co88) t227) := ⟨by exact Kd.R_mono (R_far8 (g := gb238) (Kd.R_types HO229.out BK238.out (by decide)) (fun _ hk => hk.2) (.bool t222) (.bool t223) (.slice Ao87 t224.length co87) (.slice Ao88 t227.length co88) (.slice Ao89 t230.length co89) (.slice Ao90 t233.length co90) (.bool t236) (.bool t237)) (fun _ hk => ⟨hk.1.1.1.1.1.1.2, ⟨hk.1.1.1.1.1.2, ⟨hk.1.1.1.1.2, ⟨hk.1.1.1.2, ⟨hk.1.1.2, ⟨hk.1.2, ⟨hk.1.1.1.1.1.1.1.1, hk.1.1.1.1.1.1.1.2⟩⟩⟩⟩⟩⟩⟩)⟩
              have n10_ : Aside0 (Kd.R Kd.string 9 ((((((((w83.setCell ⟨gb238, 0, none⟩ (.bool t222)).setCell ⟨gb238, 1, none⟩ (.bool t223)).setCell ⟨gb238, 2, none⟩ (.slice Ao87 t224.length co87)).setCell ⟨gb238, 3, none⟩ (.slice Ao88 t227.length co88)).setCell ⟨gb238, 4, none⟩ (.slice Ao89 t230.length co89)).setCell ⟨gb238, 5, none⟩ (.slice Ao90 t233.length co90)).setCell ⟨gb238, 6, none⟩ (.bool t236)).setCell ⟨gb238, 7, none⟩ (.bool t237)) w.heap.size (fun k_ => some k_ ≠ (.slice Ao73 t190.length co73 : Value).ownBlock ∧ some k_ ≠ (.slice Ao74 t193.length co74 : Value).ownBlock ∧ some k_ ≠ (.slice Ao75 t196.length co75 : Value).ownBlock ∧ some k_ ≠ (.slice Ao78 t206.length co78 : Value).ownBlock ∧ some k_ ≠ (.slice Ao79 t209.length co79 : Value).ownBlock ∧ some k_ ≠ (.slice Ao80 t212.length co80 : Value).ownBlock ∧ some k_ ≠ (.slice Ao87 t224.length co87 : Value).ownBlock ∧ some k_ ≠ (.slice Ao88 t227.length co88 : Value).ownBlock) (.slice Ao89 t230.length co89) t230) := ⟨by exact Kd.R_mono (R_far8 (g := gb238) (Kd.R_types HO232.out BK238.out (by decide)) (fun _ hk => hk.2) (.bool t222) (.bool t223) (.slice Ao87 t224.length co87) (.slice Ao88 t227.length co88) (.slice Ao89 t230.length co89) (.slice Ao90 t233.length co90) (.bool t236) (.bool t237)) (fun _ hk => ⟨hk.1.1.1.1.1.1.2, ⟨hk.1.1.1.1.1.2, ⟨hk.1.1.1.1.2, ⟨hk.1.1.1.2, ⟨hk.1.1.2, ⟨hk.1.2, ⟨hk.1.1.1.1.1.1.1.1, hk.1.1.1.1.1.1.1.2⟩⟩⟩⟩⟩⟩⟩)⟩
              have n11_ : Aside0 (Kd.N k35 35 ((((((((w83.setCell ⟨gb238, 0, none⟩ (.bool t222)).setCell ⟨gb238, 1, none⟩ (.bool t223)).setCell ⟨gb238, 2, none⟩ (.slice Ao87 t224.length co87)).setCell ⟨gb238, 3, none⟩ (.slice Ao88 t227.length co88)).setCell ⟨gb238, 4, none⟩ (.slice Ao89 t230.length co89)).setCell ⟨gb238, 5, none⟩ (.slice Ao90 t233.length co90)).setCell ⟨gb238, 6, none⟩ (.bool t236)).setCell ⟨gb238, 7, none⟩ (.bool t237)) w.heap.size (fun k_ => some k_ ≠ (.slice Ao73 t190.length co73 : Value).ownBlock ∧ some k_ ≠ (.slice Ao74 t193.length co74 : Value).ownBlock ∧ some k_ ≠ (.slice Ao75 t196.length co75 : Value).ownBlock ∧ some k_ ≠ (.slice Ao76 t199.length co76 : Value).ownBlock ∧ some k_ ≠ (.slice Ao78 t206.length co78 : Value).ownBlock ∧ some k_ ≠ (.slice Ao79 t209.length co79 : Value).ownBlock ∧ some k_ ≠ (.slice Ao80 t212.length co80 : Value).ownBlock ∧ some k_ ≠ (.slice Ao81 t215.length co81 : Value).ownBlock ∧ some k_ ≠ (.slice Ao87 t224.length co87 : Value).ownBlock ∧ some k_ ≠ (.slice Ao88 t227.length co88 : Value).ownBlock ∧ some k_ ≠ (.slice Ao89 t230.length co89 : Value).ownBlock ∧ k_ ≠ gb220 ∧ k_ ≠ gb221 ∧ k_ ≠ gb238) (.slice Ao90 t233.length co90) t233) := ⟨by exact Kd.N_mono (N_far8 (g := gb238) (Kd.N_mono HO235.out (fun k_ hk => (⟨hk, hk.2⟩ : _ ∧ k_ ≠ gb238))) (fun _ hk => hk.2) (.bool t222) (.bool t223) (.slice Ao87 t224.length co87) (.slice Ao88 t227.length co88) (.slice Ao89 t230.length co89) (.slice Ao90 t233.length co90) (.bool t236) (.bool t237)) (fun _ hk => ⟨hk.1.1.2.2.2.1, ⟨hk.1.1.2.2.2.2.1, ⟨hk.1.1.2.2.2.2.2.1, ⟨hk.1.1.2.2.2.2.2.2.1, ⟨hk.1.1.2.2.2.2.2.2.2.1, ⟨hk.1.1.2.2.2.2.2.2.2.2.1, ⟨hk.1.1.2.2.2.2.2.2.2.2.2.1, ⟨hk.1.1.2.2.2.2.2.2.2.2.2.2.1, ⟨hk.1.1.1, ⟨hk.1.1.2.1, ⟨hk.1.1.2.2.1, ⟨hk.1.1.2.2.2.2.2.2.2.2.2.2.2.1, ⟨hk.1.1.2.2.2.2.2.2.2.2.2.2.2.2, hk.1.2⟩⟩⟩⟩⟩⟩⟩⟩⟩⟩⟩⟩⟩)⟩
              have n12_ : Aside0 (((((((((w83.setCell ⟨gb238, 0, none⟩ (.bool t222)).setCell ⟨gb238, 1, none⟩ (.bool t223)).setCell ⟨gb238, 2, none⟩ (.slice Ao87 t224.length co87)).setCell ⟨gb238, 3, none⟩ (.slice Ao88 t227.length co88)).setCell ⟨gb238, 4, none⟩ (.slice Ao89 t230.length co89)).setCell ⟨gb238, 5, none⟩ (.slice Ao90 t233.length co90)).setCell ⟨gb238, 6, none⟩ (.bool t236)).setCell ⟨gb238, 7, none⟩ (.bool t237)).heap[gb220]? = some (.cells #[.bool t188, .bool t189, .slice Ao73 t190.length co73, .slice Ao74 t193.length co74, .slice Ao75 t196.length co75, .slice Ao76 t199.length co76, .bool t202, .bool t203] 25 (0, 0))) := ⟨by refine blk_far ?_ NB220_238.out _; refine blk_far ?_ NB220_238.out _; refine blk_far ?_ NB220_238.out _; refine blk_far ?_ NB220_238.out _; refine blk_far ?_ NB220_238.out _; refine blk_far ?_ NB220_238.out _; refine blk_far ?_ NB220_238.out _; refine blk_far ?_ NB220_238.out _; exact BK220.out⟩
              have n13_ : Aside0 (((((((((w83.setCell ⟨gb238, 0, none⟩ (.bool t222)).setCell ⟨gb238, 1, none⟩ (.bool t223)).setCell ⟨gb238, 2, none⟩ (.slice Ao87 t224.length co87)).setCell ⟨gb238, 3, none⟩ (.slice Ao88 t227.length co88)).setCell ⟨gb238, 4, none⟩ (.slice Ao89 t230.length co89)).setCell ⟨gb238, 5, none⟩ (.slice Ao90 t233.length co90)).setCell ⟨gb238, 6, none⟩ (.bool t236)).setCell ⟨gb238, 7, none⟩ (.bool t237)).heap[gb221]? = some (.cells #[.bool t204, .bool t205, .slice Ao78 t206.length co78, .slice Ao79 t209.length co79, .slice Ao80 t212.length co80, .slice Ao81 t215.length co81, .bool true, .bool t219] 25 (0, 0))) := ⟨by refine blk_far ?_ NB221_238.out _; refine blk_far ?_ NB221_238.out _; refine blk_far ?_ NB221_238.out _; refine blk_far ?_ NB221_238.out _; refine blk_far ?_ NB221_238.out _; refine blk_far ?_ NB221_238.out _; refine blk_far ?_ NB221_238.out _; refine blk_far ?_ NB221_238.out _; exact BK221.out⟩
              have n14_ : Aside0 (((((((((w83.setCell ⟨gb238, 0, none⟩ (.bool t222)).setCell ⟨gb238, 1, none⟩ (.bool t223)).setCell ⟨gb238, 2, none⟩ (.slice Ao87 t224.length co87)).setCell ⟨gb238, 3, none⟩ (.slice Ao88 t227.length co88)).setCell ⟨gb238, 4, none⟩ (.slice Ao89 t230.length co89)).setCell ⟨gb238, 5, none⟩ (.slice Ao90 t233.length co90)).setCell ⟨gb238, 6, none⟩ (.bool t236)).setCell ⟨gb238, 7, none⟩ (.bool t237)).heap[gb238]? = some (.cells #[.bool t222, .bool t223, .slice Ao87 t224.length co87, .slice Ao88 t227.length co88, .slice Ao89 t230.length co89, .slice Ao90 t233.length co90, .bool t236, .bool t237] 25 (0, 0))) := ⟨by refine blk_put (cs := #[.bool t222, .bool t223, .slice Ao87 t224.length co87, .slice Ao88 t227.length co88, .slice Ao89 t230.length co89, .slice Ao90 t233.length co90, .bool t236, .bool false]) ?_ 7 _ rfl; refine blk_put (cs := #[.bool t222, .bool t223, .slice Ao87 t224.length co87, .slice Ao88 t227.length co88, .slice Ao89 t230.length co89, .slice Ao90 t233.length co90, .bool false, .bool false]) ?_ 6 _ rfl; refine blk_put (cs := #[.bool t222, .bool t223, .slice Ao87 t224.length co87, .slice Ao88 t227.length co88, .slice Ao89 t230.length co89, .slice none 0 0, .bool false, .bool false]) ?_ 5 _ rfl; refine blk_put (cs := #[.bool t222, .bool t223, .slice Ao87 t224.length co87, .slice Ao88 t227.length co88, .slice none 0 0, .slice none 0 0, .bool false, .bool false]) ?_ 4 _ rfl; refine blk_put (cs := #[.bool t222, .bool t223, .slice Ao87 t224.length co87, .slice none 0 0, .slice none 0 0, .slice none 0 0, .bool false, .bool false]) ?_ 3 _ rfl; refine blk_put (cs := #[.bool t222, .bool t223, .slice none 0 0, .slice none 0 0, .slice none 0 0, .slice none 0 0, .bool false, .bool false]) ?_ 2 _ rfl; refine blk_put (cs := #[.bool t222, .bool false, .slice none 0 0, .slice none 0 0, .slice none 0 0, .slice none 0 0, .bool false, .bool false]) ?_ 1 _ rfl; refine blk_put (cs := #[.bool false, .bool false, .slice none 0 0, .slice none 0 0, .slice none 0 0, .slice none 0 0, .bool false, .bool false]) ?_ 0 _ rfl; exact BK238.out⟩
              have n15_ : Aside0 (Below w.heap.size w ((((((((w83.setCell ⟨gb238, 0, none⟩ (.bool t222)).setCell ⟨gb238, 1, none⟩ (.bool t223)).setCell ⟨gb238, 2, none⟩ (.slice Ao87 t224.length co87)).setCell ⟨gb238, 3, none⟩ (.slice Ao88 t227.length co88)).setCell ⟨gb238, 4, none⟩ (.slice Ao89 t230.length co89)).setCell ⟨gb238, 5, none⟩ (.slice Ao90 t233.length co90)).setCell ⟨gb238, 6, none⟩ (.bool t236)).setCell ⟨gb238, 7, none⟩ (.bool t237))) := ⟨by repeat (first | (with_reducible first | exact HB.out | apply below_alloc | apply pw_below_drewN | apply below_drew1 | refine below_set ?_ GE220.out | refine below_set ?_ GE221.out | refine below_set ?_ GE238.out) | exact HB.out)⟩
              (try clear HO192)
              (try clear HO195)
              (try clear HO198)
              (try clear HO201)
              (try clear HO208)
              (try clear HO211)
              (try clear HO214)
              (try clear HO217)
              (try clear HO226)
              (try clear HO229)
              (try clear HO232)
              (try clear HO235)
              (try clear BK220)
              (try clear BK221)
              (try clear BK238)
              (try clear HB)
              generalize ((((((((w83.setCell ⟨gb238, 0, none⟩ (.bool t222)).setCell ⟨gb238, 1, none⟩ (.bool t223)).setCell ⟨gb238, 2, none⟩ (.slice Ao87 t224.length co87)).setCell ⟨gb238, 3, none⟩ (.slice Ao88 t227.length co88)).setCell ⟨gb238, 4, none⟩ (.slice Ao89 t230.length co89)).setCell ⟨gb238, 5, none⟩ (.slice Ao90 t233.length co90)).setCell ⟨gb238, 6, none⟩ (.bool t236)).setCell ⟨gb238, 7, none⟩ (.bool t237)) = w91 at n0_ n1_ n2_ n3_ n4_ n5_ n6_ n7_ n8_ n9_ n10_ n11_ n12_ n13_ n14_ n15_ ⊢
              have HO192 := n0_
              have HO195 := n1_
              have HO198 := n2_
              have HO201 := n3_
              have HO208 := n4_
              have HO211 := n5_
              have HO214 := n6_
              have HO217 := n7_
              have HO226 := n8_
              have HO229 := n9_
              have HO232 := n10_
              have HO235 := n11_
              have BK220 := n12_
              have BK221 := n13_
              have BK238 := n14_
              have HB := n15_
              clear n0_ n1_ n2_ n3_ n4_ n5_ n6_ n7_ n8_ n9_ n10_ n11_ n12_ n13_ n14_ n15_
              have n0_ := Aside0.mk (Kd.R_drew HO192.out)
              have n1_ := Aside0.mk (Kd.R_drew HO195.out)
              have n2_ := Aside0.mk (Kd.R_drew HO198.out)
              have n3_ := Aside0.mk (Kd.N_drew HO201.out)
              have n4_ := Aside0.mk (Kd.R_drew HO208.out)
              have n5_ := Aside0.mk (Kd.R_drew HO211.out)
              have n6_ := Aside0.mk (Kd.R_drew HO214.out)
              have n7_ := Aside0.mk (Kd.N_drew HO217.out)
              have n8_ := Aside0.mk (Kd.R_drew HO226.out)
              have n9_ := Aside0.mk (Kd.R_drew HO229.out)
              have n10_ := Aside0.mk (Kd.R_drew HO232.out)
              have n11_ := Aside0.mk (Kd.N_drew HO235.out)
              have n12_ := Aside0.mk (blk_drew BK220.out)
              have n13_ := Aside0.mk (blk_drew BK221.out)
              have n14_ := Aside0.mk (blk_drew BK238.out)
              have n15_ := Aside0.mk (below_drew1 HB.out)
              clear HO192
              clear HO195
              clear HO198
              clear HO201
              clear HO208
              clear HO211
              clear HO214
              clear HO217
              clear HO226
              clear HO229
              clear HO232
              clear HO235
              clear BK220
              clear BK221
              clear BK238
              clear HB
              have HO192 := n0_
              have HO195 := n1_
              have HO198 := n2_
              have HO201 := n3_
              have HO208 := n4_
              have HO211 := n5_
              have HO214 := n6_
              have HO217 := n7_
              have HO226 := n8_
              have HO229 := n9_
              have HO232 := n10_
              have HO235 := n11_
              have BK220 := n12_
              have BK221 := n13_
              have BK238 := n14_
              have HB := n15_
              clear n0_ n1_ n2_ n3_ n4_ n5_ n6_ n7_ n8_ n9_ n10_ n11_ n12_ n13_ n14_ n15_
              refine start_ (n := 68) (S := fun w' => w'.cell? ⟨gb220, 0, none⟩ = some (.bool t188) ∧ w'.cell? ⟨gb220, 1, none⟩ = some (.bool t189) ∧ w'.cell? ⟨gb220, 2, none⟩ = some (.slice Ao73 t190.length co73) ∧ w'.cell? ⟨gb220, 3, none⟩ = some (.slice Ao74 t193.length co74) ∧ w'.cell? ⟨gb220, 4, none⟩ = some (.slice Ao75 t196.length co75) ∧ w'.cell? ⟨gb220, 5, none⟩ = some (.slice Ao76 t199.length co76) ∧ w'.cell? ⟨gb220, 6, none⟩ = some (.bool t202) ∧ w'.cell? ⟨gb220, 7, none⟩ = some (.bool t203) ∧ w'.cell? ⟨gb221, 0, none⟩ = some (.bool t204) ∧ w'.cell? ⟨gb221, 1, none⟩ = some (.bool t205) ∧ w'.cell? ⟨gb221, 2, none⟩ = some (.slice Ao78 t206.length co78) ∧ w'.cell? ⟨gb221, 3, none⟩ = some (.slice Ao79 t209.length co79) ∧ w'.cell? ⟨gb221, 4, none⟩ = some (.slice Ao80 t212.length co80) ∧ w'.cell? ⟨gb221, 5, none⟩ = some (.slice Ao81 t215.length co81) ∧ w'.cell? ⟨gb221, 6, none⟩ = some (.bool true) ∧ w'.cell? ⟨gb221, 7, none⟩ = some (.bool t219) ∧ w'.cell? ⟨gb238, 0, none⟩ = some (.bool t222) ∧ w'.cell? ⟨gb238, 1, none⟩ = some (.bool t223) ∧ w'.cell? ⟨gb238, 2, none⟩ = some (.slice Ao87 t224.length co87) ∧ w'.cell? ⟨gb238, 3, none⟩ = some (.slice Ao88 t227.length co88) ∧ w'.cell? ⟨gb238, 4, none⟩ = some (.slice Ao89 t230.length co89) ∧ w'.cell? ⟨gb238, 5, none⟩ = some (.slice Ao90 t233.length co90) ∧ w'.cell? ⟨gb238, 6, none⟩ = some (.bool t236) ∧ w'.cell? ⟨gb238, 7, none⟩ = some (.bool t237)) (ds := []) (tf 0 68) (by kernel_rfl) rfl rfl ⟨(blk_cell BK220.out 0).trans rfl, (blk_cell BK220.out 1).trans rfl, (blk_cell BK220.out 2).trans rfl, (blk_cell BK220.out 3).trans rfl, (blk_cell BK220.out 4).trans rfl, (blk_cell BK220.out 5).trans rfl, (blk_cell BK220.out 6).trans rfl, (blk_cell BK220.out 7).trans rfl, (blk_cell BK221.out 0).trans rfl, (blk_cell BK221.out 1).trans rfl, (blk_cell BK221.out 2).trans rfl, (blk_cell BK221.out 3).trans rfl, (blk_cell BK221.out 4).trans rfl, (blk_cell BK221.out 5).trans rfl, (blk_cell BK221.out 6).trans rfl, (blk_cell BK221.out 7).trans rfl, (blk_cell BK238.out 0).trans rfl, (blk_cell BK238.out 1).trans rfl, (blk_cell BK238.out 2).trans rfl, (blk_cell BK238.out 3).trans rfl, (blk_cell BK238.out 4).trans rfl, (blk_cell BK238.out 5).trans rfl, (blk_cell BK238.out 6).trans rfl, (blk_cell BK238.out 7).trans rfl⟩ (fun hHeld => ?_); refine with_tabW boltinglaw12_fixedK.tab3 boltinglaw12_fixedK.bits3 (fun HT_ HW_ => ?_)
              generalize w91.drew = w92 at HO192 HO195 HO198 HO201 HO208 HO211 HO214 HO217 HO226 HO229 HO232 HO235 BK220 BK221 BK238 HB hHeld ⊢
              refine take_ (i := 0) (N := some 8) (v := ?_) (a' := ?_) (tf 1 67) rfl rfl (take_ofW HT_.out HW_.out (by kernel_rfl)) (fun _ _ _ h => h) (Or.inl ⟨by rfl, ?_⟩) hHeld ?_ ?_
              rotate_left
              ·rintro w' ⟨s0, s1, s2, s3, s4, s5, s6, s7, s8, s9, s10, s11, s12, s13, s14, s15, s16, s17, s18, s19, s20, s21, s22, s23⟩
               go_simp
               with_reducible rfl
              rotate_left
              ·simp only [Act.put, List.setIfInBounds_toArray, List.set_cons_zero, List.set_cons_succ, i64_w, i32_w]
               rfl
              refine one_ (i := 1) (N := some 9) (tf 2 66) rfl rfl (one_of HT_.out (by kernel_rfl)) (by decide) (fun K hK => ?_)
              refine goes_ Try.func30 (by kernel_rfl) rfl #[] (by rfl) rfl rfl (by (try simp only [List.map_toArray, List.map_cons, List.map_nil]); first | done | rfl | (simp only [List.length_drop, List.length_take]; rfl)) ?_
              with_reducible refine (boltingref12_Plain.calls  t239 t240 t241 t244 t247 t250 t253 t254 _ A4.out).mono ?_
              rintro e w93 ⟨v242, v245, v248, v251, rfl, ho0, ho1, ho2, ho3, hb⟩
              refine ⟨_, rfl, ?_⟩
              have n0_ := Aside0.mk (Kd.R_mono (Kd.R_told (Kd.R_told (Kd.R_told (Kd.R_old (by exact HO192.out) hb) (Kd.R_base ho0)) (Kd.R_base ho1)) (Kd.R_base ho2)) (fun _ h_ => h_.1))
              have n1_ := Aside0.mk (Kd.R_mono (Kd.R_told (Kd.R_told (Kd.R_told (Kd.R_old (by exact HO195.out) hb) (Kd.R_base ho0)) (Kd.R_base ho1)) (Kd.R_base ho2)) (fun _ h_ => h_.1))
              have n2_ := Aside0.mk (Kd.R_mono (Kd.R_told (Kd.R_told (Kd.R_told (Kd.R_old (by exact HO198.out) hb) (Kd.R_base ho0)) (Kd.R_base ho1)) (Kd.R_base ho2)) (fun _ h_ => h_.1))
              have n3_ := Aside0.mk (Kd.N_mono (Kd.N_told (Kd.N_told (Kd.N_told (Kd.N_told (Kd.N_old (by exact HO201.out) hb) (Kd.R_base ho0)) (Kd.R_base ho1)) (Kd.R_base ho2)) (Kd.N_base ho3)) (fun _ h_ => h_.1))
              have n4_ := Aside0.mk (Kd.R_mono (Kd.R_told (Kd.R_told (Kd.R_told (Kd.R_old (by exact HO208.out) hb) (Kd.R_base ho0)) (Kd.R_base ho1)) (Kd.R_base ho2)) (fun _ h_ => h_.1))
              have n5_ := Aside0.mk (Kd.R_mono (Kd.R_told (Kd.R_told (Kd.R_told (Kd.R_old (by exact HO211.out) hb) (Kd.R_base ho0)) (Kd.R_base ho1)) (Kd.R_base ho2)) (fun _ h_ => h_.1))
              have n6_ := Aside0.mk (Kd.R_mono (Kd.R_told (Kd.R_told (Kd.R_told (Kd.R_old (by exact HO214.out) hb) (Kd.R_base ho0)) (Kd.R_base ho1)) (Kd.R_base ho2)) (fun _ h_ => h_.1))
              have n7_ := Aside0.mk (Kd.N_mono (Kd.N_told (Kd.N_told (Kd.N_told (Kd.N_told (Kd.N_old (by exact HO217.out) hb) (Kd.R_base ho0)) (Kd.R_base ho1)) (Kd.R_base ho2)) (Kd.N_base ho3)) (fun _ h_ => h_.1))
              have n8_ := Aside0.mk (Kd.R_mono (Kd.R_told (Kd.R_told (Kd.R_told (Kd.R_old (by exact HO226.out) hb) (Kd.R_base ho0)) (Kd.R_base ho1)) (Kd.R_base ho2)) (fun _ h_ => h_.1))
              have n9_ := Aside0.mk (Kd.R_mono (Kd.R_told (Kd.R_told (Kd.R_told (Kd.R_old (by exact HO229.out) hb) (Kd.R_base ho0)) (Kd.R_base ho1)) (Kd.R_base ho2)) (fun _ h_ => h_.1))
              have n10_ := Aside0.mk (Kd.R_mono (Kd.R_told (Kd.R_told (Kd.R_told (Kd.R_old (by exact HO232.out) hb) (Kd.R_base ho0)) (Kd.R_base ho1)) (Kd.R_base ho2)) (fun _ h_ => h_.1))
              have n11_ := Aside0.mk (Kd.N_mono (Kd.N_told (Kd.N_told (Kd.N_told (Kd.N_told (Kd.N_old (by exact HO235.out) hb) (Kd.R_base ho0)) (Kd.R_base ho1)) (Kd.R_base ho2)) (Kd.N_base ho3)) (fun _ h_ => h_.1))
              have n12_ := Aside0.mk (Kd.R_lower (Kd.R_new' (Kd.R_new' (Kd.R_new' (Kd.R_new' (Kd.R_new' (Kd.R_new' (Kd.R_new' (Kd.R_new' (Kd.R_new' (Kd.R_mono (ok' := fun k_ => some k_ ≠ (v245 : Value).ownBlock ∧ some k_ ≠ (v248 : Value).ownBlock) ho0 (fun _ hk_ => hk_.2)) (Kd.R_lt (by exact HO192.out))) (Kd.R_lt (by exact HO195.out))) (Kd.R_lt (by exact HO198.out))) (Kd.R_lt (by exact HO208.out))) (Kd.R_lt (by exact HO211.out))) (Kd.R_lt (by exact HO214.out))) (Kd.R_lt (by exact HO226.out))) (Kd.R_lt (by exact HO229.out))) (Kd.R_lt (by exact HO232.out))) (below_size (by repeat (first | (with_reducible first | exact HB.out | apply below_alloc | apply pw_below_drewN | apply below_drew1 | refine below_set ?_ GE220.out | refine below_set ?_ GE221.out | refine below_set ?_ GE238.out) | exact HB.out))))
              have n13_ := Aside0.mk (Kd.R_lower (Kd.R_new' (Kd.R_new' (Kd.R_new' (Kd.R_new' (Kd.R_new' (Kd.R_new' (Kd.R_new' (Kd.R_new' (Kd.R_new' (Kd.R_mono (ok' := fun k_ => some k_ ≠ (v242 : Value).ownBlock ∧ some k_ ≠ (v248 : Value).ownBlock) ho1 (fun _ hk_ => hk_.2)) (Kd.R_lt (by exact HO192.out))) (Kd.R_lt (by exact HO195.out))) (Kd.R_lt (by exact HO198.out))) (Kd.R_lt (by exact HO208.out))) (Kd.R_lt (by exact HO211.out))) (Kd.R_lt (by exact HO214.out))) (Kd.R_lt (by exact HO226.out))) (Kd.R_lt (by exact HO229.out))) (Kd.R_lt (by exact HO232.out))) (below_size (by repeat (first | (with_reducible first | exact HB.out | apply below_alloc | apply pw_below_drewN | apply below_drew1 | refine below_set ?_ GE220.out | refine below_set ?_ GE221.out | refine below_set ?_ GE238.out) | exact HB.out))))
              have n14_ := Aside0.mk (Kd.R_lower (Kd.R_new' (Kd.R_new' (Kd.R_new' (Kd.R_new' (Kd.R_new' (Kd.R_new' (Kd.R_new' (Kd.R_new' (Kd.R_new' (Kd.R_mono (ok' := fun k_ => some k_ ≠ (v242 : Value).ownBlock ∧ some k_ ≠ (v245 : Value).ownBlock) ho2 (fun _ hk_ => hk_.2)) (Kd.R_lt (by exact HO192.out))) (Kd.R_lt (by exact HO195.out))) (Kd.R_lt (by exact HO198.out))) (Kd.R_lt (by exact HO208.out))) (Kd.R_lt (by exact HO211.out))) (Kd.R_lt (by exact HO214.out))) (Kd.R_lt (by exact HO226.out))) (Kd.R_lt (by exact HO229.out))) (Kd.R_lt (by exact HO232.out))) (below_size (by repeat (first | (with_reducible first | exact HB.out | apply below_alloc | apply pw_below_drewN | apply below_drew1 | refine below_set ?_ GE220.out | refine below_set ?_ GE221.out | refine below_set ?_ GE238.out) | exact HB.out))))
              have n15_ := Aside0.mk (Kd.N_lower (Kd.N_mono (ok' := fun k_ => some k_ ≠ (v242 : Value).ownBlock ∧ some k_ ≠ (v245 : Value).ownBlock ∧ some k_ ≠ (v248 : Value).ownBlock ∧ some k_ ≠ (.slice Ao73 t190.length co73 : Value).ownBlock ∧ some k_ ≠ (.slice Ao74 t193.length co74 : Value).ownBlock ∧ some k_ ≠ (.slice Ao75 t196.length co75 : Value).ownBlock ∧ some k_ ≠ (.slice Ao76 t199.length co76 : Value).ownBlock ∧ some k_ ≠ (.slice Ao78 t206.length co78 : Value).ownBlock ∧ some k_ ≠ (.slice Ao79 t209.length co79 : Value).ownBlock ∧ some k_ ≠ (.slice Ao80 t212.length co80 : Value).ownBlock ∧ some k_ ≠ (.slice Ao81 t215.length co81 : Value).ownBlock ∧ some k_ ≠ (.slice Ao87 t224.length co87 : Value).ownBlock ∧ some k_ ≠ (.slice Ao88 t227.length co88 : Value).ownBlock ∧ some k_ ≠ (.slice Ao89 t230.length co89 : Value).ownBlock ∧ some k_ ≠ (.slice Ao90 t233.length co90 : Value).ownBlock ∧ k_ ≠ gb220 ∧ k_ ≠ gb221 ∧ k_ ≠ gb238) ho3 (fun k_ hk_ => ⟨hk_.2.1, hk_.2.2.1, hk_.2.2.2, (Kd.fresh' (Kd.R_lt (by exact HO192.out)) k_ hk_.1), (Kd.fresh' (Kd.R_lt (by exact HO195.out)) k_ hk_.1), (Kd.fresh' (Kd.R_lt (by exact HO198.out)) k_ hk_.1), (Kd.fresh' (Kd.N_lt (by exact HO201.out)) k_ hk_.1), (Kd.fresh' (Kd.R_lt (by exact HO208.out)) k_ hk_.1), (Kd.fresh' (Kd.R_lt (by exact HO211.out)) k_ hk_.1), (Kd.fresh' (Kd.R_lt (by exact HO214.out)) k_ hk_.1), (Kd.fresh' (Kd.N_lt (by exact HO217.out)) k_ hk_.1), (Kd.fresh' (Kd.R_lt (by exact HO226.out)) k_ hk_.1), (Kd.fresh' (Kd.R_lt (by exact HO229.out)) k_ hk_.1), (Kd.fresh' (Kd.R_lt (by exact HO232.out)) k_ hk_.1), (Kd.fresh' (Kd.N_lt (by exact HO235.out)) k_ hk_.1), (Kd.freshB (g := gb220) (o := .cells #[.bool t188, .bool t189, .slice Ao73 t190.length co73, .slice Ao74 t193.length co74, .slice Ao75 t196.length co75, .slice Ao76 t199.length co76, .bool t202, .bool t203] 25 (0, 0)) (by exact BK220.out) k_ hk_.1), (Kd.freshB (g := gb221) (o := .cells #[.bool t204, .bool t205, .slice Ao78 t206.length co78, .slice Ao79 t209.length co79, .slice Ao80 t212.length co80, .slice Ao81 t215.length co81, .bool true, .bool t219] 25 (0, 0)) (by exact BK221.out) k_ hk_.1), (Kd.freshB (g := gb238) (o := .cells #[.bool t222, .bool t223, .slice Ao87 t224.length co87, .slice Ao88 t227.length co88, .slice Ao89 t230.length co89, .slice Ao90 t233.length co90, .bool t236, .bool t237] 25 (0, 0)) (by exact BK238.out) k_ hk_.1)⟩)) (below_size (by repeat (first | (with_reducible first | exact HB.out | apply below_alloc | apply pw_below_drewN | apply below_drew1 | refine below_set ?_ GE220.out | refine below_set ?_ GE221.out | refine below_set ?_ GE238.out) | exact HB.out))))
              have n16_ := Aside0.mk (blk_below (g := gb220) (o := .cells #[.bool t188, .bool t189, .slice Ao73 t190.length co73, .slice Ao74 t193.length co74, .slice Ao75 t196.length co75, .slice Ao76 t199.length co76, .bool t202, .bool t203] 25 (0, 0)) (by exact BK220.out) hb)
              have n17_ := Aside0.mk (blk_below (g := gb221) (o := .cells #[.bool t204, .bool t205, .slice Ao78 t206.length co78, .slice Ao79 t209.length co79, .slice Ao80 t212.length co80, .slice Ao81 t215.length co81, .bool true, .bool t219] 25 (0, 0)) (by exact BK221.out) hb)
              have n18_ := Aside0.mk (blk_below (g := gb238) (o := .cells #[.bool t222, .bool t223, .slice Ao87 t224.length co87, .slice Ao88 t227.length co88, .slice Ao89 t230.length co89, .slice Ao90 t233.length co90, .bool t236, .bool t237] 25 (0, 0)) (by exact BK238.out) hb)
              have n19_ := Aside0.mk (below_step (by repeat (first | (with_reducible first | exact HB.out | apply below_alloc | apply pw_below_drewN | apply below_drew1 | refine below_set ?_ GE220.out | refine below_set ?_ GE221.out | refine below_set ?_ GE238.out) | exact HB.out)) hb)
              clear HO192
              clear HO195
              clear HO198
              clear HO201
              clear HO208
              clear HO211
              clear HO214
              clear HO217
              clear HO226
              clear HO229
              clear HO232
              clear HO235
              clear BK220
              clear BK221
              clear BK238
              clear HB
              have HO192 := n0_
              have HO195 := n1_
              have HO198 := n2_
              have HO201 := n3_
              have HO208 := n4_
              have HO211 := n5_
              have HO214 := n6_
              have HO217 := n7_
              have HO226 := n8_
              have HO229 := n9_
              have HO232 := n10_
              have HO235 := n11_
              have HO243 := n12_
              have HO246 := n13_
              have HO249 := n14_
              have HO252 := n15_
              have BK220 := n16_
              have BK221 := n17_
              have BK238 := n18_
              have HB := n19_
              clear n0_ n1_ n2_ n3_ n4_ n5_ n6_ n7_ n8_ n9_ n10_ n11_ n12_ n13_ n14_ n15_ n16_ n17_ n18_ n19_
              (try clear hb)
              (try clear hb2)
              (try clear hk)
              (try clear hi)
              (try clear ho0)
              (try clear ho1)
              (try clear ho2)
              (try clear ho3)
              obtain ⟨Ao94, co94, eo94⟩ := Kd.R_slice HO243.out
              (first | subst eo94 | (injection eo94 with f1_ f2_ f3_; have f4_ := f1_.symm; have f5_ := f3_.symm; clear f1_ f2_ f3_; subst f4_; subst f5_))
              obtain ⟨Ao95, co95, eo95⟩ := Kd.R_slice HO246.out
              (first | subst eo95 | (injection eo95 with f1_ f2_ f3_; have f4_ := f1_.symm; have f5_ := f3_.symm; clear f1_ f2_ f3_; subst f4_; subst f5_))
              obtain ⟨Ao96, co96, eo96⟩ := Kd.R_slice HO249.out
              (first | subst eo96 | (injection eo96 with f1_ f2_ f3_; have f4_ := f1_.symm; have f5_ := f3_.symm; clear f1_ f2_ f3_; subst f4_; subst f5_))
              obtain ⟨Ao97, co97, eo97⟩ := Kd.N_slice HO252.out
              (first | subst eo97 | (injection eo97 with f1_ f2_ f3_; have f4_ := f1_.symm; have f5_ := f3_.symm; clear f1_ f2_ f3_; subst f4_; subst f5_))
              refine hK.out _ _ ⟨(blk_cell BK220.out 0).trans rfl, (blk_cell BK220.out 1).trans rfl, (blk_cell BK220.out 2).trans rfl, (blk_cell BK220.out 3).trans rfl, (blk_cell BK220.out 4).trans rfl, (blk_cell BK220.out 5).trans rfl, (blk_cell BK220.out 6).trans rfl, (blk_cell BK220.out 7).trans rfl, (blk_cell BK221.out 0).trans rfl, (blk_cell BK221.out 1).trans rfl, (blk_cell BK221.out 2).trans rfl, (blk_cell BK221.out 3).trans rfl, (blk_cell BK221.out 4).trans rfl, (blk_cell BK221.out 5).trans rfl, (blk_cell BK221.out 6).trans rfl, (blk_cell BK221.out 7).trans rfl, (blk_cell BK238.out 0).trans rfl, (blk_cell BK238.out 1).trans rfl, (blk_cell BK238.out 2).trans rfl, (blk_cell BK238.out 3).trans rfl, (blk_cell BK238.out 4).trans rfl, (blk_cell BK238.out 5).trans rfl, (blk_cell BK238.out 6).trans rfl, (blk_cell BK238.out 7).trans rfl⟩ (fun hHeld => ?_)
              clear hK K
              refine norm_ (a' := ?_) ?_ ?_
              rotate_left
              ·show Act.put _ (some 9) _ = _
               simp only [Act.put, List.setIfInBounds_toArray, List.set_cons_zero, List.set_cons_succ, i64_w, i32_w]
               rfl
              refine one_ (i := 2) (N := some 10) (tf 3 65) rfl rfl (one_of HT_.out (by kernel_rfl)) (by decide) (fun K hK => ?_)
              refine goes_ Try.func24 (by kernel_rfl) rfl #[.agg #[.bool t188, .bool t189, .slice Ao73 t190.length co73, .slice Ao74 t193.length co74, .slice Ao75 t196.length co75, .slice Ao76 t199.length co76, .bool t202, .bool t203], .agg #[.bool t239, .bool t240, .slice Ao94 t241.length co94, .slice Ao95 t244.length co95, .slice Ao96 t247.length co96, .slice Ao97 t250.length co97, .bool t253, .bool t254]] (by rfl) rfl rfl (by (try simp only [List.map_toArray, List.map_cons, List.map_nil]); first | done | rfl | (simp only [List.length_drop, List.length_take]; rfl)) ?_
              with_reducible refine (boltingref12_Same.calls k t188 t189 _ _ t190 _ _ t193 _ _ t196 _ _ t199 t202 t203 t239 t240 _ _ t241 _ _ t244 _ _ t247 _ _ t250 t253 t254 true _ ?side1 ?side2 ?side3 ?side4 ?side5 ?side6 ?side7 ?side8 ?side9 ?side10 ?side11 ?side12 ?side13 ?side14 ?side15 ?side16 A5.out).mono ?_
              (case side1 => repeat (first | exact (Kd.R_reads' HO192.out).2.2 | (with_reducible refine Kd.C_alloc ?_ _) | (with_reducible refine Kd.C_drewN ?_ _) | (with_reducible refine Kd.C_drew ?_)))
              (case side2 => exact (Kd.R_reads' HO192.out).2.1)
              (case side3 => repeat (first | exact (Kd.R_reads' HO195.out).2.2 | (with_reducible refine Kd.C_alloc ?_ _) | (with_reducible refine Kd.C_drewN ?_ _) | (with_reducible refine Kd.C_drew ?_)))
              (case side4 => exact (Kd.R_reads' HO195.out).2.1)
              (case side5 => repeat (first | exact (Kd.R_reads' HO198.out).2.2 | (with_reducible refine Kd.C_alloc ?_ _) | (with_reducible refine Kd.C_drewN ?_ _) | (with_reducible refine Kd.C_drew ?_)))
              (case side6 => exact (Kd.R_reads' HO198.out).2.1)
              (case side7 => repeat (first | exact (Kd.N_reads' HO201.out).2.2 | (with_reducible refine Kd.C_alloc ?_ _) | (with_reducible refine Kd.C_drewN ?_ _) | (with_reducible refine Kd.C_drew ?_)))
              (case side8 => exact (Kd.N_reads' HO201.out).2.1)
              (case side9 => repeat (first | exact (Kd.R_reads' HO243.out).2.2 | (with_reducible refine Kd.C_alloc ?_ _) | (with_reducible refine Kd.C_drewN ?_ _) | (with_reducible refine Kd.C_drew ?_)))
              (case side10 => exact (Kd.R_reads' HO243.out).2.1)
              (case side11 => repeat (first | exact (Kd.R_reads' HO246.out).2.2 | (with_reducible refine Kd.C_alloc ?_ _) | (with_reducible refine Kd.C_drewN ?_ _) | (with_reducible refine Kd.C_drew ?_)))
              (case side12 => exact (Kd.R_reads' HO246.out).2.1)
              (case side13 => repeat (first | exact (Kd.R_reads' HO249.out).2.2 | (with_reducible refine Kd.C_alloc ?_ _) | (with_reducible refine Kd.C_drewN ?_ _) | (with_reducible refine Kd.C_drew ?_)))
              (case side14 => exact (Kd.R_reads' HO249.out).2.1)
              (case side15 => repeat (first | exact (Kd.N_reads' HO252.out).2.2 | (with_reducible refine Kd.C_alloc ?_ _) | (with_reducible refine Kd.C_drewN ?_ _) | (with_reducible refine Kd.C_drew ?_)))
              (case side16 => exact (Kd.N_reads' HO252.out).2.1)
              rintro e w98 ⟨rfl, hb⟩
              refine ⟨_, rfl, ?_⟩
              have n0_ := Aside0.mk (Kd.R_below (by exact HO192.out) hb)
              have n1_ := Aside0.mk (Kd.R_below (by exact HO195.out) hb)
              have n2_ := Aside0.mk (Kd.R_below (by exact HO198.out) hb)
              have n3_ := Aside0.mk (Kd.N_below (by exact HO201.out) hb)
              have n4_ := Aside0.mk (Kd.R_below (by exact HO208.out) hb)
              have n5_ := Aside0.mk (Kd.R_below (by exact HO211.out) hb)
              have n6_ := Aside0.mk (Kd.R_below (by exact HO214.out) hb)
              have n7_ := Aside0.mk (Kd.N_below (by exact HO217.out) hb)
              have n8_ := Aside0.mk (Kd.R_below (by exact HO226.out) hb)
              have n9_ := Aside0.mk (Kd.R_below (by exact HO229.out) hb)
              have n10_ := Aside0.mk (Kd.R_below (by exact HO232.out) hb)
              have n11_ := Aside0.mk (Kd.N_below (by exact HO235.out) hb)
              have n12_ := Aside0.mk (Kd.R_below (by exact HO243.out) hb)
              have n13_ := Aside0.mk (Kd.R_below (by exact HO246.out) hb)
              have n14_ := Aside0.mk (Kd.R_below (by exact HO249.out) hb)
              have n15_ := Aside0.mk (Kd.N_below (by exact HO252.out) hb)
              have n16_ := Aside0.mk (blk_below (g := gb220) (o := .cells #[.bool t188, .bool t189, .slice Ao73 t190.length co73, .slice Ao74 t193.length co74, .slice Ao75 t196.length co75, .slice Ao76 t199.length co76, .bool t202, .bool t203] 25 (0, 0)) (by exact BK220.out) hb)
              have n17_ := Aside0.mk (blk_below (g := gb221) (o := .cells #[.bool t204, .bool t205, .slice Ao78 t206.length co78, .slice Ao79 t209.length co79, .slice Ao80 t212.length co80, .slice Ao81 t215.length co81, .bool true, .bool t219] 25 (0, 0)) (by exact BK221.out) hb)
              have n18_ := Aside0.mk (blk_below (g := gb238) (o := .cells #[.bool t222, .bool t223, .slice Ao87 t224.length co87, .slice Ao88 t227.length co88, .slice Ao89 t230.length co89, .slice Ao90 t233.length co90, .bool t236, .bool t237] 25 (0, 0)) (by exact BK238.out) hb)
              have n19_ := Aside0.mk (below_step (by repeat (first | (with_reducible first | exact HB.out | apply below_alloc | apply pw_below_drewN | apply below_drew1 | refine below_set ?_ GE220.out | refine below_set ?_ GE221.out | refine below_set ?_ GE238.out) | exact HB.out)) hb)
              clear HO192
              clear HO195
              clear HO198
              clear HO201
              clear HO208
              clear HO211
              clear HO214
              clear HO217
              clear HO226
              clear HO229
              clear HO232
              clear HO235
              clear HO243
              clear HO246
              clear HO249
              clear HO252
              clear BK220
              clear BK221
              clear BK238
              clear HB
              have HO192 := n0_
              have HO195 := n1_
              have HO198 := n2_
              have HO201 := n3_
              have HO208 := n4_
              have HO211 := n5_
              have HO214 := n6_
              have HO217 := n7_
              have HO226 := n8_
              have HO229 := n9_
              have HO232 := n10_
              have HO235 := n11_
              have HO243 := n12_
              have HO246 := n13_
              have HO249 := n14_
              have HO252 := n15_
              have BK220 := n16_
              have BK221 := n17_
              have BK238 := n18_
              have HB := n19_
              clear n0_ n1_ n2_ n3_ n4_ n5_ n6_ n7_ n8_ n9_ n10_ n11_ n12_ n13_ n14_ n15_ n16_ n17_ n18_ n19_
              (try clear hb)
              (try clear hb2)
              (try clear hk)
              (try clear hi)
              refine hK.out _ _ ⟨(blk_cell BK220.out 0).trans rfl, (blk_cell BK220.out 1).trans rfl, (blk_cell BK220.out 2).trans rfl, (blk_cell BK220.out 3).trans rfl, (blk_cell BK220.out 4).trans rfl, (blk_cell BK220.out 5).trans rfl, (blk_cell BK220.out 6).trans rfl, (blk_cell BK220.out 7).trans rfl, (blk_cell BK221.out 0).trans rfl, (blk_cell BK221.out 1).trans rfl, (blk_cell BK221.out 2).trans rfl, (blk_cell BK221.out 3).trans rfl, (blk_cell BK221.out 4).trans rfl, (blk_cell BK221.out 5).trans rfl, (blk_cell BK221.out 6).trans rfl, (blk_cell BK221.out 7).trans rfl, (blk_cell BK238.out 0).trans rfl, (blk_cell BK238.out 1).trans rfl, (blk_cell BK238.out 2).trans rfl, (blk_cell BK238.out 3).trans rfl, (blk_cell BK238.out 4).trans rfl, (blk_cell BK238.out 5).trans rfl, (blk_cell BK238.out 6).trans rfl, (blk_cell BK238.out 7).trans rfl⟩ (fun hHeld => ?_)
              clear hK K
              refine norm_ (a' := ?_) ?_ ?_
              rotate_left
              ·show Act.put _ (some 10) _ = _
               simp only [Act.put, List.setIfInBounds_toArray, List.set_cons_zero, List.set_cons_succ, i64_w, i32_w]
               rfl
              refine pure_ (i := 3) (N := some 11) (v := ?_) (a' := ?_) (tf 4 64) rfl rfl (any_of HT_.out (by kernel_rfl)) (fun _ _ _ h => h) (Or.inl ⟨by rfl, ?_⟩) ?_ ?_
              rotate_left
              ·intro w'
               go_simp
               with_reducible rfl
              rotate_left
              ·simp only [Act.put, List.setIfInBounds_toArray, List.set_cons_zero, List.set_cons_succ, i64_w, i32_w]
               rfl
              refine take_ (i := 4) (N := some 12) (v := ?_) (a' := ?_) (tf 5 63) rfl rfl (take_ofW HT_.out HW_.out (by kernel_rfl)) (fun _ _ _ h => h) (Or.inl ⟨by rfl, ?_⟩) hHeld ?_ ?_
              rotate_left
              ·rintro w' ⟨s0, s1, s2, s3, s4, s5, s6, s7, s8, s9, s10, s11, s12, s13, s14, s15, s16, s17, s18, s19, s20, s21, s22, s23⟩
               go_simp
               with_reducible rfl
              rotate_left
              ·simp only [Act.put, List.setIfInBounds_toArray, List.set_cons_zero, List.set_cons_succ, i64_w, i32_w]
               rfl
              refine one_ (i := 5) (N := some 13) (tf 6 62) rfl rfl (one_of HT_.out (by kernel_rfl)) (by decide) (fun K hK => ?_)
              refine goes_ Try.func13 (by kernel_rfl) rfl #[.agg #[.bool t188, .bool t189, .slice Ao73 t190.length co73, .slice Ao74 t193.length co74, .slice Ao75 t196.length co75, .slice Ao76 t199.length co76, .bool t202, .bool t203], .string (⟨#[98]⟩ : ByteArray)] (by rfl) rfl rfl (by (try simp only [List.map_toArray, List.map_cons, List.map_nil]); first | done | rfl | (simp only [List.length_drop, List.length_take]; rfl)) ?_
              with_reducible refine (config_Element.calls k t188 t189 _ _ t190 _ _ t193 _ _ t196 _ _ t199 t202 t203 (⟨#[98]⟩ : ByteArray) t256 _ ?side1 ?side2 ?side3 ?side4 ?side5 ?side6 ?side7 ?side8 A7.out).mono ?_
              (case side1 => repeat (first | exact (Kd.R_reads' HO192.out).2.2 | (with_reducible refine Kd.C_alloc ?_ _) | (with_reducible refine Kd.C_drewN ?_ _) | (with_reducible refine Kd.C_drew ?_)))
              (case side2 => exact (Kd.R_reads' HO192.out).2.1)
              (case side3 => repeat (first | exact (Kd.R_reads' HO195.out).2.2 | (with_reducible refine Kd.C_alloc ?_ _) | (with_reducible refine Kd.C_drewN ?_ _) | (with_reducible refine Kd.C_drew ?_)))
              (case side4 => exact (Kd.R_reads' HO195.out).2.1)
              (case side5 => repeat (first | exact (Kd.R_reads' HO198.out).2.2 | (with_reducible refine Kd.C_alloc ?_ _) | (with_reducible refine Kd.C_drewN ?_ _) | (with_reducible refine Kd.C_drew ?_)))
              (case side6 => exact (Kd.R_reads' HO198.out).2.1)
              (case side7 => repeat (first | exact (Kd.N_reads' HO201.out).2.2 | (with_reducible refine Kd.C_alloc ?_ _) | (with_reducible refine Kd.C_drewN ?_ _) | (with_reducible refine Kd.C_drew ?_)))
              (case side8 => exact (Kd.N_reads' HO201.out).2.1)
              rintro e w99 ⟨rfl, hb⟩
              refine ⟨_, rfl, ?_⟩
              have n0_ := Aside0.mk (Kd.R_below (by exact HO192.out) hb)
              have n1_ := Aside0.mk (Kd.R_below (by exact HO195.out) hb)
              have n2_ := Aside0.mk (Kd.R_below (by exact HO198.out) hb)
              have n3_ := Aside0.mk (Kd.N_below (by exact HO201.out) hb)
              have n4_ := Aside0.mk (Kd.R_below (by exact HO208.out) hb)
              have n5_ := Aside0.mk (Kd.R_below (by exact HO211.out) hb)
              have n6_ := Aside0.mk (Kd.R_below (by exact HO214.out) hb)
              have n7_ := Aside0.mk (Kd.N_below (by exact HO217.out) hb)
              have n8_ := Aside0.mk (Kd.R_below (by exact HO226.out) hb)
              have n9_ := Aside0.mk (Kd.R_below (by exact HO229.out) hb)
              have n10_ := Aside0.mk (Kd.R_below (by exact HO232.out) hb)
              have n11_ := Aside0.mk (Kd.N_below (by exact HO235.out) hb)
              have n12_ := Aside0.mk (Kd.R_below (by exact HO243.out) hb)
              have n13_ := Aside0.mk (Kd.R_below (by exact HO246.out) hb)
              have n14_ := Aside0.mk (Kd.R_below (by exact HO249.out) hb)
              have n15_ := Aside0.mk (Kd.N_below (by exact HO252.out) hb)
              have n16_ := Aside0.mk (blk_below (g := gb220) (o := .cells #[.bool t188, .bool t189, .slice Ao73 t190.length co73, .slice Ao74 t193.length co74, .slice Ao75 t196.length co75, .slice Ao76 t199.length co76, .bool t202, .bool t203] 25 (0, 0)) (by exact BK220.out) hb)
              have n17_ := Aside0.mk (blk_below (g := gb221) (o := .cells #[.bool t204, .bool t205, .slice Ao78 t206.length co78, .slice Ao79 t209.length co79, .slice Ao80 t212.length co80, .slice Ao81 t215.length co81, .bool true, .bool t219] 25 (0, 0)) (by exact BK221.out) hb)
              have n18_ := Aside0.mk (blk_below (g := gb238) (o := .cells #[.bool t222, .bool t223, .slice Ao87 t224.length co87, .slice Ao88 t227.length co88, .slice Ao89 t230.length co89, .slice Ao90 t233.length co90, .bool t236, .bool t237] 25 (0, 0)) (by exact BK238.out) hb)
              have n19_ := Aside0.mk (below_step (by repeat (first | (with_reducible first | exact HB.out | apply below_alloc | apply pw_below_drewN | apply below_drew1 | refine below_set ?_ GE220.out | refine below_set ?_ GE221.out | refine below_set ?_ GE238.out) | exact HB.out)) hb)
              clear HO192
              clear HO195
              clear HO198
              clear HO201
              clear HO208
              clear HO211
              clear HO214
              clear HO217
              clear HO226
              clear HO229
              clear HO232
              clear HO235
              clear HO243
              clear HO246
              clear HO249
              clear HO252
              clear BK220
              clear BK221
              clear BK238
              clear HB
              have HO192 := n0_
              have HO195 := n1_
              have HO198 := n2_
              have HO201 := n3_
              have HO208 := n4_
              have HO211 := n5_
              have HO214 := n6_
              have HO217 := n7_
              have HO226 := n8_
              have HO229 := n9_
              have HO232 := n10_
              have HO235 := n11_
              have HO243 := n12_
              have HO246 := n13_
              have HO249 := n14_
              have HO252 := n15_
              have BK220 := n16_
              have BK221 := n17_
              have BK238 := n18_
              have HB := n19_
              clear n0_ n1_ n2_ n3_ n4_ n5_ n6_ n7_ n8_ n9_ n10_ n11_ n12_ n13_ n14_ n15_ n16_ n17_ n18_ n19_
              (try clear hb)
              (try clear hb2)
              (try clear hk)
              (try clear hi)
              refine hK.out _ _ ⟨(blk_cell BK220.out 0).trans rfl, (blk_cell BK220.out 1).trans rfl, (blk_cell BK220.out 2).trans rfl, (blk_cell BK220.out 3).trans rfl, (blk_cell BK220.out 4).trans rfl, (blk_cell BK220.out 5).trans rfl, (blk_cell BK220.out 6).trans rfl, (blk_cell BK220.out 7).trans rfl, (blk_cell BK221.out 0).trans rfl, (blk_cell BK221.out 1).trans rfl, (blk_cell BK221.out 2).trans rfl, (blk_cell BK221.out 3).trans rfl, (blk_cell BK221.out 4).trans rfl, (blk_cell BK221.out 5).trans rfl, (blk_cell BK221.out 6).trans rfl, (blk_cell BK221.out 7).trans rfl, (blk_cell BK238.out 0).trans rfl, (blk_cell BK238.out 1).trans rfl, (blk_cell BK238.out 2).trans rfl, (blk_cell BK238.out 3).trans rfl, (blk_cell BK238.out 4).trans rfl, (blk_cell BK238.out 5).trans rfl, (blk_cell BK238.out 6).trans rfl, (blk_cell BK238.out 7).trans rfl⟩ (fun hHeld => ?_)
              clear hK K
              refine norm_ (a' := ?_) ?_ ?_
              rotate_left
              ·show Act.put _ (some 13) _ = _
               simp only [Act.put, List.setIfInBounds_toArray, List.set_cons_zero, List.set_cons_succ, i64_w, i32_w]
               rfl
              refine pure_ (i := 6) (N := some 14) (v := ?_) (a' := ?_) (tf 7 61) rfl rfl (any_of HT_.out (by kernel_rfl)) (fun _ _ _ h => h) (Or.inl ⟨by rfl, ?_⟩) ?_ ?_
              rotate_left
              ·intro w'
               go_simp
               with_reducible rfl
              rotate_left
              ·simp only [Act.put, List.setIfInBounds_toArray, List.set_cons_zero, List.set_cons_succ, i64_w, i32_w]
               rfl
              refine pure_ (i := 7) (N := some 15) (v := ?_) (a' := ?_) (tf 8 60) rfl rfl (any_of HT_.out (by kernel_rfl)) (fun _ _ _ h => h) (Or.inl ⟨by rfl, ?_⟩) ?_ ?_
              rotate_left
              ·intro w'
               go_simp
               with_reducible rfl
              rotate_left
              ·simp only [Act.put, List.setIfInBounds_toArray, List.set_cons_zero, List.set_cons_succ, i64_w, i32_w]
               rfl
              refine pure_ (i := 8) (N := some 16) (v := ?_) (a' := ?_) (tf 9 59) rfl rfl (any_of HT_.out (by kernel_rfl)) (fun _ _ _ h => h) (Or.inl ⟨by rfl, ?_⟩) ?_ ?_
              rotate_left
              ·intro w'
               go_simp
               with_reducible rfl
              rotate_left
              ·simp only [Act.put, List.setIfInBounds_toArray, List.set_cons_zero, List.set_cons_succ, i64_w, i32_w]
               rfl
              refine take_ (i := 9) (N := some 17) (v := ?_) (a' := ?_) (tf 10 58) rfl rfl (take_ofW HT_.out HW_.out (by kernel_rfl)) (fun _ _ _ h => h) (Or.inl ⟨by rfl, ?_⟩) hHeld ?_ ?_
              rotate_left
              ·rintro w' ⟨s0, s1, s2, s3, s4, s5, s6, s7, s8, s9, s10, s11, s12, s13, s14, s15, s16, s17, s18, s19, s20, s21, s22, s23⟩
               go_simp
               with_reducible rfl
              rotate_left
              ·simp only [Act.put, List.setIfInBounds_toArray, List.set_cons_zero, List.set_cons_succ, i64_w, i32_w]
               rfl
              refine one_ (i := 10) (N := some 18) (tf 11 57) rfl rfl (one_of HT_.out (by kernel_rfl)) (by decide) (fun K hK => ?_)
              refine goes_ Try.func13 (by kernel_rfl) rfl #[.agg #[.bool t188, .bool t189, .slice Ao73 t190.length co73, .slice Ao74 t193.length co74, .slice Ao75 t196.length co75, .slice Ao76 t199.length co76, .bool t202, .bool t203], .string (⟨#[115, 99, 114, 105, 112, 116]⟩ : ByteArray)] (by rfl) rfl rfl (by (try simp only [List.map_toArray, List.map_cons, List.map_nil]); first | done | rfl | (simp only [List.length_drop, List.length_take]; rfl)) ?_
              with_reducible refine (config_Element.calls k t188 t189 _ _ t190 _ _ t193 _ _ t196 _ _ t199 t202 t203 (⟨#[115, 99, 114, 105, 112, 116]⟩ : ByteArray) t257 _ ?side1 ?side2 ?side3 ?side4 ?side5 ?side6 ?side7 ?side8 A9.out).mono ?_
              (case side1 => repeat (first | exact (Kd.R_reads' HO192.out).2.2 | (with_reducible refine Kd.C_alloc ?_ _) | (with_reducible refine Kd.C_drewN ?_ _) | (with_reducible refine Kd.C_drew ?_)))
              (case side2 => exact (Kd.R_reads' HO192.out).2.1)
              (case side3 => repeat (first | exact (Kd.R_reads' HO195.out).2.2 | (with_reducible refine Kd.C_alloc ?_ _) | (with_reducible refine Kd.C_drewN ?_ _) | (with_reducible refine Kd.C_drew ?_)))
              (case side4 => exact (Kd.R_reads' HO195.out).2.1)
              (case side5 => repeat (first | exact (Kd.R_reads' HO198.out).2.2 | (with_reducible refine Kd.C_alloc ?_ _) | (with_reducible refine Kd.C_drewN ?_ _) | (with_reducible refine Kd.C_drew ?_)))
              (case side6 => exact (Kd.R_reads' HO198.out).2.1)
              (case side7 => repeat (first | exact (Kd.N_reads' HO201.out).2.2 | (with_reducible refine Kd.C_alloc ?_ _) | (with_reducible refine Kd.C_drewN ?_ _) | (with_reducible refine Kd.C_drew ?_)))
              (case side8 => exact (Kd.N_reads' HO201.out).2.1)
              rintro e w100 ⟨rfl, hb⟩
              refine ⟨_, rfl, ?_⟩
              have n0_ := Aside0.mk (Kd.R_below (by exact HO192.out) hb)
              have n1_ := Aside0.mk (Kd.R_below (by exact HO195.out) hb)
              have n2_ := Aside0.mk (Kd.R_below (by exact HO198.out) hb)
              have n3_ := Aside0.mk (Kd.N_below (by exact HO201.out) hb)
              have n4_ := Aside0.mk (Kd.R_below (by exact HO208.out) hb)
              have n5_ := Aside0.mk (Kd.R_below (by exact HO211.out) hb)
              have n6_ := Aside0.mk (Kd.R_below (by exact HO214.out) hb)
              have n7_ := Aside0.mk (Kd.N_below (by exact HO217.out) hb)
              have n8_ := Aside0.mk (Kd.R_below (by exact HO226.out) hb)
              have n9_ := Aside0.mk (Kd.R_below (by exact HO229.out) hb)
              have n10_ := Aside0.mk (Kd.R_below (by exact HO232.out) hb)
              have n11_ := Aside0.mk (Kd.N_below (by exact HO235.out) hb)
              have n12_ := Aside0.mk (Kd.R_below (by exact HO243.out) hb)
              have n13_ := Aside0.mk (Kd.R_below (by exact HO246.out) hb)
              have n14_ := Aside0.mk (Kd.R_below (by exact HO249.out) hb)
              have n15_ := Aside0.mk (Kd.N_below (by exact HO252.out) hb)
              have n16_ := Aside0.mk (blk_below (g := gb220) (o := .cells #[.bool t188, .bool t189, .slice Ao73 t190.length co73, .slice Ao74 t193.length co74, .slice Ao75 t196.length co75, .slice Ao76 t199.length co76, .bool t202, .bool t203] 25 (0, 0)) (by exact BK220.out) hb)
              have n17_ := Aside0.mk (blk_below (g := gb221) (o := .cells #[.bool t204, .bool t205, .slice Ao78 t206.length co78, .slice Ao79 t209.length co79, .slice Ao80 t212.length co80, .slice Ao81 t215.length co81, .bool true, .bool t219] 25 (0, 0)) (by exact BK221.out) hb)
              have n18_ := Aside0.mk (blk_below (g := gb238) (o := .cells #[.bool t222, .bool t223, .slice Ao87 t224.length co87, .slice Ao88 t227.length co88, .slice Ao89 t230.length co89, .slice Ao90 t233.length co90, .bool t236, .bool t237] 25 (0, 0)) (by exact BK238.out) hb)
              have n19_ := Aside0.mk (below_step (by repeat (first | (with_reducible first | exact HB.out | apply below_alloc | apply pw_below_drewN | apply below_drew1 | refine below_set ?_ GE220.out | refine below_set ?_ GE221.out | refine below_set ?_ GE238.out) | exact HB.out)) hb)
              clear HO192
              clear HO195
              clear HO198
              clear HO201
              clear HO208
              clear HO211
              clear HO214
              clear HO217
              clear HO226
              clear HO229
              clear HO232
              clear HO235
              clear HO243
              clear HO246
              clear HO249
              clear HO252
              clear BK220
              clear BK221
              clear BK238
              clear HB
              have HO192 := n0_
              have HO195 := n1_
              have HO198 := n2_
              have HO201 := n3_
              have HO208 := n4_
              have HO211 := n5_
              have HO214 := n6_
              have HO217 := n7_
              have HO226 := n8_
              have HO229 := n9_
              have HO232 := n10_
              have HO235 := n11_
              have HO243 := n12_
              have HO246 := n13_
              have HO249 := n14_
              have HO252 := n15_
              have BK220 := n16_
              have BK221 := n17_
              have BK238 := n18_
              have HB := n19_
              clear n0_ n1_ n2_ n3_ n4_ n5_ n6_ n7_ n8_ n9_ n10_ n11_ n12_ n13_ n14_ n15_ n16_ n17_ n18_ n19_
              (try clear hb)
              (try clear hb2)
              (try clear hk)
              (try clear hi)
              refine hK.out _ _ ⟨(blk_cell BK220.out 0).trans rfl, (blk_cell BK220.out 1).trans rfl, (blk_cell BK220.out 2).trans rfl, (blk_cell BK220.out 3).trans rfl, (blk_cell BK220.out 4).trans rfl, (blk_cell BK220.out 5).trans rfl, (blk_cell BK220.out 6).trans rfl, (blk_cell BK220.out 7).trans rfl, (blk_cell BK221.out 0).trans rfl, (blk_cell BK221.out 1).trans rfl, (blk_cell BK221.out 2).trans rfl, (blk_cell BK221.out 3).trans rfl, (blk_cell BK221.out 4).trans rfl, (blk_cell BK221.out 5).trans rfl, (blk_cell BK221.out 6).trans rfl, (blk_cell BK221.out 7).trans rfl, (blk_cell BK238.out 0).trans rfl, (blk_cell BK238.out 1).trans rfl, (blk_cell BK238.out 2).trans rfl, (blk_cell BK238.out 3).trans rfl, (blk_cell BK238.out 4).trans rfl, (blk_cell BK238.out 5).trans rfl, (blk_cell BK238.out 6).trans rfl, (blk_cell BK238.out 7).trans rfl⟩ (fun hHeld => ?_)
              clear hK K
              refine norm_ (a' := ?_) ?_ ?_
              rotate_left
              ·show Act.put _ (some 18) _ = _
               simp only [Act.put, List.setIfInBounds_toArray, List.set_cons_zero, List.set_cons_succ, i64_w, i32_w]
               rfl
              refine pure_ (i := 11) (N := some 19) (v := ?_) (a' := ?_) (tf 12 56) rfl rfl (any_of HT_.out (by kernel_rfl)) (fun _ _ _ h => h) (Or.inl ⟨by rfl, ?_⟩) ?_ ?_
              rotate_left
              ·intro w'
               go_simp
               with_reducible rfl
              rotate_left
              ·simp only [Act.put, List.setIfInBounds_toArray, List.set_cons_zero, List.set_cons_succ, i64_w, i32_w]
               rfl
              refine pure_ (i := 12) (N := some 20) (v := ?_) (a' := ?_) (tf 13 55) rfl rfl (any_of HT_.out (by kernel_rfl)) (fun _ _ _ h => h) (Or.inl ⟨by rfl, ?_⟩) ?_ ?_
              rotate_left
              ·intro w'
               go_simp
               with_reducible rfl
              rotate_left
              ·simp only [Act.put, List.setIfInBounds_toArray, List.set_cons_zero, List.set_cons_succ, i64_w, i32_w]
               rfl
              refine pure_ (i := 13) (N := some 21) (v := ?_) (a' := ?_) (tf 14 54) rfl rfl (any_of HT_.out (by kernel_rfl)) (fun _ _ _ h => h) (Or.inl ⟨by rfl, ?_⟩) ?_ ?_
              rotate_left
              ·intro w'
               go_simp
               with_reducible rfl
              rotate_left
              ·simp only [Act.put, List.setIfInBounds_toArray, List.set_cons_zero, List.set_cons_succ, i64_w, i32_w]
               rfl
              refine take_ (i := 14) (N := some 22) (v := ?_) (a' := ?_) (tf 15 53) rfl rfl (take_ofW HT_.out HW_.out (by kernel_rfl)) (fun _ _ _ h => h) (Or.inl ⟨by rfl, ?_⟩) hHeld ?_ ?_
              rotate_left
              ·rintro w' ⟨s0, s1, s2, s3, s4, s5, s6, s7, s8, s9, s10, s11, s12, s13, s14, s15, s16, s17, s18, s19, s20, s21, s22, s23⟩
               go_simp
               with_reducible rfl
              rotate_left
              ·simp only [Act.put, List.setIfInBounds_toArray, List.set_cons_zero, List.set_cons_succ, i64_w, i32_w]
               rfl
              refine one_ (i := 15) (N := some 23) (tf 16 52) rfl rfl (one_of HT_.out (by kernel_rfl)) (by decide) (fun K hK => ?_)
              refine goes_ Try.func15 (by kernel_rfl) rfl #[.agg #[.bool t188, .bool t189, .slice Ao73 t190.length co73, .slice Ao74 t193.length co74, .slice Ao75 t196.length co75, .slice Ao76 t199.length co76, .bool t202, .bool t203], .string (⟨#[97]⟩ : ByteArray), .string (⟨#[104, 114, 101, 102]⟩ : ByteArray)] (by rfl) rfl rfl (by (try simp only [List.map_toArray, List.map_cons, List.map_nil]); first | done | rfl | (simp only [List.length_drop, List.length_take]; rfl)) ?_
              with_reducible refine (config_Attr.calls t188 t189 _ _ t190 _ _ t193 _ _ t196 _ _ t199 t202 t203 (⟨#[97]⟩ : ByteArray) (⟨#[104, 114, 101, 102]⟩ : ByteArray) true _ ?side1 ?side2 ?side3 ?side4 ?side5 ?side6 ?side7 ?side8 A11.out).mono ?_
              (case side1 => repeat (first | exact (Kd.R_reads' HO192.out).2.2 | (with_reducible refine Kd.C_alloc ?_ _) | (with_reducible refine Kd.C_drewN ?_ _) | (with_reducible refine Kd.C_drew ?_)))
              (case side2 => exact (Kd.R_reads' HO192.out).2.1)
              (case side3 => repeat (first | exact (Kd.R_reads' HO195.out).2.2 | (with_reducible refine Kd.C_alloc ?_ _) | (with_reducible refine Kd.C_drewN ?_ _) | (with_reducible refine Kd.C_drew ?_)))
              (case side4 => exact (Kd.R_reads' HO195.out).2.1)
              (case side5 => repeat (first | exact (Kd.R_reads' HO198.out).2.2 | (with_reducible refine Kd.C_alloc ?_ _) | (with_reducible refine Kd.C_drewN ?_ _) | (with_reducible refine Kd.C_drew ?_)))
              (case side6 => exact (Kd.R_reads' HO198.out).2.1)
              (case side7 => repeat (first | exact (Kd.N_reads' HO201.out).2.2 | (with_reducible refine Kd.C_alloc ?_ _) | (with_reducible refine Kd.C_drewN ?_ _) | (with_reducible refine Kd.C_drew ?_)))
              (case side8 => exact (Kd.N_reads' HO201.out).2.1)
              rintro e w101 ⟨rfl, hb⟩
              refine ⟨_, rfl, ?_⟩
              have n0_ := Aside0.mk (Kd.R_below (by exact HO192.out) hb)
              have n1_ := Aside0.mk (Kd.R_below (by exact HO195.out) hb)
              have n2_ := Aside0.mk (Kd.R_below (by exact HO198.out) hb)
              have n3_ := Aside0.mk (Kd.N_below (by exact HO201.out) hb)
              have n4_ := Aside0.mk (Kd.R_below (by exact HO208.out) hb)
              have n5_ := Aside0.mk (Kd.R_below (by exact HO211.out) hb)
              have n6_ := Aside0.mk (Kd.R_below (by exact HO214.out) hb)
              have n7_ := Aside0.mk (Kd.N_below (by exact HO217.out) hb)
              have n8_ := Aside0.mk (Kd.R_below (by exact HO226.out) hb)
              have n9_ := Aside0.mk (Kd.R_below (by exact HO229.out) hb)
              have n10_ := Aside0.mk (Kd.R_below (by exact HO232.out) hb)
              have n11_ := Aside0.mk (Kd.N_below (by exact HO235.out) hb)
              have n12_ := Aside0.mk (Kd.R_below (by exact HO243.out) hb)
              have n13_ := Aside0.mk (Kd.R_below (by exact HO246.out) hb)
              have n14_ := Aside0.mk (Kd.R_below (by exact HO249.out) hb)
              have n15_ := Aside0.mk (Kd.N_below (by exact HO252.out) hb)
              have n16_ := Aside0.mk (blk_below (g := gb220) (o := .cells #[.bool t188, .bool t189, .slice Ao73 t190.length co73, .slice Ao74 t193.length co74, .slice Ao75 t196.length co75, .slice Ao76 t199.length co76, .bool t202, .bool t203] 25 (0, 0)) (by exact BK220.out) hb)
              have n17_ := Aside0.mk (blk_below (g := gb221) (o := .cells #[.bool t204, .bool t205, .slice Ao78 t206.length co78, .slice Ao79 t209.length co79, .slice Ao80 t212.length co80, .slice Ao81 t215.length co81, .bool true, .bool t219] 25 (0, 0)) (by exact BK221.out) hb)
              have n18_ := Aside0.mk (blk_below (g := gb238) (o := .cells #[.bool t222, .bool t223, .slice Ao87 t224.length co87, .slice Ao88 t227.length co88, .slice Ao89 t230.length co89, .slice Ao90 t233.length co90, .bool t236, .bool t237] 25 (0, 0)) (by exact BK238.out) hb)
              have n19_ := Aside0.mk (below_step (by repeat (first | (with_reducible first | exact HB.out | apply below_alloc | apply pw_below_drewN | apply below_drew1 | refine below_set ?_ GE220.out | refine below_set ?_ GE221.out | refine below_set ?_ GE238.out) | exact HB.out)) hb)
              clear HO192
              clear HO195
              clear HO198
              clear HO201
              clear HO208
              clear HO211
              clear HO214
              clear HO217
              clear HO226
              clear HO229
              clear HO232
              clear HO235
              clear HO243
              clear HO246
              clear HO249
              clear HO252
              clear BK220
              clear BK221
              clear BK238
              clear HB
              have HO192 := n0_
              have HO195 := n1_
              have HO198 := n2_
              have HO201 := n3_
              have HO208 := n4_
              have HO211 := n5_
              have HO214 := n6_
              have HO217 := n7_
              have HO226 := n8_
              have HO229 := n9_
              have HO232 := n10_
              have HO235 := n11_
              have HO243 := n12_
              have HO246 := n13_
              have HO249 := n14_
              have HO252 := n15_
              have BK220 := n16_
              have BK221 := n17_
              have BK238 := n18_
              have HB := n19_
              clear n0_ n1_ n2_ n3_ n4_ n5_ n6_ n7_ n8_ n9_ n10_ n11_ n12_ n13_ n14_ n15_ n16_ n17_ n18_ n19_
              (try clear hb)
              (try clear hb2)
              (try clear hk)
              (try clear hi)
              refine hK.out _ _ ⟨(blk_cell BK220.out 0).trans rfl, (blk_cell BK220.out 1).trans rfl, (blk_cell BK220.out 2).trans rfl, (blk_cell BK220.out 3).trans rfl, (blk_cell BK220.out 4).trans rfl, (blk_cell BK220.out 5).trans rfl, (blk_cell BK220.out 6).trans rfl, (blk_cell BK220.out 7).trans rfl, (blk_cell BK221.out 0).trans rfl, (blk_cell BK221.out 1).trans rfl, (blk_cell BK221.out 2).trans rfl, (blk_cell BK221.out 3).trans rfl, (blk_cell BK221.out 4).trans rfl, (blk_cell BK221.out 5).trans rfl, (blk_cell BK221.out 6).trans rfl, (blk_cell BK221.out 7).trans rfl, (blk_cell BK238.out 0).trans rfl, (blk_cell BK238.out 1).trans rfl, (blk_cell BK238.out 2).trans rfl, (blk_cell BK238.out 3).trans rfl, (blk_cell BK238.out 4).trans rfl, (blk_cell BK238.out 5).trans rfl, (blk_cell BK238.out 6).trans rfl, (blk_cell BK238.out 7).trans rfl⟩ (fun hHeld => ?_)
              clear hK K
              refine norm_ (a' := ?_) ?_ ?_
              rotate_left
              ·show Act.put _ (some 23) _ = _
               simp only [Act.put, List.setIfInBounds_toArray, List.set_cons_zero, List.set_cons_succ, i64_w, i32_w]
               rfl
              refine pure_ (i := 16) (N := some 24) (v := ?_) (a' := ?_) (tf 17 51) rfl rfl (any_of HT_.out (by kernel_rfl)) (fun _ _ _ h => h) (Or.inl ⟨by rfl, ?_⟩) ?_ ?_
              rotate_left
              ·intro w'
               go_simp
               with_reducible rfl
              rotate_left
              ·simp only [Act.put, List.setIfInBounds_toArray, List.set_cons_zero, List.set_cons_succ, i64_w, i32_w]
               rfl
              refine pure_ (i := 17) (N := some 25) (v := ?_) (a' := ?_) (tf 18 50) rfl rfl (any_of HT_.out (by kernel_rfl)) (fun _ _ _ h => h) (Or.inl ⟨by rfl, ?_⟩) ?_ ?_
              rotate_left
              ·intro w'
               go_simp
               with_reducible rfl
              rotate_left
              ·simp only [Act.put, List.setIfInBounds_toArray, List.set_cons_zero, List.set_cons_succ, i64_w, i32_w]
               rfl
              refine take_ (i := 18) (N := some 26) (v := ?_) (a' := ?_) (tf 19 49) rfl rfl (take_ofW HT_.out HW_.out (by kernel_rfl)) (fun _ _ _ h => h) (Or.inl ⟨by rfl, ?_⟩) hHeld ?_ ?_
              rotate_left
              ·rintro w' ⟨s0, s1, s2, s3, s4, s5, s6, s7, s8, s9, s10, s11, s12, s13, s14, s15, s16, s17, s18, s19, s20, s21, s22, s23⟩
               go_simp
               with_reducible rfl
              rotate_left
              ·simp only [Act.put, List.setIfInBounds_toArray, List.set_cons_zero, List.set_cons_succ, i64_w, i32_w]
               rfl
              refine one_ (i := 19) (N := some 27) (tf 20 48) rfl rfl (one_of HT_.out (by kernel_rfl)) (by decide) (fun K hK => ?_)
              refine goes_ Try.func15 (by kernel_rfl) rfl #[.agg #[.bool t188, .bool t189, .slice Ao73 t190.length co73, .slice Ao74 t193.length co74, .slice Ao75 t196.length co75, .slice Ao76 t199.length co76, .bool t202, .bool t203], .string (⟨#[98]⟩ : ByteArray), .string (⟨#[104, 114, 101, 102]⟩ : ByteArray)] (by rfl) rfl rfl (by (try simp only [List.map_toArray, List.map_cons, List.map_nil]); first | done | rfl | (simp only [List.length_drop, List.length_take]; rfl)) ?_
              with_reducible refine (config_Attr.calls t188 t189 _ _ t190 _ _ t193 _ _ t196 _ _ t199 t202 t203 (⟨#[98]⟩ : ByteArray) (⟨#[104, 114, 101, 102]⟩ : ByteArray) false _ ?side1 ?side2 ?side3 ?side4 ?side5 ?side6 ?side7 ?side8 A13.out).mono ?_
              (case side1 => repeat (first | exact (Kd.R_reads' HO192.out).2.2 | (with_reducible refine Kd.C_alloc ?_ _) | (with_reducible refine Kd.C_drewN ?_ _) | (with_reducible refine Kd.C_drew ?_)))
              (case side2 => exact (Kd.R_reads' HO192.out).2.1)
              (case side3 => repeat (first | exact (Kd.R_reads' HO195.out).2.2 | (with_reducible refine Kd.C_alloc ?_ _) | (with_reducible refine Kd.C_drewN ?_ _) | (with_reducible refine Kd.C_drew ?_)))
              (case side4 => exact (Kd.R_reads' HO195.out).2.1)
              (case side5 => repeat (first | exact (Kd.R_reads' HO198.out).2.2 | (with_reducible refine Kd.C_alloc ?_ _) | (with_reducible refine Kd.C_drewN ?_ _) | (with_reducible refine Kd.C_drew ?_)))
              (case side6 => exact (Kd.R_reads' HO198.out).2.1)
              (case side7 => repeat (first | exact (Kd.N_reads' HO201.out).2.2 | (with_reducible refine Kd.C_alloc ?_ _) | (with_reducible refine Kd.C_drewN ?_ _) | (with_reducible refine Kd.C_drew ?_)))
              (case side8 => exact (Kd.N_reads' HO201.out).2.1)
              rintro e w102 ⟨rfl, hb⟩
              refine ⟨_, rfl, ?_⟩
              have n0_ := Aside0.mk (Kd.R_below (by exact HO192.out) hb)
              have n1_ := Aside0.mk (Kd.R_below (by exact HO195.out) hb)
              have n2_ := Aside0.mk (Kd.R_below (by exact HO198.out) hb)
              have n3_ := Aside0.mk (Kd.N_below (by exact HO201.out) hb)
              have n4_ := Aside0.mk (Kd.R_below (by exact HO208.out) hb)
              have n5_ := Aside0.mk (Kd.R_below (by exact HO211.out) hb)
              have n6_ := Aside0.mk (Kd.R_below (by exact HO214.out) hb)
              have n7_ := Aside0.mk (Kd.N_below (by exact HO217.out) hb)
              have n8_ := Aside0.mk (Kd.R_below (by exact HO226.out) hb)
              have n9_ := Aside0.mk (Kd.R_below (by exact HO229.out) hb)
              have n10_ := Aside0.mk (Kd.R_below (by exact HO232.out) hb)
              have n11_ := Aside0.mk (Kd.N_below (by exact HO235.out) hb)
              have n12_ := Aside0.mk (Kd.R_below (by exact HO243.out) hb)
              have n13_ := Aside0.mk (Kd.R_below (by exact HO246.out) hb)
              have n14_ := Aside0.mk (Kd.R_below (by exact HO249.out) hb)
              have n15_ := Aside0.mk (Kd.N_below (by exact HO252.out) hb)
              have n16_ := Aside0.mk (blk_below (g := gb220) (o := .cells #[.bool t188, .bool t189, .slice Ao73 t190.length co73, .slice Ao74 t193.length co74, .slice Ao75 t196.length co75, .slice Ao76 t199.length co76, .bool t202, .bool t203] 25 (0, 0)) (by exact BK220.out) hb)
              have n17_ := Aside0.mk (blk_below (g := gb221) (o := .cells #[.bool t204, .bool t205, .slice Ao78 t206.length co78, .slice Ao79 t209.length co79, .slice Ao80 t212.length co80, .slice Ao81 t215.length co81, .bool true, .bool t219] 25 (0, 0)) (by exact BK221.out) hb)
              have n18_ := Aside0.mk (blk_below (g := gb238) (o := .cells #[.bool t222, .bool t223, .slice Ao87 t224.length co87, .slice Ao88 t227.length co88, .slice Ao89 t230.length co89, .slice Ao90 t233.length co90, .bool t236, .bool t237] 25 (0, 0)) (by exact BK238.out) hb)
              have n19_ := Aside0.mk (below_step (by repeat (first | (with_reducible first | exact HB.out | apply below_alloc | apply pw_below_drewN | apply below_drew1 | refine below_set ?_ GE220.out | refine below_set ?_ GE221.out | refine below_set ?_ GE238.out) | exact HB.out)) hb)
              clear HO192
              clear HO195
              clear HO198
              clear HO201
              clear HO208
              clear HO211
              clear HO214
              clear HO217
              clear HO226
              clear HO229
              clear HO232
              clear HO235
              clear HO243
              clear HO246
              clear HO249
              clear HO252
              clear BK220
              clear BK221
              clear BK238
              clear HB
              have HO192 := n0_
              have HO195 := n1_
              have HO198 := n2_
              have HO201 := n3_
              have HO208 := n4_
              have HO211 := n5_
              have HO214 := n6_
              have HO217 := n7_
              have HO226 := n8_
              have HO229 := n9_
              have HO232 := n10_
              have HO235 := n11_
              have HO243 := n12_
              have HO246 := n13_
              have HO249 := n14_
              have HO252 := n15_
              have BK220 := n16_
              have BK221 := n17_
              have BK238 := n18_
              have HB := n19_
              clear n0_ n1_ n2_ n3_ n4_ n5_ n6_ n7_ n8_ n9_ n10_ n11_ n12_ n13_ n14_ n15_ n16_ n17_ n18_ n19_
              (try clear hb)
              (try clear hb2)
              (try clear hk)
              (try clear hi)
              refine hK.out _ _ ⟨(blk_cell BK220.out 0).trans rfl, (blk_cell BK220.out 1).trans rfl, (blk_cell BK220.out 2).trans rfl, (blk_cell BK220.out 3).trans rfl, (blk_cell BK220.out 4).trans rfl, (blk_cell BK220.out 5).trans rfl, (blk_cell BK220.out 6).trans rfl, (blk_cell BK220.out 7).trans rfl, (blk_cell BK221.out 0).trans rfl, (blk_cell BK221.out 1).trans rfl, (blk_cell BK221.out 2).trans rfl, (blk_cell BK221.out 3).trans rfl, (blk_cell BK221.out 4).trans rfl, (blk_cell BK221.out 5).trans rfl, (blk_cell BK221.out 6).trans rfl, (blk_cell BK221.out 7).trans rfl, (blk_cell BK238.out 0).trans rfl, (blk_cell BK238.out 1).trans rfl, (blk_cell BK238.out 2).trans rfl, (blk_cell BK238.out 3).trans rfl, (blk_cell BK238.out 4).trans rfl, (blk_cell BK238.out 5).trans rfl, (blk_cell BK238.out 6).trans rfl, (blk_cell BK238.out 7).trans rfl⟩ (fun hHeld => ?_)
              clear hK K
              refine norm_ (a' := ?_) ?_ ?_
              rotate_left
              ·show Act.put _ (some 27) _ = _
               simp only [Act.put, List.setIfInBounds_toArray, List.set_cons_zero, List.set_cons_succ, i64_w, i32_w]
               rfl
              refine pure_ (i := 20) (N := some 28) (v := ?_) (a' := ?_) (tf 21 47) rfl rfl (any_of HT_.out (by kernel_rfl)) (fun _ _ _ h => h) (Or.inl ⟨by rfl, ?_⟩) ?_ ?_
              rotate_left
              ·intro w'
               go_simp
               with_reducible rfl
              rotate_left
              ·simp only [Act.put, List.setIfInBounds_toArray, List.set_cons_zero, List.set_cons_succ, i64_w, i32_w]
               rfl
              refine pure_ (i := 21) (N := some 29) (v := ?_) (a' := ?_) (tf 22 46) rfl rfl (any_of HT_.out (by kernel_rfl)) (fun _ _ _ h => h) (Or.inl ⟨by rfl, ?_⟩) ?_ ?_
              rotate_left
              ·intro w'
               go_simp
               with_reducible rfl
              rotate_left
              ·simp only [Act.put, List.setIfInBounds_toArray, List.set_cons_zero, List.set_cons_succ, i64_w, i32_w]
               rfl
              refine pure_ (i := 22) (N := some 30) (v := ?_) (a' := ?_) (tf 23 45) rfl rfl (any_of HT_.out (by kernel_rfl)) (fun _ _ _ h => h) (Or.inl ⟨by rfl, ?_⟩) ?_ ?_
              rotate_left
              ·intro w'
               go_simp
               with_reducible rfl
              rotate_left
              ·simp only [Act.put, List.setIfInBounds_toArray, List.set_cons_zero, List.set_cons_succ, i64_w, i32_w]
               rfl
              refine pure_ (i := 23) (N := some 31) (v := ?_) (a' := ?_) (tf 24 44) rfl rfl (any_of HT_.out (by kernel_rfl)) (fun _ _ _ h => h) (Or.inl ⟨by rfl, ?_⟩) ?_ ?_
              rotate_left
              ·intro w'
               go_simp
               with_reducible rfl
              rotate_left
              ·simp only [Act.put, List.setIfInBounds_toArray, List.set_cons_zero, List.set_cons_succ, i64_w, i32_w]
               rfl
              refine take_ (i := 24) (N := some 32) (v := ?_) (a' := ?_) (tf 25 43) rfl rfl (take_ofW HT_.out HW_.out (by kernel_rfl)) (fun _ _ _ h => h) (Or.inl ⟨by rfl, ?_⟩) hHeld ?_ ?_
              rotate_left
              ·rintro w' ⟨s0, s1, s2, s3, s4, s5, s6, s7, s8, s9, s10, s11, s12, s13, s14, s15, s16, s17, s18, s19, s20, s21, s22, s23⟩
               go_simp
               with_reducible rfl
              rotate_left
              ·simp only [Act.put, List.setIfInBounds_toArray, List.set_cons_zero, List.set_cons_succ, i64_w, i32_w]
               rfl
              refine pure_ (i := 25) (N := some 33) (v := ?_) (a' := ?_) (tf 26 42) rfl rfl (any_of HT_.out (by kernel_rfl)) (fun _ _ _ h => h) (Or.inl ⟨by rfl, ?_⟩) ?_ ?_
              rotate_left
              ·intro w'
               go_simp
               with_reducible rfl
              rotate_left
              ·simp only [Act.put, List.setIfInBounds_toArray, List.set_cons_zero, List.set_cons_succ, i64_w, i32_w]
               rfl
              refine pure_ (i := 26) (N := some 34) (v := ?_) (a' := ?_) (tf 27 41) rfl rfl (any_of HT_.out (by kernel_rfl)) (fun _ _ _ h => h) (Or.inl ⟨by rfl, ?_⟩) ?_ ?_
              rotate_left
              ·intro w'
               go_simp
               with_reducible rfl
              rotate_left
              ·simp only [Act.put, List.setIfInBounds_toArray, List.set_cons_zero, List.set_cons_succ, i64_w, i32_w]
               rfl
              refine take_ (i := 27) (N := some 35) (v := ?_) (a' := ?_) (tf 28 40) rfl rfl (take_ofW HT_.out HW_.out (by kernel_rfl)) (fun _ _ _ h => h) (Or.inl ⟨by rfl, ?_⟩) hHeld ?_ ?_
              rotate_left
              ·rintro w' ⟨s0, s1, s2, s3, s4, s5, s6, s7, s8, s9, s10, s11, s12, s13, s14, s15, s16, s17, s18, s19, s20, s21, s22, s23⟩
               go_simp
               with_reducible rfl
              rotate_left
              ·simp only [Act.put, List.setIfInBounds_toArray, List.set_cons_zero, List.set_cons_succ, i64_w, i32_w]
               rfl
              refine one_ (i := 28) (N := some 36) (tf 29 39) rfl rfl (one_of HT_.out (by kernel_rfl)) (by decide) (fun K hK => ?_)
              refine goes_ Try.func13 (by kernel_rfl) rfl #[.agg #[.bool t204, .bool t205, .slice Ao78 t206.length co78, .slice Ao79 t209.length co79, .slice Ao80 t212.length co80, .slice Ao81 t215.length co81, .bool true, .bool t219], .string (⟨#[115, 99, 114, 105, 112, 116]⟩ : ByteArray)] (by rfl) rfl rfl (by (try simp only [List.map_toArray, List.map_cons, List.map_nil]); first | done | rfl | (simp only [List.length_drop, List.length_take]; rfl)) ?_
              with_reducible refine (config_Element.calls k t204 t205 _ _ t206 _ _ t209 _ _ t212 _ _ t215 true t219 (⟨#[115, 99, 114, 105, 112, 116]⟩ : ByteArray) t260 _ ?side1 ?side2 ?side3 ?side4 ?side5 ?side6 ?side7 ?side8 A52.out).mono ?_
              (case side1 => repeat (first | exact (Kd.R_reads' HO208.out).2.2 | (with_reducible refine Kd.C_alloc ?_ _) | (with_reducible refine Kd.C_drewN ?_ _) | (with_reducible refine Kd.C_drew ?_)))
              (case side2 => exact (Kd.R_reads' HO208.out).2.1)
              (case side3 => repeat (first | exact (Kd.R_reads' HO211.out).2.2 | (with_reducible refine Kd.C_alloc ?_ _) | (with_reducible refine Kd.C_drewN ?_ _) | (with_reducible refine Kd.C_drew ?_)))
              (case side4 => exact (Kd.R_reads' HO211.out).2.1)
              (case side5 => repeat (first | exact (Kd.R_reads' HO214.out).2.2 | (with_reducible refine Kd.C_alloc ?_ _) | (with_reducible refine Kd.C_drewN ?_ _) | (with_reducible refine Kd.C_drew ?_)))
              (case side6 => exact (Kd.R_reads' HO214.out).2.1)
              (case side7 => repeat (first | exact (Kd.N_reads' HO217.out).2.2 | (with_reducible refine Kd.C_alloc ?_ _) | (with_reducible refine Kd.C_drewN ?_ _) | (with_reducible refine Kd.C_drew ?_)))
              (case side8 => exact (Kd.N_reads' HO217.out).2.1)
              rintro e w103 ⟨rfl, hb⟩
              refine ⟨_, rfl, ?_⟩
              have n0_ := Aside0.mk (Kd.R_below (by exact HO192.out) hb)
              have n1_ := Aside0.mk (Kd.R_below (by exact HO195.out) hb)
              have n2_ := Aside0.mk (Kd.R_below (by exact HO198.out) hb)
              have n3_ := Aside0.mk (Kd.N_below (by exact HO201.out) hb)
              have n4_ := Aside0.mk (Kd.R_below (by exact HO208.out) hb)
              have n5_ := Aside0.mk (Kd.R_below (by exact HO211.out) hb)
              have n6_ := Aside0.mk (Kd.R_below (by exact HO214.out) hb)
              have n7_ := Aside0.mk (Kd.N_below (by exact HO217.out) hb)
              have n8_ := Aside0.mk (Kd.R_below (by exact HO226.out) hb)
              have n9_ := Aside0.mk (Kd.R_below (by exact HO229.out) hb)
              have n10_ := Aside0.mk (Kd.R_below (by exact HO232.out) hb)
              have n11_ := Aside0.mk (Kd.N_below (by exact HO235.out) hb)
              have n12_ := Aside0.mk (Kd.R_below (by exact HO243.out) hb)
              have n13_ := Aside0.mk (Kd.R_below (by exact HO246.out) hb)
              have n14_ := Aside0.mk (Kd.R_below (by exact HO249.out) hb)
              have n15_ := Aside0.mk (Kd.N_below (by exact HO252.out) hb)
              have n16_ := Aside0.mk (blk_below (g := gb220) (o := .cells #[.bool t188, .bool t189, .slice Ao73 t190.length co73, .slice Ao74 t193.length co74, .slice Ao75 t196.length co75, .slice Ao76 t199.length co76, .bool t202, .bool t203] 25 (0, 0)) (by exact BK220.out) hb)
              have n17_ := Aside0.mk (blk_below (g := gb221) (o := .cells #[.bool t204, .bool t205, .slice Ao78 t206.length co78, .slice Ao79 t209.length co79, .slice Ao80 t212.length co80, .slice Ao81 t215.length co81, .bool true, .bool t219] 25 (0, 0)) (by exact BK221.out) hb)
              have n18_ := Aside0.mk (blk_below (g := gb238) (o := .cells #[.bool t222, .bool t223, .slice Ao87 t224.length co87, .slice Ao88 t227.length co88, .slice Ao89 t230.length co89, .slice Ao90 t233.length co90, .bool t236, .bool t237] 25 (0, 0)) (by exact BK238.out) hb)
              have n19_ := Aside0.mk (below_step (by repeat (first | (with_reducible first | exact HB.out | apply below_alloc | apply pw_below_drewN | apply below_drew1 | refine below_set ?_ GE220.out | refine below_set ?_ GE221.out | refine below_set ?_ GE238.out) | exact HB.out)) hb)
              clear HO192
              clear HO195
              clear HO198
              clear HO201
              clear HO208
              clear HO211
              clear HO214
              clear HO217
              clear HO226
              clear HO229
              clear HO232
              clear HO235
              clear HO243
              clear HO246
              clear HO249
              clear HO252
              clear BK220
              clear BK221
              clear BK238
              clear HB
              have HO192 := n0_
              have HO195 := n1_
              have HO198 := n2_
              have HO201 := n3_
              have HO208 := n4_
              have HO211 := n5_
              have HO214 := n6_
              have HO217 := n7_
              have HO226 := n8_
              have HO229 := n9_
              have HO232 := n10_
              have HO235 := n11_
              have HO243 := n12_
              have HO246 := n13_
              have HO249 := n14_
              have HO252 := n15_
              have BK220 := n16_
              have BK221 := n17_
              have BK238 := n18_
              have HB := n19_
              clear n0_ n1_ n2_ n3_ n4_ n5_ n6_ n7_ n8_ n9_ n10_ n11_ n12_ n13_ n14_ n15_ n16_ n17_ n18_ n19_
              (try clear hb)
              (try clear hb2)
              (try clear hk)
              (try clear hi)
              refine hK.out _ _ ⟨(blk_cell BK220.out 0).trans rfl, (blk_cell BK220.out 1).trans rfl, (blk_cell BK220.out 2).trans rfl, (blk_cell BK220.out 3).trans rfl, (blk_cell BK220.out 4).trans rfl, (blk_cell BK220.out 5).trans rfl, (blk_cell BK220.out 6).trans rfl, (blk_cell BK220.out 7).trans rfl, (blk_cell BK221.out 0).trans rfl, (blk_cell BK221.out 1).trans rfl, (blk_cell BK221.out 2).trans rfl, (blk_cell BK221.out 3).trans rfl, (blk_cell BK221.out 4).trans rfl, (blk_cell BK221.out 5).trans rfl, (blk_cell BK221.out 6).trans rfl, (blk_cell BK221.out 7).trans rfl, (blk_cell BK238.out 0).trans rfl, (blk_cell BK238.out 1).trans rfl, (blk_cell BK238.out 2).trans rfl, (blk_cell BK238.out 3).trans rfl, (blk_cell BK238.out 4).trans rfl, (blk_cell BK238.out 5).trans rfl, (blk_cell BK238.out 6).trans rfl, (blk_cell BK238.out 7).trans rfl⟩ (fun hHeld => ?_)
              clear hK K
              refine norm_ (a' := ?_) ?_ ?_
              rotate_left
              ·show Act.put _ (some 36) _ = _
               simp only [Act.put, List.setIfInBounds_toArray, List.set_cons_zero, List.set_cons_succ, i64_w, i32_w]
               rfl
              refine pure_ (i := 29) (N := some 37) (v := ?_) (a' := ?_) (tf 30 38) rfl rfl (any_of HT_.out (by kernel_rfl)) (fun _ _ _ h => h) (Or.inl ⟨by rfl, ?_⟩) ?_ ?_
              rotate_left
              ·intro w'
               go_simp
               with_reducible rfl
              rotate_left
              ·simp only [Act.put, List.setIfInBounds_toArray, List.set_cons_zero, List.set_cons_succ, i64_w, i32_w]
               rfl
              refine pure_ (i := 30) (N := some 38) (v := ?_) (a' := ?_) (tf 31 37) rfl rfl (any_of HT_.out (by kernel_rfl)) (fun _ _ _ h => h) (Or.inl ⟨by rfl, ?_⟩) ?_ ?_
              rotate_left
              ·intro w'
               go_simp
               with_reducible rfl
              rotate_left
              ·simp only [Act.put, List.setIfInBounds_toArray, List.set_cons_zero, List.set_cons_succ, i64_w, i32_w]
               rfl
              refine pure_ (i := 31) (N := some 39) (v := ?_) (a' := ?_) (tf 32 36) rfl rfl (any_of HT_.out (by kernel_rfl)) (fun _ _ _ h => h) (Or.inl ⟨by rfl, ?_⟩) ?_ ?_
              rotate_left
              ·intro w'
               go_simp
               with_reducible rfl
              rotate_left
              ·simp only [Act.put, List.setIfInBounds_toArray, List.set_cons_zero, List.set_cons_succ, i64_w, i32_w]
               rfl
              refine take_ (i := 32) (N := some 40) (v := ?_) (a' := ?_) (tf 33 35) rfl rfl (take_ofW HT_.out HW_.out (by kernel_rfl)) (fun _ _ _ h => h) (Or.inl ⟨by rfl, ?_⟩) hHeld ?_ ?_
              rotate_left
              ·rintro w' ⟨s0, s1, s2, s3, s4, s5, s6, s7, s8, s9, s10, s11, s12, s13, s14, s15, s16, s17, s18, s19, s20, s21, s22, s23⟩
               go_simp
               with_reducible rfl
              rotate_left
              ·simp only [Act.put, List.setIfInBounds_toArray, List.set_cons_zero, List.set_cons_succ, i64_w, i32_w]
               rfl
              refine one_ (i := 33) (N := some 41) (tf 34 34) rfl rfl (one_of HT_.out (by kernel_rfl)) (by decide) (fun K hK => ?_)
              refine goes_ Try.func15 (by kernel_rfl) rfl #[.agg #[.bool t204, .bool t205, .slice Ao78 t206.length co78, .slice Ao79 t209.length co79, .slice Ao80 t212.length co80, .slice Ao81 t215.length co81, .bool true, .bool t219], .string (⟨#[98]⟩ : ByteArray), .string (⟨#[111, 110, 99, 108, 105, 99, 107]⟩ : ByteArray)] (by rfl) rfl rfl (by (try simp only [List.map_toArray, List.map_cons, List.map_nil]); first | done | rfl | (simp only [List.length_drop, List.length_take]; rfl)) ?_
              with_reducible refine (config_Attr.calls t204 t205 _ _ t206 _ _ t209 _ _ t212 _ _ t215 true t219 (⟨#[98]⟩ : ByteArray) (⟨#[111, 110, 99, 108, 105, 99, 107]⟩ : ByteArray) true _ ?side1 ?side2 ?side3 ?side4 ?side5 ?side6 ?side7 ?side8 A54.out).mono ?_
              (case side1 => repeat (first | exact (Kd.R_reads' HO208.out).2.2 | (with_reducible refine Kd.C_alloc ?_ _) | (with_reducible refine Kd.C_drewN ?_ _) | (with_reducible refine Kd.C_drew ?_)))
              (case side2 => exact (Kd.R_reads' HO208.out).2.1)
              (case side3 => repeat (first | exact (Kd.R_reads' HO211.out).2.2 | (with_reducible refine Kd.C_alloc ?_ _) | (with_reducible refine Kd.C_drewN ?_ _) | (with_reducible refine Kd.C_drew ?_)))
              (case side4 => exact (Kd.R_reads' HO211.out).2.1)
              (case side5 => repeat (first | exact (Kd.R_reads' HO214.out).2.2 | (with_reducible refine Kd.C_alloc ?_ _) | (with_reducible refine Kd.C_drewN ?_ _) | (with_reducible refine Kd.C_drew ?_)))
              (case side6 => exact (Kd.R_reads' HO214.out).2.1)
              (case side7 => repeat (first | exact (Kd.N_reads' HO217.out).2.2 | (with_reducible refine Kd.C_alloc ?_ _) | (with_reducible refine Kd.C_drewN ?_ _) | (with_reducible refine Kd.C_drew ?_)))
              (case side8 => exact (Kd.N_reads' HO217.out).2.1)
              rintro e w104 ⟨rfl, hb⟩
              refine ⟨_, rfl, ?_⟩
              have n0_ := Aside0.mk (Kd.R_below (by exact HO192.out) hb)
              have n1_ := Aside0.mk (Kd.R_below (by exact HO195.out) hb)
              have n2_ := Aside0.mk (Kd.R_below (by exact HO198.out) hb)
              have n3_ := Aside0.mk (Kd.N_below (by exact HO201.out) hb)
              have n4_ := Aside0.mk (Kd.R_below (by exact HO208.out) hb)
              have n5_ := Aside0.mk (Kd.R_below (by exact HO211.out) hb)
              have n6_ := Aside0.mk (Kd.R_below (by exact HO214.out) hb)
              have n7_ := Aside0.mk (Kd.N_below (by exact HO217.out) hb)
              have n8_ := Aside0.mk (Kd.R_below (by exact HO226.out) hb)
              have n9_ := Aside0.mk (Kd.R_below (by exact HO229.out) hb)
              have n10_ := Aside0.mk (Kd.R_below (by exact HO232.out) hb)
              have n11_ := Aside0.mk (Kd.N_below (by exact HO235.out) hb)
              have n12_ := Aside0.mk (Kd.R_below (by exact HO243.out) hb)
              have n13_ := Aside0.mk (Kd.R_below (by exact HO246.out) hb)
              have n14_ := Aside0.mk (Kd.R_below (by exact HO249.out) hb)
              have n15_ := Aside0.mk (Kd.N_below (by exact HO252.out) hb)
              have n16_ := Aside0.mk (blk_below (g := gb220) (o := .cells #[.bool t188, .bool t189, .slice Ao73 t190.length co73, .slice Ao74 t193.length co74, .slice Ao75 t196.length co75, .slice Ao76 t199.length co76, .bool t202, .bool t203] 25 (0, 0)) (by exact BK220.out) hb)
              have n17_ := Aside0.mk (blk_below (g := gb221) (o := .cells #[.bool t204, .bool t205, .slice Ao78 t206.length co78, .slice Ao79 t209.length co79, .slice Ao80 t212.length co80, .slice Ao81 t215.length co81, .bool true, .bool t219] 25 (0, 0)) (by exact BK221.out) hb)
              have n18_ := Aside0.mk (blk_below (g := gb238) (o := .cells #[.bool t222, .bool t223, .slice Ao87 t224.length co87, .slice Ao88 t227.length co88, .slice Ao89 t230.length co89, .slice Ao90 t233.length co90, .bool t236, .bool t237] 25 (0, 0)) (by exact BK238.out) hb)
              have n19_ := Aside0.mk (below_step (by repeat (first | (with_reducible first | exact HB.out | apply below_alloc | apply pw_below_drewN | apply below_drew1 | refine below_set ?_ GE220.out | refine below_set ?_ GE221.out | refine below_set ?_ GE238.out) | exact HB.out)) hb)
              clear HO192
              clear HO195
              clear HO198
              clear HO201
              clear HO208
              clear HO211
              clear HO214
              clear HO217
              clear HO226
              clear HO229
              clear HO232
              clear HO235
              clear HO243
              clear HO246
              clear HO249
              clear HO252
              clear BK220
              clear BK221
              clear BK238
              clear HB
              have HO192 := n0_
              have HO195 := n1_
              have HO198 := n2_
              have HO201 := n3_
              have HO208 := n4_
              have HO211 := n5_
              have HO214 := n6_
              have HO217 := n7_
              have HO226 := n8_
              have HO229 := n9_
              have HO232 := n10_
              have HO235 := n11_
              have HO243 := n12_
              have HO246 := n13_
              have HO249 := n14_
              have HO252 := n15_
              have BK220 := n16_
              have BK221 := n17_
              have BK238 := n18_
              have HB := n19_
              clear n0_ n1_ n2_ n3_ n4_ n5_ n6_ n7_ n8_ n9_ n10_ n11_ n12_ n13_ n14_ n15_ n16_ n17_ n18_ n19_
              (try clear hb)
              (try clear hb2)
              (try clear hk)
              (try clear hi)
              refine hK.out _ _ ⟨(blk_cell BK220.out 0).trans rfl, (blk_cell BK220.out 1).trans rfl, (blk_cell BK220.out 2).trans rfl, (blk_cell BK220.out 3).trans rfl, (blk_cell BK220.out 4).trans rfl, (blk_cell BK220.out 5).trans rfl, (blk_cell BK220.out 6).trans rfl, (blk_cell BK220.out 7).trans rfl, (blk_cell BK221.out 0).trans rfl, (blk_cell BK221.out 1).trans rfl, (blk_cell BK221.out 2).trans rfl, (blk_cell BK221.out 3).trans rfl, (blk_cell BK221.out 4).trans rfl, (blk_cell BK221.out 5).trans rfl, (blk_cell BK221.out 6).trans rfl, (blk_cell BK221.out 7).trans rfl, (blk_cell BK238.out 0).trans rfl, (blk_cell BK238.out 1).trans rfl, (blk_cell BK238.out 2).trans rfl, (blk_cell BK238.out 3).trans rfl, (blk_cell BK238.out 4).trans rfl, (blk_cell BK238.out 5).trans rfl, (blk_cell BK238.out 6).trans rfl, (blk_cell BK238.out 7).trans rfl⟩ (fun hHeld => ?_)
              clear hK K
              refine norm_ (a' := ?_) ?_ ?_
              rotate_left
              ·show Act.put _ (some 41) _ = _
               simp only [Act.put, List.setIfInBounds_toArray, List.set_cons_zero, List.set_cons_succ, i64_w, i32_w]
               rfl
              refine pure_ (i := 34) (N := some 42) (v := ?_) (a' := ?_) (tf 35 33) rfl rfl (any_of HT_.out (by kernel_rfl)) (fun _ _ _ h => h) (Or.inl ⟨by rfl, ?_⟩) ?_ ?_
              rotate_left
              ·intro w'
               go_simp
               with_reducible rfl
              rotate_left
              ·simp only [Act.put, List.setIfInBounds_toArray, List.set_cons_zero, List.set_cons_succ, i64_w, i32_w]
               rfl
              refine pure_ (i := 35) (N := some 43) (v := ?_) (a' := ?_) (tf 36 32) rfl rfl (any_of HT_.out (by kernel_rfl)) (fun _ _ _ h => h) (Or.inl ⟨by rfl, ?_⟩) ?_ ?_
              rotate_left
              ·intro w'
               go_simp
               with_reducible rfl
              rotate_left
              ·simp only [Act.put, List.setIfInBounds_toArray, List.set_cons_zero, List.set_cons_succ, i64_w, i32_w]
               rfl
              refine take_ (i := 36) (N := some 44) (v := ?_) (a' := ?_) (tf 37 31) rfl rfl (take_ofW HT_.out HW_.out (by kernel_rfl)) (fun _ _ _ h => h) (Or.inl ⟨by rfl, ?_⟩) hHeld ?_ ?_
              rotate_left
              ·rintro w' ⟨s0, s1, s2, s3, s4, s5, s6, s7, s8, s9, s10, s11, s12, s13, s14, s15, s16, s17, s18, s19, s20, s21, s22, s23⟩
               go_simp
               with_reducible rfl
              rotate_left
              ·simp only [Act.put, List.setIfInBounds_toArray, List.set_cons_zero, List.set_cons_succ, i64_w, i32_w]
               rfl
              refine one_ (i := 37) (N := some 45) (tf 38 30) rfl rfl (one_of HT_.out (by kernel_rfl)) (by decide) (fun K hK => ?_)
              refine goes_ Try.func13 (by kernel_rfl) rfl #[.agg #[.bool t222, .bool t223, .slice Ao87 t224.length co87, .slice Ao88 t227.length co88, .slice Ao89 t230.length co89, .slice Ao90 t233.length co90, .bool t236, .bool t237], .string (⟨#[115, 99, 114, 105, 112, 116]⟩ : ByteArray)] (by rfl) rfl rfl (by (try simp only [List.map_toArray, List.map_cons, List.map_nil]); first | done | rfl | (simp only [List.length_drop, List.length_take]; rfl)) ?_
              with_reducible refine (config_Element.calls k t222 t223 _ _ t224 _ _ t227 _ _ t230 _ _ t233 t236 t237 (⟨#[115, 99, 114, 105, 112, 116]⟩ : ByteArray) t262 _ ?side1 ?side2 ?side3 ?side4 ?side5 ?side6 ?side7 ?side8 A56.out).mono ?_
              (case side1 => repeat (first | exact (Kd.R_reads' HO226.out).2.2 | (with_reducible refine Kd.C_alloc ?_ _) | (with_reducible refine Kd.C_drewN ?_ _) | (with_reducible refine Kd.C_drew ?_)))
              (case side2 => exact (Kd.R_reads' HO226.out).2.1)
              (case side3 => repeat (first | exact (Kd.R_reads' HO229.out).2.2 | (with_reducible refine Kd.C_alloc ?_ _) | (with_reducible refine Kd.C_drewN ?_ _) | (with_reducible refine Kd.C_drew ?_)))
              (case side4 => exact (Kd.R_reads' HO229.out).2.1)
              (case side5 => repeat (first | exact (Kd.R_reads' HO232.out).2.2 | (with_reducible refine Kd.C_alloc ?_ _) | (with_reducible refine Kd.C_drewN ?_ _) | (with_reducible refine Kd.C_drew ?_)))
              (case side6 => exact (Kd.R_reads' HO232.out).2.1)
              (case side7 => repeat (first | exact (Kd.N_reads' HO235.out).2.2 | (with_reducible refine Kd.C_alloc ?_ _) | (with_reducible refine Kd.C_drewN ?_ _) | (with_reducible refine Kd.C_drew ?_)))
              (case side8 => exact (Kd.N_reads' HO235.out).2.1)
              rintro e w105 ⟨rfl, hb⟩
              refine ⟨_, rfl, ?_⟩
              have n0_ := Aside0.mk (Kd.R_below (by exact HO192.out) hb)
              have n1_ := Aside0.mk (Kd.R_below (by exact HO195.out) hb)
              have n2_ := Aside0.mk (Kd.R_below (by exact HO198.out) hb)
              have n3_ := Aside0.mk (Kd.N_below (by exact HO201.out) hb)
              have n4_ := Aside0.mk (Kd.R_below (by exact HO208.out) hb)
              have n5_ := Aside0.mk (Kd.R_below (by exact HO211.out) hb)
              have n6_ := Aside0.mk (Kd.R_below (by exact HO214.out) hb)
              have n7_ := Aside0.mk (Kd.N_below (by exact HO217.out) hb)
              have n8_ := Aside0.mk (Kd.R_below (by exact HO226.out) hb)
              have n9_ := Aside0.mk (Kd.R_below (by exact HO229.out) hb)
              have n10_ := Aside0.mk (Kd.R_below (by exact HO232.out) hb)
              have n11_ := Aside0.mk (Kd.N_below (by exact HO235.out) hb)
              have n12_ := Aside0.mk (Kd.R_below (by exact HO243.out) hb)
              have n13_ := Aside0.mk (Kd.R_below (by exact HO246.out) hb)
              have n14_ := Aside0.mk (Kd.R_below (by exact HO249.out) hb)
              have n15_ := Aside0.mk (Kd.N_below (by exact HO252.out) hb)
              have n16_ := Aside0.mk (blk_below (g := gb220) (o := .cells #[.bool t188, .bool t189, .slice Ao73 t190.length co73, .slice Ao74 t193.length co74, .slice Ao75 t196.length co75, .slice Ao76 t199.length co76, .bool t202, .bool t203] 25 (0, 0)) (by exact BK220.out) hb)
              have n17_ := Aside0.mk (blk_below (g := gb221) (o := .cells #[.bool t204, .bool t205, .slice Ao78 t206.length co78, .slice Ao79 t209.length co79, .slice Ao80 t212.length co80, .slice Ao81 t215.length co81, .bool true, .bool t219] 25 (0, 0)) (by exact BK221.out) hb)
              have n18_ := Aside0.mk (blk_below (g := gb238) (o := .cells #[.bool t222, .bool t223, .slice Ao87 t224.length co87, .slice Ao88 t227.length co88, .slice Ao89 t230.length co89, .slice Ao90 t233.length co90, .bool t236, .bool t237] 25 (0, 0)) (by exact BK238.out) hb)
              have n19_ := Aside0.mk (below_step (by repeat (first | (with_reducible first | exact HB.out | apply below_alloc | apply pw_below_drewN | apply below_drew1 | refine below_set ?_ GE220.out | refine below_set ?_ GE221.out | refine below_set ?_ GE238.out) | exact HB.out)) hb)
              clear HO192
              clear HO195
              clear HO198
              clear HO201
              clear HO208
              clear HO211
              clear HO214
              clear HO217
              clear HO226
              clear HO229
              clear HO232
              clear HO235
              clear HO243
              clear HO246
              clear HO249
              clear HO252
              clear BK220
              clear BK221
              clear BK238
              clear HB
              have HO192 := n0_
              have HO195 := n1_
              have HO198 := n2_
              have HO201 := n3_
              have HO208 := n4_
              have HO211 := n5_
              have HO214 := n6_
              have HO217 := n7_
              have HO226 := n8_
              have HO229 := n9_
              have HO232 := n10_
              have HO235 := n11_
              have HO243 := n12_
              have HO246 := n13_
              have HO249 := n14_
              have HO252 := n15_
              have BK220 := n16_
              have BK221 := n17_
              have BK238 := n18_
              have HB := n19_
              clear n0_ n1_ n2_ n3_ n4_ n5_ n6_ n7_ n8_ n9_ n10_ n11_ n12_ n13_ n14_ n15_ n16_ n17_ n18_ n19_
              (try clear hb)
              (try clear hb2)
              (try clear hk)
              (try clear hi)
              refine hK.out _ _ ⟨(blk_cell BK220.out 0).trans rfl, (blk_cell BK220.out 1).trans rfl, (blk_cell BK220.out 2).trans rfl, (blk_cell BK220.out 3).trans rfl, (blk_cell BK220.out 4).trans rfl, (blk_cell BK220.out 5).trans rfl, (blk_cell BK220.out 6).trans rfl, (blk_cell BK220.out 7).trans rfl, (blk_cell BK221.out 0).trans rfl, (blk_cell BK221.out 1).trans rfl, (blk_cell BK221.out 2).trans rfl, (blk_cell BK221.out 3).trans rfl, (blk_cell BK221.out 4).trans rfl, (blk_cell BK221.out 5).trans rfl, (blk_cell BK221.out 6).trans rfl, (blk_cell BK221.out 7).trans rfl, (blk_cell BK238.out 0).trans rfl, (blk_cell BK238.out 1).trans rfl, (blk_cell BK238.out 2).trans rfl, (blk_cell BK238.out 3).trans rfl, (blk_cell BK238.out 4).trans rfl, (blk_cell BK238.out 5).trans rfl, (blk_cell BK238.out 6).trans rfl, (blk_cell BK238.out 7).trans rfl⟩ (fun hHeld => ?_)
              clear hK K
              refine norm_ (a' := ?_) ?_ ?_
              rotate_left
              ·show Act.put _ (some 45) _ = _
               simp only [Act.put, List.setIfInBounds_toArray, List.set_cons_zero, List.set_cons_succ, i64_w, i32_w]
               rfl
              refine pure_ (i := 38) (N := some 46) (v := ?_) (a' := ?_) (tf 39 29) rfl rfl (any_of HT_.out (by kernel_rfl)) (fun _ _ _ h => h) (Or.inl ⟨by rfl, ?_⟩) ?_ ?_
              rotate_left
              ·intro w'
               go_simp
               with_reducible rfl
              rotate_left
              ·simp only [Act.put, List.setIfInBounds_toArray, List.set_cons_zero, List.set_cons_succ, i64_w, i32_w]
               rfl
              refine pure_ (i := 39) (N := some 47) (v := ?_) (a' := ?_) (tf 40 28) rfl rfl (any_of HT_.out (by kernel_rfl)) (fun _ _ _ h => h) (Or.inl ⟨by rfl, ?_⟩) ?_ ?_
              rotate_left
              ·intro w'
               go_simp
               with_reducible rfl
              rotate_left
              ·simp only [Act.put, List.setIfInBounds_toArray, List.set_cons_zero, List.set_cons_succ, i64_w, i32_w]
               rfl
              refine pure_ (i := 40) (N := some 48) (v := ?_) (a' := ?_) (tf 41 27) rfl rfl (any_of HT_.out (by kernel_rfl)) (fun _ _ _ h => h) (Or.inl ⟨by rfl, ?_⟩) ?_ ?_
              rotate_left
              ·intro w'
               go_simp
               with_reducible rfl
              rotate_left
              ·simp only [Act.put, List.setIfInBounds_toArray, List.set_cons_zero, List.set_cons_succ, i64_w, i32_w]
               rfl
              refine take_ (i := 41) (N := some 49) (v := ?_) (a' := ?_) (tf 42 26) rfl rfl (take_ofW HT_.out HW_.out (by kernel_rfl)) (fun _ _ _ h => h) (Or.inl ⟨by rfl, ?_⟩) hHeld ?_ ?_
              rotate_left
              ·rintro w' ⟨s0, s1, s2, s3, s4, s5, s6, s7, s8, s9, s10, s11, s12, s13, s14, s15, s16, s17, s18, s19, s20, s21, s22, s23⟩
               go_simp
               with_reducible rfl
              rotate_left
              ·simp only [Act.put, List.setIfInBounds_toArray, List.set_cons_zero, List.set_cons_succ, i64_w, i32_w]
               rfl
              refine one_ (i := 42) (N := some 50) (tf 43 25) rfl rfl (one_of HT_.out (by kernel_rfl)) (by decide) (fun K hK => ?_)
              refine goes_ Try.func13 (by kernel_rfl) rfl #[.agg #[.bool t222, .bool t223, .slice Ao87 t224.length co87, .slice Ao88 t227.length co88, .slice Ao89 t230.length co89, .slice Ao90 t233.length co90, .bool t236, .bool t237], .string (⟨#[98]⟩ : ByteArray)] (by rfl) rfl rfl (by (try simp only [List.map_toArray, List.map_cons, List.map_nil]); first | done | rfl | (simp only [List.length_drop, List.length_take]; rfl)) ?_
              with_reducible refine (config_Element.calls k t222 t223 _ _ t224 _ _ t227 _ _ t230 _ _ t233 t236 t237 (⟨#[98]⟩ : ByteArray) t263 _ ?side1 ?side2 ?side3 ?side4 ?side5 ?side6 ?side7 ?side8 A58.out).mono ?_
              (case side1 => repeat (first | exact (Kd.R_reads' HO226.out).2.2 | (with_reducible refine Kd.C_alloc ?_ _) | (with_reducible refine Kd.C_drewN ?_ _) | (with_reducible refine Kd.C_drew ?_)))
              (case side2 => exact (Kd.R_reads' HO226.out).2.1)
              (case side3 => repeat (first | exact (Kd.R_reads' HO229.out).2.2 | (with_reducible refine Kd.C_alloc ?_ _) | (with_reducible refine Kd.C_drewN ?_ _) | (with_reducible refine Kd.C_drew ?_)))
              (case side4 => exact (Kd.R_reads' HO229.out).2.1)
              (case side5 => repeat (first | exact (Kd.R_reads' HO232.out).2.2 | (with_reducible refine Kd.C_alloc ?_ _) | (with_reducible refine Kd.C_drewN ?_ _) | (with_reducible refine Kd.C_drew ?_)))
              (case side6 => exact (Kd.R_reads' HO232.out).2.1)
              (case side7 => repeat (first | exact (Kd.N_reads' HO235.out).2.2 | (with_reducible refine Kd.C_alloc ?_ _) | (with_reducible refine Kd.C_drewN ?_ _) | (with_reducible refine Kd.C_drew ?_)))
              (case side8 => exact (Kd.N_reads' HO235.out).2.1)
              rintro e w106 ⟨rfl, hb⟩
              refine ⟨_, rfl, ?_⟩
              have n0_ := Aside0.mk (Kd.R_below (by exact HO192.out) hb)
              have n1_ := Aside0.mk (Kd.R_below (by exact HO195.out) hb)
              have n2_ := Aside0.mk (Kd.R_below (by exact HO198.out) hb)
              have n3_ := Aside0.mk (Kd.N_below (by exact HO201.out) hb)
              have n4_ := Aside0.mk (Kd.R_below (by exact HO208.out) hb)
              have n5_ := Aside0.mk (Kd.R_below (by exact HO211.out) hb)
              have n6_ := Aside0.mk (Kd.R_below (by exact HO214.out) hb)
              have n7_ := Aside0.mk (Kd.N_below (by exact HO217.out) hb)
              have n8_ := Aside0.mk (Kd.R_below (by exact HO226.out) hb)
              have n9_ := Aside0.mk (Kd.R_below (by exact HO229.out) hb)
              have n10_ := Aside0.mk (Kd.R_below (by exact HO232.out) hb)
              have n11_ := Aside0.mk (Kd.N_below (by exact HO235.out) hb)
              have n12_ := Aside0.mk (Kd.R_below (by exact HO243.out) hb)
              have n13_ := Aside0.mk (Kd.R_below (by exact HO246.out) hb)
              have n14_ := Aside0.mk (Kd.R_below (by exact HO249.out) hb)
              have n15_ := Aside0.mk (Kd.N_below (by exact HO252.out) hb)
              have n16_ := Aside0.mk (blk_below (g := gb220) (o := .cells #[.bool t188, .bool t189, .slice Ao73 t190.length co73, .slice Ao74 t193.length co74, .slice Ao75 t196.length co75, .slice Ao76 t199.length co76, .bool t202, .bool t203] 25 (0, 0)) (by exact BK220.out) hb)
              have n17_ := Aside0.mk (blk_below (g := gb221) (o := .cells #[.bool t204, .bool t205, .slice Ao78 t206.length co78, .slice Ao79 t209.length co79, .slice Ao80 t212.length co80, .slice Ao81 t215.length co81, .bool true, .bool t219] 25 (0, 0)) (by exact BK221.out) hb)
              have n18_ := Aside0.mk (blk_below (g := gb238) (o := .cells #[.bool t222, .bool t223, .slice Ao87 t224.length co87, .slice Ao88 t227.length co88, .slice Ao89 t230.length co89, .slice Ao90 t233.length co90, .bool t236, .bool t237] 25 (0, 0)) (by exact BK238.out) hb)
              have n19_ := Aside0.mk (below_step (by repeat (first | (with_reducible first | exact HB.out | apply below_alloc | apply pw_below_drewN | apply below_drew1 | refine below_set ?_ GE220.out | refine below_set ?_ GE221.out | refine below_set ?_ GE238.out) | exact HB.out)) hb)
              clear HO192
              clear HO195
              clear HO198
              clear HO201
              clear HO208
              clear HO211
              clear HO214
              clear HO217
              clear HO226
              clear HO229
              clear HO232
              clear HO235
              clear HO243
              clear HO246
              clear HO249
              clear HO252
              clear BK220
              clear BK221
              clear BK238
              clear HB
              have HO192 := n0_
              have HO195 := n1_
              have HO198 := n2_
              have HO201 := n3_
              have HO208 := n4_
              have HO211 := n5_
              have HO214 := n6_
              have HO217 := n7_
              have HO226 := n8_
              have HO229 := n9_
              have HO232 := n10_
              have HO235 := n11_
              have HO243 := n12_
              have HO246 := n13_
              have HO249 := n14_
              have HO252 := n15_
              have BK220 := n16_
              have BK221 := n17_
              have BK238 := n18_
              have HB := n19_
              clear n0_ n1_ n2_ n3_ n4_ n5_ n6_ n7_ n8_ n9_ n10_ n11_ n12_ n13_ n14_ n15_ n16_ n17_ n18_ n19_
              (try clear hb)
              (try clear hb2)
              (try clear hk)
              (try clear hi)
              refine hK.out _ _ ⟨(blk_cell BK220.out 0).trans rfl, (blk_cell BK220.out 1).trans rfl, (blk_cell BK220.out 2).trans rfl, (blk_cell BK220.out 3).trans rfl, (blk_cell BK220.out 4).trans rfl, (blk_cell BK220.out 5).trans rfl, (blk_cell BK220.out 6).trans rfl, (blk_cell BK220.out 7).trans rfl, (blk_cell BK221.out 0).trans rfl, (blk_cell BK221.out 1).trans rfl, (blk_cell BK221.out 2).trans rfl, (blk_cell BK221.out 3).trans rfl, (blk_cell BK221.out 4).trans rfl, (blk_cell BK221.out 5).trans rfl, (blk_cell BK221.out 6).trans rfl, (blk_cell BK221.out 7).trans rfl, (blk_cell BK238.out 0).trans rfl, (blk_cell BK238.out 1).trans rfl, (blk_cell BK238.out 2).trans rfl, (blk_cell BK238.out 3).trans rfl, (blk_cell BK238.out 4).trans rfl, (blk_cell BK238.out 5).trans rfl, (blk_cell BK238.out 6).trans rfl, (blk_cell BK238.out 7).trans rfl⟩ (fun hHeld => ?_)
              clear hK K
              refine norm_ (a' := ?_) ?_ ?_
              rotate_left
              ·show Act.put _ (some 50) _ = _
               simp only [Act.put, List.setIfInBounds_toArray, List.set_cons_zero, List.set_cons_succ, i64_w, i32_w]
               rfl
              refine pure_ (i := 43) (N := some 51) (v := ?_) (a' := ?_) (tf 44 24) rfl rfl (any_of HT_.out (by kernel_rfl)) (fun _ _ _ h => h) (Or.inl ⟨by rfl, ?_⟩) ?_ ?_
              rotate_left
              ·intro w'
               go_simp
               with_reducible rfl
              rotate_left
              ·simp only [Act.put, List.setIfInBounds_toArray, List.set_cons_zero, List.set_cons_succ, i64_w, i32_w]
               rfl
              refine pure_ (i := 44) (N := some 52) (v := ?_) (a' := ?_) (tf 45 23) rfl rfl (any_of HT_.out (by kernel_rfl)) (fun _ _ _ h => h) (Or.inl ⟨by rfl, ?_⟩) ?_ ?_
              rotate_left
              ·intro w'
               go_simp
               with_reducible rfl
              rotate_left
              ·simp only [Act.put, List.setIfInBounds_toArray, List.set_cons_zero, List.set_cons_succ, i64_w, i32_w]
               rfl
              refine pure_ (i := 45) (N := some 53) (v := ?_) (a' := ?_) (tf 46 22) rfl rfl (any_of HT_.out (by kernel_rfl)) (fun _ _ _ h => h) (Or.inl ⟨by rfl, ?_⟩) ?_ ?_
              rotate_left
              ·intro w'
               go_simp
               with_reducible rfl
              rotate_left
              ·simp only [Act.put, List.setIfInBounds_toArray, List.set_cons_zero, List.set_cons_succ, i64_w, i32_w]
               rfl
              refine take_ (i := 46) (N := some 54) (v := ?_) (a' := ?_) (tf 47 21) rfl rfl (take_ofW HT_.out HW_.out (by kernel_rfl)) (fun _ _ _ h => h) (Or.inl ⟨by rfl, ?_⟩) hHeld ?_ ?_
              rotate_left
              ·rintro w' ⟨s0, s1, s2, s3, s4, s5, s6, s7, s8, s9, s10, s11, s12, s13, s14, s15, s16, s17, s18, s19, s20, s21, s22, s23⟩
               go_simp
               with_reducible rfl
              rotate_left
              ·simp only [Act.put, List.setIfInBounds_toArray, List.set_cons_zero, List.set_cons_succ, i64_w, i32_w]
               rfl
              refine one_ (i := 47) (N := some 55) (tf 48 20) rfl rfl (one_of HT_.out (by kernel_rfl)) (by decide) (fun K hK => ?_)
              refine goes_ Try.func18 (by kernel_rfl) rfl #[.agg #[.bool t188, .bool t189, .slice Ao73 t190.length co73, .slice Ao74 t193.length co74, .slice Ao75 t196.length co75, .slice Ao76 t199.length co76, .bool t202, .bool t203]] (by rfl) rfl rfl (by (try simp only [List.map_toArray, List.map_cons, List.map_nil]); first | done | rfl | (simp only [List.length_drop, List.length_take]; rfl)) ?_
              with_reducible refine (config_Check.calls t188 t189 _ _ t190 _ _ t193 _ _ t196 _ _ t199 t202 t203 t264 _ ?side1 ?side2 ?side3 ?side4 ?side5 ?side6 ?side7 ?side8 A60.out).mono ?_
              (case side1 => repeat (first | exact (Kd.R_reads' HO192.out).2.2 | (with_reducible refine Kd.C_alloc ?_ _) | (with_reducible refine Kd.C_drewN ?_ _) | (with_reducible refine Kd.C_drew ?_)))
              (case side2 => exact (Kd.R_reads' HO192.out).2.1)
              (case side3 => repeat (first | exact (Kd.R_reads' HO195.out).2.2 | (with_reducible refine Kd.C_alloc ?_ _) | (with_reducible refine Kd.C_drewN ?_ _) | (with_reducible refine Kd.C_drew ?_)))
              (case side4 => exact (Kd.R_reads' HO195.out).2.1)
              (case side5 => repeat (first | exact (Kd.R_reads' HO198.out).2.2 | (with_reducible refine Kd.C_alloc ?_ _) | (with_reducible refine Kd.C_drewN ?_ _) | (with_reducible refine Kd.C_drew ?_)))
              (case side6 => exact (Kd.R_reads' HO198.out).2.1)
              (case side7 => repeat (first | exact (Kd.N_reads' HO201.out).2.2 | (with_reducible refine Kd.C_alloc ?_ _) | (with_reducible refine Kd.C_drewN ?_ _) | (with_reducible refine Kd.C_drew ?_)))
              (case side8 => exact (Kd.N_reads' HO201.out).2.1)
              rintro e w107 ⟨rfl, hb⟩
              refine ⟨_, rfl, ?_⟩
              have n0_ := Aside0.mk (Kd.R_below (by exact HO192.out) hb)
              have n1_ := Aside0.mk (Kd.R_below (by exact HO195.out) hb)
              have n2_ := Aside0.mk (Kd.R_below (by exact HO198.out) hb)
              have n3_ := Aside0.mk (Kd.N_below (by exact HO201.out) hb)
              have n4_ := Aside0.mk (Kd.R_below (by exact HO208.out) hb)
              have n5_ := Aside0.mk (Kd.R_below (by exact HO211.out) hb)
              have n6_ := Aside0.mk (Kd.R_below (by exact HO214.out) hb)
              have n7_ := Aside0.mk (Kd.N_below (by exact HO217.out) hb)
              have n8_ := Aside0.mk (Kd.R_below (by exact HO226.out) hb)
              have n9_ := Aside0.mk (Kd.R_below (by exact HO229.out) hb)
              have n10_ := Aside0.mk (Kd.R_below (by exact HO232.out) hb)
              have n11_ := Aside0.mk (Kd.N_below (by exact HO235.out) hb)
              have n12_ := Aside0.mk (Kd.R_below (by exact HO243.out) hb)
              have n13_ := Aside0.mk (Kd.R_below (by exact HO246.out) hb)
              have n14_ := Aside0.mk (Kd.R_below (by exact HO249.out) hb)
              have n15_ := Aside0.mk (Kd.N_below (by exact HO252.out) hb)
              have n16_ := Aside0.mk (blk_below (g := gb220) (o := .cells #[.bool t188, .bool t189, .slice Ao73 t190.length co73, .slice Ao74 t193.length co74, .slice Ao75 t196.length co75, .slice Ao76 t199.length co76, .bool t202, .bool t203] 25 (0, 0)) (by exact BK220.out) hb)
              have n17_ := Aside0.mk (blk_below (g := gb221) (o := .cells #[.bool t204, .bool t205, .slice Ao78 t206.length co78, .slice Ao79 t209.length co79, .slice Ao80 t212.length co80, .slice Ao81 t215.length co81, .bool true, .bool t219] 25 (0, 0)) (by exact BK221.out) hb)
              have n18_ := Aside0.mk (blk_below (g := gb238) (o := .cells #[.bool t222, .bool t223, .slice Ao87 t224.length co87, .slice Ao88 t227.length co88, .slice Ao89 t230.length co89, .slice Ao90 t233.length co90, .bool t236, .bool t237] 25 (0, 0)) (by exact BK238.out) hb)
              have n19_ := Aside0.mk (below_step (by repeat (first | (with_reducible first | exact HB.out | apply below_alloc | apply pw_below_drewN | apply below_drew1 | refine below_set ?_ GE220.out | refine below_set ?_ GE221.out | refine below_set ?_ GE238.out) | exact HB.out)) hb)
              clear HO192
              clear HO195
              clear HO198
              clear HO201
              clear HO208
              clear HO211
              clear HO214
              clear HO217
              clear HO226
              clear HO229
              clear HO232
              clear HO235
              clear HO243
              clear HO246
              clear HO249
              clear HO252
              clear BK220
              clear BK221
              clear BK238
              clear HB
              have HO192 := n0_
              have HO195 := n1_
              have HO198 := n2_
              have HO201 := n3_
              have HO208 := n4_
              have HO211 := n5_
              have HO214 := n6_
              have HO217 := n7_
              have HO226 := n8_
              have HO229 := n9_
              have HO232 := n10_
              have HO235 := n11_
              have HO243 := n12_
              have HO246 := n13_
              have HO249 := n14_
              have HO252 := n15_
              have BK220 := n16_
              have BK221 := n17_
              have BK238 := n18_
              have HB := n19_
              clear n0_ n1_ n2_ n3_ n4_ n5_ n6_ n7_ n8_ n9_ n10_ n11_ n12_ n13_ n14_ n15_ n16_ n17_ n18_ n19_
              (try clear hb)
              (try clear hb2)
              (try clear hk)
              (try clear hi)
              refine hK.out _ _ ⟨(blk_cell BK220.out 0).trans rfl, (blk_cell BK220.out 1).trans rfl, (blk_cell BK220.out 2).trans rfl, (blk_cell BK220.out 3).trans rfl, (blk_cell BK220.out 4).trans rfl, (blk_cell BK220.out 5).trans rfl, (blk_cell BK220.out 6).trans rfl, (blk_cell BK220.out 7).trans rfl, (blk_cell BK221.out 0).trans rfl, (blk_cell BK221.out 1).trans rfl, (blk_cell BK221.out 2).trans rfl, (blk_cell BK221.out 3).trans rfl, (blk_cell BK221.out 4).trans rfl, (blk_cell BK221.out 5).trans rfl, (blk_cell BK221.out 6).trans rfl, (blk_cell BK221.out 7).trans rfl, (blk_cell BK238.out 0).trans rfl, (blk_cell BK238.out 1).trans rfl, (blk_cell BK238.out 2).trans rfl, (blk_cell BK238.out 3).trans rfl, (blk_cell BK238.out 4).trans rfl, (blk_cell BK238.out 5).trans rfl, (blk_cell BK238.out 6).trans rfl, (blk_cell BK238.out 7).trans rfl⟩ (fun hHeld => ?_)
              clear hK K
              refine norm_ (a' := ?_) ?_ ?_
              rotate_left
              ·show Act.put _ (some 55) _ = _
               simp only [Act.put, List.setIfInBounds_toArray, List.set_cons_zero, List.set_cons_succ, i64_w, i32_w]
               rfl
              refine pure_ (i := 48) (N := some 56) (v := ?_) (a' := ?_) (tf 49 19) rfl rfl (any_of HT_.out (by kernel_rfl)) (fun _ _ _ h => h) (Or.inl ⟨by rfl, ?_⟩) ?_ ?_
              rotate_left
              ·intro w'
               go_simp
               with_reducible rfl
              rotate_left
              ·simp only [Act.put, List.setIfInBounds_toArray, List.set_cons_zero, List.set_cons_succ, i64_w, i32_w]
               rfl
              refine pure_ (i := 49) (N := some 57) (v := ?_) (a' := ?_) (tf 50 18) rfl rfl (any_of HT_.out (by kernel_rfl)) (fun _ _ _ h => h) (Or.inl ⟨by rfl, ?_⟩) ?_ ?_
              rotate_left
              ·intro w'
               go_simp
               with_reducible rfl
              rotate_left
              ·simp only [Act.put, List.setIfInBounds_toArray, List.set_cons_zero, List.set_cons_succ, i64_w, i32_w]
               rfl
              refine pure_ (i := 50) (N := some 58) (v := ?_) (a' := ?_) (tf 51 17) rfl rfl (any_of HT_.out (by kernel_rfl)) (fun _ _ _ h => h) (Or.inl ⟨by rfl, ?_⟩) ?_ ?_
              rotate_left
              ·intro w'
               go_simp
               with_reducible rfl
              rotate_left
              ·simp only [Act.put, List.setIfInBounds_toArray, List.set_cons_zero, List.set_cons_succ, i64_w, i32_w]
               rfl
              refine pure_ (i := 51) (N := some 59) (v := ?_) (a' := ?_) (tf 52 16) rfl rfl (any_of HT_.out (by kernel_rfl)) (fun _ _ _ h => h) (Or.inl ⟨by rfl, ?_⟩) ?_ ?_
              rotate_left
              ·intro w'
               go_simp
               with_reducible rfl
              rotate_left
              ·simp only [Act.put, List.setIfInBounds_toArray, List.set_cons_zero, List.set_cons_succ, i64_w, i32_w]
               rfl
              refine one_ (i := 52) (N := some 60) (tf 53 15) rfl rfl (one_of HT_.out (by kernel_rfl)) (by decide) (fun K hK => ?_)
              refine goes_ Try.func18 (by kernel_rfl) rfl #[.agg #[.bool false, .bool false, .slice none 0 0, .slice none 0 0, .slice none 0 0, .slice none 0 0, .bool false, .bool true]] (by rfl) rfl rfl (by (try simp only [List.map_toArray, List.map_cons, List.map_nil]); first | done | rfl | (simp only [List.length_drop, List.length_take]; rfl)) ?_
              refine (config_Check.calls false false _ _ ([] : List ByteArray) _ _ ([] : List ByteArray) _ _ ([] : List ByteArray) _ _ ([] : List (S35)) false true t265 _ ?side1 ?side2 ?side3 ?side4 ?side5 ?side6 ?side7 ?side8 A62.out).mono ?_
              (case side1 => exact Kd.C_nil _ _)
              (case side2 => exact Nat.le_refl _)
              (case side3 => exact Kd.C_nil _ _)
              (case side4 => exact Nat.le_refl _)
              (case side5 => exact Kd.C_nil _ _)
              (case side6 => exact Nat.le_refl _)
              (case side7 => exact Kd.C_nil _ _)
              (case side8 => exact Nat.le_refl _)
              rintro e w108 ⟨rfl, hb⟩
              refine ⟨_, rfl, ?_⟩
              have n0_ := Aside0.mk (Kd.R_below (by exact HO192.out) hb)
              have n1_ := Aside0.mk (Kd.R_below (by exact HO195.out) hb)
              have n2_ := Aside0.mk (Kd.R_below (by exact HO198.out) hb)
              have n3_ := Aside0.mk (Kd.N_below (by exact HO201.out) hb)
              have n4_ := Aside0.mk (Kd.R_below (by exact HO208.out) hb)
              have n5_ := Aside0.mk (Kd.R_below (by exact HO211.out) hb)
              have n6_ := Aside0.mk (Kd.R_below (by exact HO214.out) hb)
              have n7_ := Aside0.mk (Kd.N_below (by exact HO217.out) hb)
              have n8_ := Aside0.mk (Kd.R_below (by exact HO226.out) hb)
              have n9_ := Aside0.mk (Kd.R_below (by exact HO229.out) hb)
              have n10_ := Aside0.mk (Kd.R_below (by exact HO232.out) hb)
              have n11_ := Aside0.mk (Kd.N_below (by exact HO235.out) hb)
              have n12_ := Aside0.mk (Kd.R_below (by exact HO243.out) hb)
              have n13_ := Aside0.mk (Kd.R_below (by exact HO246.out) hb)
              have n14_ := Aside0.mk (Kd.R_below (by exact HO249.out) hb)
              have n15_ := Aside0.mk (Kd.N_below (by exact HO252.out) hb)
              have n16_ := Aside0.mk (blk_below (g := gb220) (o := .cells #[.bool t188, .bool t189, .slice Ao73 t190.length co73, .slice Ao74 t193.length co74, .slice Ao75 t196.length co75, .slice Ao76 t199.length co76, .bool t202, .bool t203] 25 (0, 0)) (by exact BK220.out) hb)
              have n17_ := Aside0.mk (blk_below (g := gb221) (o := .cells #[.bool t204, .bool t205, .slice Ao78 t206.length co78, .slice Ao79 t209.length co79, .slice Ao80 t212.length co80, .slice Ao81 t215.length co81, .bool true, .bool t219] 25 (0, 0)) (by exact BK221.out) hb)
              have n18_ := Aside0.mk (blk_below (g := gb238) (o := .cells #[.bool t222, .bool t223, .slice Ao87 t224.length co87, .slice Ao88 t227.length co88, .slice Ao89 t230.length co89, .slice Ao90 t233.length co90, .bool t236, .bool t237] 25 (0, 0)) (by exact BK238.out) hb)
              have n19_ := Aside0.mk (below_step (by repeat (first | (with_reducible first | exact HB.out | apply below_alloc | apply pw_below_drewN | apply below_drew1 | refine below_set ?_ GE220.out | refine below_set ?_ GE221.out | refine below_set ?_ GE238.out) | exact HB.out)) hb)
              clear HO192
              clear HO195
              clear HO198
              clear HO201
              clear HO208
              clear HO211
              clear HO214
              clear HO217
              clear HO226
              clear HO229
              clear HO232
              clear HO235
              clear HO243
              clear HO246
              clear HO249
              clear HO252
              clear BK220
              clear BK221
              clear BK238
              clear HB
              have HO192 := n0_
              have HO195 := n1_
              have HO198 := n2_
              have HO201 := n3_
              have HO208 := n4_
              have HO211 := n5_
              have HO214 := n6_
              have HO217 := n7_
              have HO226 := n8_
              have HO229 := n9_
              have HO232 := n10_
              have HO235 := n11_
              have HO243 := n12_
              have HO246 := n13_
              have HO249 := n14_
              have HO252 := n15_
              have BK220 := n16_
              have BK221 := n17_
              have BK238 := n18_
              have HB := n19_
              clear n0_ n1_ n2_ n3_ n4_ n5_ n6_ n7_ n8_ n9_ n10_ n11_ n12_ n13_ n14_ n15_ n16_ n17_ n18_ n19_
              (try clear hb)
              (try clear hb2)
              (try clear hk)
              (try clear hi)
              refine hK.out _ _ ⟨(blk_cell BK220.out 0).trans rfl, (blk_cell BK220.out 1).trans rfl, (blk_cell BK220.out 2).trans rfl, (blk_cell BK220.out 3).trans rfl, (blk_cell BK220.out 4).trans rfl, (blk_cell BK220.out 5).trans rfl, (blk_cell BK220.out 6).trans rfl, (blk_cell BK220.out 7).trans rfl, (blk_cell BK221.out 0).trans rfl, (blk_cell BK221.out 1).trans rfl, (blk_cell BK221.out 2).trans rfl, (blk_cell BK221.out 3).trans rfl, (blk_cell BK221.out 4).trans rfl, (blk_cell BK221.out 5).trans rfl, (blk_cell BK221.out 6).trans rfl, (blk_cell BK221.out 7).trans rfl, (blk_cell BK238.out 0).trans rfl, (blk_cell BK238.out 1).trans rfl, (blk_cell BK238.out 2).trans rfl, (blk_cell BK238.out 3).trans rfl, (blk_cell BK238.out 4).trans rfl, (blk_cell BK238.out 5).trans rfl, (blk_cell BK238.out 6).trans rfl, (blk_cell BK238.out 7).trans rfl⟩ (fun hHeld => ?_)
              clear hK K
              refine norm_ (a' := ?_) ?_ ?_
              rotate_left
              ·show Act.put _ (some 60) _ = _
               simp only [Act.put, List.setIfInBounds_toArray, List.set_cons_zero, List.set_cons_succ, i64_w, i32_w]
               rfl
              refine pure_ (i := 53) (N := some 61) (v := ?_) (a' := ?_) (tf 54 14) rfl rfl (any_of HT_.out (by kernel_rfl)) (fun _ _ _ h => h) (Or.inl ⟨by rfl, ?_⟩) ?_ ?_
              rotate_left
              ·intro w'
               go_simp
               with_reducible rfl
              rotate_left
              ·simp only [Act.put, List.setIfInBounds_toArray, List.set_cons_zero, List.set_cons_succ, i64_w, i32_w]
               rfl
              refine pure_ (i := 54) (N := some 62) (v := ?_) (a' := ?_) (tf 55 13) rfl rfl (any_of HT_.out (by kernel_rfl)) (fun _ _ _ h => h) (Or.inl ⟨by rfl, ?_⟩) ?_ ?_
              rotate_left
              ·intro w'
               go_simp
               with_reducible rfl
              rotate_left
              ·simp only [Act.put, List.setIfInBounds_toArray, List.set_cons_zero, List.set_cons_succ, i64_w, i32_w]
               rfl
              refine pure_ (i := 55) (N := some 63) (v := ?_) (a' := ?_) (tf 56 12) rfl rfl (any_of HT_.out (by kernel_rfl)) (fun _ _ _ h => h) (Or.inl ⟨by rfl, ?_⟩) ?_ ?_
              rotate_left
              ·intro w'
               go_simp
               with_reducible rfl
              rotate_left
              ·simp only [Act.put, List.setIfInBounds_toArray, List.set_cons_zero, List.set_cons_succ, i64_w, i32_w]
               rfl
              refine one_ (i := 56) (N := some 64) (tf 57 11) rfl rfl (one_of HT_.out (by kernel_rfl)) (by decide) (fun K hK => ?_)
              refine Kd.R_lit_step Kd.string _ 9 ?hg (N := 64) ?hd (xs := ([(⟨#[65]⟩ : ByteArray)] : List ByteArray)) (inner := [.string (⟨#[65]⟩ : ByteArray)]) (ok := fun _ => True) (okp := fun _ => True) ?hr ?hp (fun _ hk => hk) trivial (Below.refl _ _) (Nat.le_refl _) (by simp) ?_; (case hd => rfl); (case hg => rfl); (case hr => first | (go_simp; done) | (go_simp; rfl)); (case hp => exact (Reps.one (show Kd.M Kd.string _ _ _ (⟨#[65]⟩ : ByteArray) [.string (⟨#[65]⟩ : ByteArray)] from rfl) (Reps.none _ _)))
              intro v267 w109 ho110 hb hg_ hnew_
              clear hg_ hnew_
              (first | rw [← Ny266.out] at ho110 | (simp only [Int.reduceToNat] at ho110; rw [← Ny266.out] at ho110))
              have n0_ := Aside0.mk (Kd.R_elder' (by exact HO192.out) (Kd.R_base ho110) hb)
              have n1_ := Aside0.mk (Kd.R_elder' (by exact HO195.out) (Kd.R_base ho110) hb)
              have n2_ := Aside0.mk (Kd.R_elder' (by exact HO198.out) (Kd.R_base ho110) hb)
              have n3_ := Aside0.mk (Kd.N_elder' (by exact HO201.out) (Kd.R_base ho110) hb)
              have n4_ := Aside0.mk (Kd.R_elder' (by exact HO208.out) (Kd.R_base ho110) hb)
              have n5_ := Aside0.mk (Kd.R_elder' (by exact HO211.out) (Kd.R_base ho110) hb)
              have n6_ := Aside0.mk (Kd.R_elder' (by exact HO214.out) (Kd.R_base ho110) hb)
              have n7_ := Aside0.mk (Kd.N_elder' (by exact HO217.out) (Kd.R_base ho110) hb)
              have n8_ := Aside0.mk (Kd.R_elder' (by exact HO226.out) (Kd.R_base ho110) hb)
              have n9_ := Aside0.mk (Kd.R_elder' (by exact HO229.out) (Kd.R_base ho110) hb)
              have n10_ := Aside0.mk (Kd.R_elder' (by exact HO232.out) (Kd.R_base ho110) hb)
              have n11_ := Aside0.mk (Kd.N_elder' (by exact HO235.out) (Kd.R_base ho110) hb)
              have n12_ := Aside0.mk (Kd.R_elder' (by exact HO243.out) (Kd.R_base ho110) hb)
              have n13_ := Aside0.mk (Kd.R_elder' (by exact HO246.out) (Kd.R_base ho110) hb)
              have n14_ := Aside0.mk (Kd.R_elder' (by exact HO249.out) (Kd.R_base ho110) hb)
              have n15_ := Aside0.mk (Kd.N_elder' (by exact HO252.out) (Kd.R_base ho110) hb)
              have n16_ := Aside0.mk (Kd.R_lower (Kd.R_new' (Kd.R_new' (Kd.R_new' (Kd.R_new' (Kd.R_new' (Kd.R_new' (Kd.R_new' (Kd.R_new' (Kd.R_new' (Kd.R_new' (Kd.R_new' (Kd.R_new' ho110 (Kd.R_lt (by exact HO192.out))) (Kd.R_lt (by exact HO195.out))) (Kd.R_lt (by exact HO198.out))) (Kd.R_lt (by exact HO208.out))) (Kd.R_lt (by exact HO211.out))) (Kd.R_lt (by exact HO214.out))) (Kd.R_lt (by exact HO226.out))) (Kd.R_lt (by exact HO229.out))) (Kd.R_lt (by exact HO232.out))) (Kd.R_lt (by exact HO243.out))) (Kd.R_lt (by exact HO246.out))) (Kd.R_lt (by exact HO249.out))) (below_size (by repeat (first | (with_reducible first | exact HB.out | apply below_alloc | apply pw_below_drewN | apply below_drew1 | refine below_set ?_ GE220.out | refine below_set ?_ GE221.out | refine below_set ?_ GE238.out) | exact HB.out))))
              have n17_ := Aside0.mk (blk_below (g := gb220) (o := .cells #[.bool t188, .bool t189, .slice Ao73 t190.length co73, .slice Ao74 t193.length co74, .slice Ao75 t196.length co75, .slice Ao76 t199.length co76, .bool t202, .bool t203] 25 (0, 0)) (by exact BK220.out) hb)
              have n18_ := Aside0.mk (blk_below (g := gb221) (o := .cells #[.bool t204, .bool t205, .slice Ao78 t206.length co78, .slice Ao79 t209.length co79, .slice Ao80 t212.length co80, .slice Ao81 t215.length co81, .bool true, .bool t219] 25 (0, 0)) (by exact BK221.out) hb)
              have n19_ := Aside0.mk (blk_below (g := gb238) (o := .cells #[.bool t222, .bool t223, .slice Ao87 t224.length co87, .slice Ao88 t227.length co88, .slice Ao89 t230.length co89, .slice Ao90 t233.length co90, .bool t236, .bool t237] 25 (0, 0)) (by exact BK238.out) hb)
              have n20_ := Aside0.mk (below_step (by repeat (first | (with_reducible first | exact HB.out | apply below_alloc | apply pw_below_drewN | apply below_drew1 | refine below_set ?_ GE220.out | refine below_set ?_ GE221.out | refine below_set ?_ GE238.out) | exact HB.out)) hb)
              clear HO192
              clear HO195
              clear HO198
              clear HO201
              clear HO208
              clear HO211
              clear HO214
              clear HO217
              clear HO226
              clear HO229
              clear HO232
              clear HO235
              clear HO243
              clear HO246
              clear HO249
              clear HO252
              clear BK220
              clear BK221
              clear BK238
              clear HB
              have HO192 := n0_
              have HO195 := n1_
              have HO198 := n2_
              have HO201 := n3_
              have HO208 := n4_
              have HO211 := n5_
              have HO214 := n6_
              have HO217 := n7_
              have HO226 := n8_
              have HO229 := n9_
              have HO232 := n10_
              have HO235 := n11_
              have HO243 := n12_
              have HO246 := n13_
              have HO249 := n14_
              have HO252 := n15_
              have HO268 := n16_
              have BK220 := n17_
              have BK221 := n18_
              have BK238 := n19_
              have HB := n20_
              clear n0_ n1_ n2_ n3_ n4_ n5_ n6_ n7_ n8_ n9_ n10_ n11_ n12_ n13_ n14_ n15_ n16_ n17_ n18_ n19_ n20_
              clear hb ho110
              obtain ⟨Ao111, co111, eo111⟩ := Kd.R_slice HO268.out
              (first | subst eo111 | (injection eo111 with f1_ f2_ f3_; have f4_ := f1_.symm; have f5_ := f3_.symm; clear f1_ f2_ f3_; subst f4_; subst f5_))
              refine hK.out _ _ ⟨(blk_cell BK220.out 0).trans rfl, (blk_cell BK220.out 1).trans rfl, (blk_cell BK220.out 2).trans rfl, (blk_cell BK220.out 3).trans rfl, (blk_cell BK220.out 4).trans rfl, (blk_cell BK220.out 5).trans rfl, (blk_cell BK220.out 6).trans rfl, (blk_cell BK220.out 7).trans rfl, (blk_cell BK221.out 0).trans rfl, (blk_cell BK221.out 1).trans rfl, (blk_cell BK221.out 2).trans rfl, (blk_cell BK221.out 3).trans rfl, (blk_cell BK221.out 4).trans rfl, (blk_cell BK221.out 5).trans rfl, (blk_cell BK221.out 6).trans rfl, (blk_cell BK221.out 7).trans rfl, (blk_cell BK238.out 0).trans rfl, (blk_cell BK238.out 1).trans rfl, (blk_cell BK238.out 2).trans rfl, (blk_cell BK238.out 3).trans rfl, (blk_cell BK238.out 4).trans rfl, (blk_cell BK238.out 5).trans rfl, (blk_cell BK238.out 6).trans rfl, (blk_cell BK238.out 7).trans rfl⟩ (fun hHeld => ?_)
              clear hK K
              refine norm_ (a' := ?_) ?_ ?_
              rotate_left
              ·show Act.put _ (some 64) _ = _
               simp only [Act.put, List.setIfInBounds_toArray, List.set_cons_zero, List.set_cons_succ, i64_w, i32_w]
               rfl
              refine pure_ (i := 57) (N := some 65) (v := ?_) (a' := ?_) (tf 58 10) rfl rfl (any_of HT_.out (by kernel_rfl)) (fun _ _ _ h => h) (Or.inl ⟨by rfl, ?_⟩) ?_ ?_
              rotate_left
              ·intro w'
               go_simp
               with_reducible rfl
              rotate_left
              ·simp only [Act.put, List.setIfInBounds_toArray, List.set_cons_zero, List.set_cons_succ, i64_w, i32_w]
               rfl
              refine one_ (i := 58) (N := some 66) (tf 59 9) rfl rfl (one_of HT_.out (by kernel_rfl)) (by decide) (fun K hK => ?_)
              refine goes_ Try.func18 (by kernel_rfl) rfl #[.agg #[.bool false, .bool false, .slice Ao111 y266.length co111, .slice none 0 0, .slice none 0 0, .slice none 0 0, .bool false, .bool false]] (by rfl) rfl rfl (by (try simp only [List.map_toArray, List.map_cons, List.map_nil]); first | done | rfl | (simp only [List.length_drop, List.length_take]; rfl)) ?_
              refine (config_Check.calls false false _ _ y266 _ _ ([] : List ByteArray) _ _ ([] : List ByteArray) _ _ ([] : List (S35)) false false t269 _ ?side1 ?side2 ?side3 ?side4 ?side5 ?side6 ?side7 ?side8 A64.out).mono ?_
              (case side1 => repeat (first | exact (Kd.R_reads' HO268.out).2.2 | (with_reducible refine Kd.C_alloc ?_ _) | (with_reducible refine Kd.C_drewN ?_ _) | (with_reducible refine Kd.C_drew ?_)))
              (case side2 => exact (Kd.R_reads' HO268.out).2.1)
              (case side3 => exact Kd.C_nil _ _)
              (case side4 => exact Nat.le_refl _)
              (case side5 => exact Kd.C_nil _ _)
              (case side6 => exact Nat.le_refl _)
              (case side7 => exact Kd.C_nil _ _)
              (case side8 => exact Nat.le_refl _)
              rintro e w112 ⟨rfl, hb⟩
              refine ⟨_, rfl, ?_⟩
              have n0_ := Aside0.mk (Kd.R_below (by exact HO192.out) hb)
              have n1_ := Aside0.mk (Kd.R_below (by exact HO195.out) hb)
              have n2_ := Aside0.mk (Kd.R_below (by exact HO198.out) hb)
              have n3_ := Aside0.mk (Kd.N_below (by exact HO201.out) hb)
              have n4_ := Aside0.mk (Kd.R_below (by exact HO208.out) hb)
              have n5_ := Aside0.mk (Kd.R_below (by exact HO211.out) hb)
              have n6_ := Aside0.mk (Kd.R_below (by exact HO214.out) hb)
              have n7_ := Aside0.mk (Kd.N_below (by exact HO217.out) hb)
              have n8_ := Aside0.mk (Kd.R_below (by exact HO226.out) hb)
              have n9_ := Aside0.mk (Kd.R_below (by exact HO229.out) hb)
              have n10_ := Aside0.mk (Kd.R_below (by exact HO232.out) hb)
              have n11_ := Aside0.mk (Kd.N_below (by exact HO235.out) hb)
              have n12_ := Aside0.mk (Kd.R_below (by exact HO243.out) hb)
              have n13_ := Aside0.mk (Kd.R_below (by exact HO246.out) hb)
              have n14_ := Aside0.mk (Kd.R_below (by exact HO249.out) hb)
              have n15_ := Aside0.mk (Kd.N_below (by exact HO252.out) hb)
              have n16_ := Aside0.mk (Kd.R_below (by exact HO268.out) hb)
              have n17_ := Aside0.mk (blk_below (g := gb220) (o := .cells #[.bool t188, .bool t189, .slice Ao73 t190.length co73, .slice Ao74 t193.length co74, .slice Ao75 t196.length co75, .slice Ao76 t199.length co76, .bool t202, .bool t203] 25 (0, 0)) (by exact BK220.out) hb)
              have n18_ := Aside0.mk (blk_below (g := gb221) (o := .cells #[.bool t204, .bool t205, .slice Ao78 t206.length co78, .slice Ao79 t209.length co79, .slice Ao80 t212.length co80, .slice Ao81 t215.length co81, .bool true, .bool t219] 25 (0, 0)) (by exact BK221.out) hb)
              have n19_ := Aside0.mk (blk_below (g := gb238) (o := .cells #[.bool t222, .bool t223, .slice Ao87 t224.length co87, .slice Ao88 t227.length co88, .slice Ao89 t230.length co89, .slice Ao90 t233.length co90, .bool t236, .bool t237] 25 (0, 0)) (by exact BK238.out) hb)
              have n20_ := Aside0.mk (below_step (by repeat (first | (with_reducible first | exact HB.out | apply below_alloc | apply pw_below_drewN | apply below_drew1 | refine below_set ?_ GE220.out | refine below_set ?_ GE221.out | refine below_set ?_ GE238.out) | exact HB.out)) hb)
              clear HO192
              clear HO195
              clear HO198
              clear HO201
              clear HO208
              clear HO211
              clear HO214
              clear HO217
              clear HO226
              clear HO229
              clear HO232
              clear HO235
              clear HO243
              clear HO246
              clear HO249
              clear HO252
              clear HO268
              clear BK220
              clear BK221
              clear BK238
              clear HB
              have HO192 := n0_
              have HO195 := n1_
              have HO198 := n2_
              have HO201 := n3_
              have HO208 := n4_
              have HO211 := n5_
              have HO214 := n6_
              have HO217 := n7_
              have HO226 := n8_
              have HO229 := n9_
              have HO232 := n10_
              have HO235 := n11_
              have HO243 := n12_
              have HO246 := n13_
              have HO249 := n14_
              have HO252 := n15_
              have HO268 := n16_
              have BK220 := n17_
              have BK221 := n18_
              have BK238 := n19_
              have HB := n20_
              clear n0_ n1_ n2_ n3_ n4_ n5_ n6_ n7_ n8_ n9_ n10_ n11_ n12_ n13_ n14_ n15_ n16_ n17_ n18_ n19_ n20_
              (try clear hb)
              (try clear hb2)
              (try clear hk)
              (try clear hi)
              refine hK.out _ _ ⟨(blk_cell BK220.out 0).trans rfl, (blk_cell BK220.out 1).trans rfl, (blk_cell BK220.out 2).trans rfl, (blk_cell BK220.out 3).trans rfl, (blk_cell BK220.out 4).trans rfl, (blk_cell BK220.out 5).trans rfl, (blk_cell BK220.out 6).trans rfl, (blk_cell BK220.out 7).trans rfl, (blk_cell BK221.out 0).trans rfl, (blk_cell BK221.out 1).trans rfl, (blk_cell BK221.out 2).trans rfl, (blk_cell BK221.out 3).trans rfl, (blk_cell BK221.out 4).trans rfl, (blk_cell BK221.out 5).trans rfl, (blk_cell BK221.out 6).trans rfl, (blk_cell BK221.out 7).trans rfl, (blk_cell BK238.out 0).trans rfl, (blk_cell BK238.out 1).trans rfl, (blk_cell BK238.out 2).trans rfl, (blk_cell BK238.out 3).trans rfl, (blk_cell BK238.out 4).trans rfl, (blk_cell BK238.out 5).trans rfl, (blk_cell BK238.out 6).trans rfl, (blk_cell BK238.out 7).trans rfl⟩ (fun hHeld => ?_)
              clear hK K
              refine norm_ (a' := ?_) ?_ ?_
              rotate_left
              ·show Act.put _ (some 66) _ = _
               simp only [Act.put, List.setIfInBounds_toArray, List.set_cons_zero, List.set_cons_succ, i64_w, i32_w]
               rfl
              refine pure_ (i := 59) (N := some 67) (v := ?_) (a' := ?_) (tf 60 8) rfl rfl (any_of HT_.out (by kernel_rfl)) (fun _ _ _ h => h) (Or.inl ⟨by rfl, ?_⟩) ?_ ?_
              rotate_left
              ·intro w'
               go_simp
               with_reducible rfl
              rotate_left
              ·simp only [Act.put, List.setIfInBounds_toArray, List.set_cons_zero, List.set_cons_succ, i64_w, i32_w]
               rfl
              refine pure_ (i := 60) (N := some 68) (v := ?_) (a' := ?_) (tf 61 7) rfl rfl (any_of HT_.out (by kernel_rfl)) (fun _ _ _ h => h) (Or.inl ⟨by rfl, ?_⟩) ?_ ?_
              rotate_left
              ·intro w'
               go_simp
               with_reducible rfl
              rotate_left
              ·simp only [Act.put, List.setIfInBounds_toArray, List.set_cons_zero, List.set_cons_succ, i64_w, i32_w]
               rfl
              refine pure_ (i := 61) (N := some 69) (v := ?_) (a' := ?_) (tf 62 6) rfl rfl (any_of HT_.out (by kernel_rfl)) (fun _ _ _ h => h) (Or.inl ⟨by rfl, ?_⟩) ?_ ?_
              rotate_left
              ·intro w'
               go_simp
               with_reducible rfl
              rotate_left
              ·simp only [Act.put, List.setIfInBounds_toArray, List.set_cons_zero, List.set_cons_succ, i64_w, i32_w]
               rfl
              refine one_ (i := 62) (N := some 70) (tf 63 5) rfl rfl (one_of HT_.out (by kernel_rfl)) (by decide) (fun K hK => ?_)
              refine Kd.R_lit_step Kd.string _ 9 ?hg (N := 70) ?hd (xs := ([(⟨#[97]⟩ : ByteArray), (⟨#[97]⟩ : ByteArray)] : List ByteArray)) (inner := [.string (⟨#[97]⟩ : ByteArray), .string (⟨#[97]⟩ : ByteArray)]) (ok := fun _ => True) (okp := fun _ => True) ?hr ?hp (fun _ hk => hk) trivial (Below.refl _ _) (Nat.le_refl _) (by simp) ?_; (case hd => rfl); (case hg => rfl); (case hr => first | (go_simp; done) | (go_simp; rfl)); (case hp => exact (Reps.one (show Kd.M Kd.string _ _ _ (⟨#[97]⟩ : ByteArray) [.string (⟨#[97]⟩ : ByteArray)] from rfl) (Reps.one (show Kd.M Kd.string _ _ _ (⟨#[97]⟩ : ByteArray) [.string (⟨#[97]⟩ : ByteArray)] from rfl) (Reps.none _ _))))
              intro v271 w113 ho114 hb hg_ hnew_
              clear hg_ hnew_
              (first | rw [← Ny270.out] at ho114 | (simp only [Int.reduceToNat] at ho114; rw [← Ny270.out] at ho114))
              have n0_ := Aside0.mk (Kd.R_elder' (by exact HO192.out) (Kd.R_base ho114) hb)
              have n1_ := Aside0.mk (Kd.R_elder' (by exact HO195.out) (Kd.R_base ho114) hb)
              have n2_ := Aside0.mk (Kd.R_elder' (by exact HO198.out) (Kd.R_base ho114) hb)
              have n3_ := Aside0.mk (Kd.N_elder' (by exact HO201.out) (Kd.R_base ho114) hb)
              have n4_ := Aside0.mk (Kd.R_elder' (by exact HO208.out) (Kd.R_base ho114) hb)
              have n5_ := Aside0.mk (Kd.R_elder' (by exact HO211.out) (Kd.R_base ho114) hb)
              have n6_ := Aside0.mk (Kd.R_elder' (by exact HO214.out) (Kd.R_base ho114) hb)
              have n7_ := Aside0.mk (Kd.N_elder' (by exact HO217.out) (Kd.R_base ho114) hb)
              have n8_ := Aside0.mk (Kd.R_elder' (by exact HO226.out) (Kd.R_base ho114) hb)
              have n9_ := Aside0.mk (Kd.R_elder' (by exact HO229.out) (Kd.R_base ho114) hb)
              have n10_ := Aside0.mk (Kd.R_elder' (by exact HO232.out) (Kd.R_base ho114) hb)
              have n11_ := Aside0.mk (Kd.N_elder' (by exact HO235.out) (Kd.R_base ho114) hb)
              have n12_ := Aside0.mk (Kd.R_elder' (by exact HO243.out) (Kd.R_base ho114) hb)
              have n13_ := Aside0.mk (Kd.R_elder' (by exact HO246.out) (Kd.R_base ho114) hb)
              have n14_ := Aside0.mk (Kd.R_elder' (by exact HO249.out) (Kd.R_base ho114) hb)
              have n15_ := Aside0.mk (Kd.N_elder' (by exact HO252.out) (Kd.R_base ho114) hb)
              have n16_ := Aside0.mk (Kd.R_elder' (by exact HO268.out) (Kd.R_base ho114) hb)
              have n17_ := Aside0.mk (Kd.R_lower (Kd.R_new' (Kd.R_new' (Kd.R_new' (Kd.R_new' (Kd.R_new' (Kd.R_new' (Kd.R_new' (Kd.R_new' (Kd.R_new' (Kd.R_new' (Kd.R_new' (Kd.R_new' (Kd.R_new' ho114 (Kd.R_lt (by exact HO192.out))) (Kd.R_lt (by exact HO195.out))) (Kd.R_lt (by exact HO198.out))) (Kd.R_lt (by exact HO208.out))) (Kd.R_lt (by exact HO211.out))) (Kd.R_lt (by exact HO214.out))) (Kd.R_lt (by exact HO226.out))) (Kd.R_lt (by exact HO229.out))) (Kd.R_lt (by exact HO232.out))) (Kd.R_lt (by exact HO243.out))) (Kd.R_lt (by exact HO246.out))) (Kd.R_lt (by exact HO249.out))) (Kd.R_lt (by exact HO268.out))) (below_size (by repeat (first | (with_reducible first | exact HB.out | apply below_alloc | apply pw_below_drewN | apply below_drew1 | refine below_set ?_ GE220.out | refine below_set ?_ GE221.out | refine below_set ?_ GE238.out) | exact HB.out))))
              have n18_ := Aside0.mk (blk_below (g := gb220) (o := .cells #[.bool t188, .bool t189, .slice Ao73 t190.length co73, .slice Ao74 t193.length co74, .slice Ao75 t196.length co75, .slice Ao76 t199.length co76, .bool t202, .bool t203] 25 (0, 0)) (by exact BK220.out) hb)
              have n19_ := Aside0.mk (blk_below (g := gb221) (o := .cells #[.bool t204, .bool t205, .slice Ao78 t206.length co78, .slice Ao79 t209.length co79, .slice Ao80 t212.length co80, .slice Ao81 t215.length co81, .bool true, .bool t219] 25 (0, 0)) (by exact BK221.out) hb)
              have n20_ := Aside0.mk (blk_below (g := gb238) (o := .cells #[.bool t222, .bool t223, .slice Ao87 t224.length co87, .slice Ao88 t227.length co88, .slice Ao89 t230.length co89, .slice Ao90 t233.length co90, .bool t236, .bool t237] 25 (0, 0)) (by exact BK238.out) hb)
              have n21_ := Aside0.mk (below_step (by repeat (first | (with_reducible first | exact HB.out | apply below_alloc | apply pw_below_drewN | apply below_drew1 | refine below_set ?_ GE220.out | refine below_set ?_ GE221.out | refine below_set ?_ GE238.out) | exact HB.out)) hb)
              clear HO192
              clear HO195
              clear HO198
              clear HO201
              clear HO208
              clear HO211
              clear HO214
              clear HO217
              clear HO226
              clear HO229
              clear HO232
              clear HO235
              clear HO243
              clear HO246
              clear HO249
              clear HO252
              clear HO268
              clear BK220
              clear BK221
              clear BK238
              clear HB
              have HO192 := n0_
              have HO195 := n1_
              have HO198 := n2_
              have HO201 := n3_
              have HO208 := n4_
              have HO211 := n5_
              have HO214 := n6_
              have HO217 := n7_
              have HO226 := n8_
              have HO229 := n9_
              have HO232 := n10_
              have HO235 := n11_
              have HO243 := n12_
              have HO246 := n13_
              have HO249 := n14_
              have HO252 := n15_
              have HO268 := n16_
              have HO272 := n17_
              have BK220 := n18_
              have BK221 := n19_
              have BK238 := n20_
              have HB := n21_
              clear n0_ n1_ n2_ n3_ n4_ n5_ n6_ n7_ n8_ n9_ n10_ n11_ n12_ n13_ n14_ n15_ n16_ n17_ n18_ n19_ n20_ n21_
              clear hb ho114
              obtain ⟨Ao115, co115, eo115⟩ := Kd.R_slice HO272.out
              (first | subst eo115 | (injection eo115 with f1_ f2_ f3_; have f4_ := f1_.symm; have f5_ := f3_.symm; clear f1_ f2_ f3_; subst f4_; subst f5_))
              refine hK.out _ _ ⟨(blk_cell BK220.out 0).trans rfl, (blk_cell BK220.out 1).trans rfl, (blk_cell BK220.out 2).trans rfl, (blk_cell BK220.out 3).trans rfl, (blk_cell BK220.out 4).trans rfl, (blk_cell BK220.out 5).trans rfl, (blk_cell BK220.out 6).trans rfl, (blk_cell BK220.out 7).trans rfl, (blk_cell BK221.out 0).trans rfl, (blk_cell BK221.out 1).trans rfl, (blk_cell BK221.out 2).trans rfl, (blk_cell BK221.out 3).trans rfl, (blk_cell BK221.out 4).trans rfl, (blk_cell BK221.out 5).trans rfl, (blk_cell BK221.out 6).trans rfl, (blk_cell BK221.out 7).trans rfl, (blk_cell BK238.out 0).trans rfl, (blk_cell BK238.out 1).trans rfl, (blk_cell BK238.out 2).trans rfl, (blk_cell BK238.out 3).trans rfl, (blk_cell BK238.out 4).trans rfl, (blk_cell BK238.out 5).trans rfl, (blk_cell BK238.out 6).trans rfl, (blk_cell BK238.out 7).trans rfl⟩ (fun hHeld => ?_)
              clear hK K
              refine norm_ (a' := ?_) ?_ ?_
              rotate_left
              ·show Act.put _ (some 70) _ = _
               simp only [Act.put, List.setIfInBounds_toArray, List.set_cons_zero, List.set_cons_succ, i64_w, i32_w]
               rfl
              refine pure_ (i := 63) (N := some 71) (v := ?_) (a' := ?_) (tf 64 4) rfl rfl (any_of HT_.out (by kernel_rfl)) (fun _ _ _ h => h) (Or.inl ⟨by rfl, ?_⟩) ?_ ?_
              rotate_left
              ·intro w'
               go_simp
               with_reducible rfl
              rotate_left
              ·simp only [Act.put, List.setIfInBounds_toArray, List.set_cons_zero, List.set_cons_succ, i64_w, i32_w]
               rfl
              refine one_ (i := 64) (N := some 72) (tf 65 3) rfl rfl (one_of HT_.out (by kernel_rfl)) (by decide) (fun K hK => ?_)
              refine goes_ Try.func18 (by kernel_rfl) rfl #[.agg #[.bool false, .bool false, .slice none 0 0, .slice none 0 0, .slice Ao115 y270.length co115, .slice none 0 0, .bool false, .bool false]] (by rfl) rfl rfl (by (try simp only [List.map_toArray, List.map_cons, List.map_nil]); first | done | rfl | (simp only [List.length_drop, List.length_take]; rfl)) ?_
              refine (config_Check.calls false false _ _ ([] : List ByteArray) _ _ ([] : List ByteArray) _ _ y270 _ _ ([] : List (S35)) false false t273 _ ?side1 ?side2 ?side3 ?side4 ?side5 ?side6 ?side7 ?side8 A66.out).mono ?_
              (case side1 => exact Kd.C_nil _ _)
              (case side2 => exact Nat.le_refl _)
              (case side3 => exact Kd.C_nil _ _)
              (case side4 => exact Nat.le_refl _)
              (case side5 => repeat (first | exact (Kd.R_reads' HO272.out).2.2 | (with_reducible refine Kd.C_alloc ?_ _) | (with_reducible refine Kd.C_drewN ?_ _) | (with_reducible refine Kd.C_drew ?_)))
              (case side6 => exact (Kd.R_reads' HO272.out).2.1)
              (case side7 => exact Kd.C_nil _ _)
              (case side8 => exact Nat.le_refl _)
              rintro e w116 ⟨rfl, hb⟩
              refine ⟨_, rfl, ?_⟩
              have n0_ := Aside0.mk (Kd.R_below (by exact HO192.out) hb)
              have n1_ := Aside0.mk (Kd.R_below (by exact HO195.out) hb)
              have n2_ := Aside0.mk (Kd.R_below (by exact HO198.out) hb)
              have n3_ := Aside0.mk (Kd.N_below (by exact HO201.out) hb)
              have n4_ := Aside0.mk (Kd.R_below (by exact HO208.out) hb)
              have n5_ := Aside0.mk (Kd.R_below (by exact HO211.out) hb)
              have n6_ := Aside0.mk (Kd.R_below (by exact HO214.out) hb)
              have n7_ := Aside0.mk (Kd.N_below (by exact HO217.out) hb)
              have n8_ := Aside0.mk (Kd.R_below (by exact HO226.out) hb)
              have n9_ := Aside0.mk (Kd.R_below (by exact HO229.out) hb)
              have n10_ := Aside0.mk (Kd.R_below (by exact HO232.out) hb)
              have n11_ := Aside0.mk (Kd.N_below (by exact HO235.out) hb)
              have n12_ := Aside0.mk (Kd.R_below (by exact HO243.out) hb)
              have n13_ := Aside0.mk (Kd.R_below (by exact HO246.out) hb)
              have n14_ := Aside0.mk (Kd.R_below (by exact HO249.out) hb)
              have n15_ := Aside0.mk (Kd.N_below (by exact HO252.out) hb)
              have n16_ := Aside0.mk (Kd.R_below (by exact HO268.out) hb)
              have n17_ := Aside0.mk (Kd.R_below (by exact HO272.out) hb)
              have n18_ := Aside0.mk (blk_below (g := gb220) (o := .cells #[.bool t188, .bool t189, .slice Ao73 t190.length co73, .slice Ao74 t193.length co74, .slice Ao75 t196.length co75, .slice Ao76 t199.length co76, .bool t202, .bool t203] 25 (0, 0)) (by exact BK220.out) hb)
              have n19_ := Aside0.mk (blk_below (g := gb221) (o := .cells #[.bool t204, .bool t205, .slice Ao78 t206.length co78, .slice Ao79 t209.length co79, .slice Ao80 t212.length co80, .slice Ao81 t215.length co81, .bool true, .bool t219] 25 (0, 0)) (by exact BK221.out) hb)
              have n20_ := Aside0.mk (blk_below (g := gb238) (o := .cells #[.bool t222, .bool t223, .slice Ao87 t224.length co87, .slice Ao88 t227.length co88, .slice Ao89 t230.length co89, .slice Ao90 t233.length co90, .bool t236, .bool t237] 25 (0, 0)) (by exact BK238.out) hb)
              have n21_ := Aside0.mk (below_step (by repeat (first | (with_reducible first | exact HB.out | apply below_alloc | apply pw_below_drewN | apply below_drew1 | refine below_set ?_ GE220.out | refine below_set ?_ GE221.out | refine below_set ?_ GE238.out) | exact HB.out)) hb)
              clear HO192
              clear HO195
              clear HO198
              clear HO201
              clear HO208
              clear HO211
              clear HO214
              clear HO217
              clear HO226
              clear HO229
              clear HO232
              clear HO235
              clear HO243
              clear HO246
              clear HO249
              clear HO252
              clear HO268
              clear HO272
              clear BK220
              clear BK221
              clear BK238
              clear HB
              have HO192 := n0_
              have HO195 := n1_
              have HO198 := n2_
              have HO201 := n3_
              have HO208 := n4_
              have HO211 := n5_
              have HO214 := n6_
              have HO217 := n7_
              have HO226 := n8_
              have HO229 := n9_
              have HO232 := n10_
              have HO235 := n11_
              have HO243 := n12_
              have HO246 := n13_
              have HO249 := n14_
              have HO252 := n15_
              have HO268 := n16_
              have HO272 := n17_
              have BK220 := n18_
              have BK221 := n19_
              have BK238 := n20_
              have HB := n21_
              clear n0_ n1_ n2_ n3_ n4_ n5_ n6_ n7_ n8_ n9_ n10_ n11_ n12_ n13_ n14_ n15_ n16_ n17_ n18_ n19_ n20_ n21_
              (try clear hb)
              (try clear hb2)
              (try clear hk)
              (try clear hi)
              refine hK.out _ _ ⟨(blk_cell BK220.out 0).trans rfl, (blk_cell BK220.out 1).trans rfl, (blk_cell BK220.out 2).trans rfl, (blk_cell BK220.out 3).trans rfl, (blk_cell BK220.out 4).trans rfl, (blk_cell BK220.out 5).trans rfl, (blk_cell BK220.out 6).trans rfl, (blk_cell BK220.out 7).trans rfl, (blk_cell BK221.out 0).trans rfl, (blk_cell BK221.out 1).trans rfl, (blk_cell BK221.out 2).trans rfl, (blk_cell BK221.out 3).trans rfl, (blk_cell BK221.out 4).trans rfl, (blk_cell BK221.out 5).trans rfl, (blk_cell BK221.out 6).trans rfl, (blk_cell BK221.out 7).trans rfl, (blk_cell BK238.out 0).trans rfl, (blk_cell BK238.out 1).trans rfl, (blk_cell BK238.out 2).trans rfl, (blk_cell BK238.out 3).trans rfl, (blk_cell BK238.out 4).trans rfl, (blk_cell BK238.out 5).trans rfl, (blk_cell BK238.out 6).trans rfl, (blk_cell BK238.out 7).trans rfl⟩ (fun hHeld => ?_)
              clear hK K
              refine norm_ (a' := ?_) ?_ ?_
              rotate_left
              ·show Act.put _ (some 72) _ = _
               simp only [Act.put, List.setIfInBounds_toArray, List.set_cons_zero, List.set_cons_succ, i64_w, i32_w]
               rfl
              refine pure_ (i := 65) (N := some 73) (v := ?_) (a' := ?_) (tf 66 2) rfl rfl (any_of HT_.out (by kernel_rfl)) (fun _ _ _ h => h) (Or.inl ⟨by rfl, ?_⟩) ?_ ?_
              rotate_left
              ·intro w'
               go_simp
               with_reducible rfl
              rotate_left
              ·simp only [Act.put, List.setIfInBounds_toArray, List.set_cons_zero, List.set_cons_succ, i64_w, i32_w]
               rfl
              refine pure_ (i := 66) (N := some 74) (v := ?_) (a' := ?_) (tf 67 1) rfl rfl (any_of HT_.out (by kernel_rfl)) (fun _ _ _ h => h) (Or.inl ⟨by rfl, ?_⟩) ?_ ?_
              rotate_left
              ·intro w'
               go_simp
               with_reducible rfl
              rotate_left
              ·simp only [Act.put, List.setIfInBounds_toArray, List.set_cons_zero, List.set_cons_succ, i64_w, i32_w]
               rfl
              refine pure_ (i := 67) (N := some 0) (v := ?_) (a' := ?_) (tf 68 0) rfl rfl (any_of HT_.out (by kernel_rfl)) (fun _ _ _ h => h) (Or.inl ⟨by rfl, ?_⟩) ?_ ?_
              rotate_left
              ·intro w'
               go_simp
               with_reducible rfl
              rotate_left
              ·simp only [Act.put, List.setIfInBounds_toArray, List.set_cons_zero, List.set_cons_succ, i64_w, i32_w]
               rfl
              refine done_ (done_of HT_.out (by kernel_rfl)) ?_
              try go_wp2
              go_ret
              exact ⟨by first | rfl | (simp [errW_none, errW_some] <;> rfl) | (simp [*, errW_none, errW_some] <;> rfl), by repeat (first | (with_reducible first | exact HB.out | apply below_alloc | apply pw_below_drewN | apply below_drew1 | refine below_set ?_ GE220.out | refine below_set ?_ GE221.out | refine below_set ?_ GE238.out) | exact HB.out)⟩
             ·rw [if_neg c65] at H
              have c65b0 : (t269 == 121) = false := beq_eq_false_iff_ne.mpr c65
              have c65b1 : (t269 != 121) = true := bne_iff_ne.mpr c65
              exact absurd (Option.some.inj H) (by rw [hT.out]; decide)
            ·rw [if_neg c63] at H
             have c63b0 : (t265 == 120) = false := beq_eq_false_iff_ne.mpr c63
             have c63b1 : (t265 != 120) = true := bne_iff_ne.mpr c63
             exact absurd (Option.some.inj H) (by rw [hT.out]; decide)
           ·rw [if_neg c61] at H
            have c61b0 : (t264 == 0) = false := beq_eq_false_iff_ne.mpr c61
            have c61b1 : (t264 != 0) = true := bne_iff_ne.mpr c61
            exact absurd (Option.some.inj H) (by rw [hT.out]; decide)
          ·rw [if_neg c59] at H
           have c59b0 : (t263 == 0) = false := beq_eq_false_iff_ne.mpr c59
           have c59b1 : (t263 != 0) = true := bne_iff_ne.mpr c59
           exact absurd (Option.some.inj H) (by rw [hT.out]; decide)
         ·rw [if_neg c57] at H
          have c57b0 : (t262 == 1) = false := beq_eq_false_iff_ne.mpr c57
          have c57b1 : (t262 != 1) = true := bne_iff_ne.mpr c57
          exact absurd (Option.some.inj H) (by rw [hT.out]; decide)
        ·replace c55 := Bool.eq_false_iff.mpr c55
         subst c55
         replace H : (some false) = some r := by rw [if_neg (show ¬ (false = true) by decide)] at H; exact H
         exact absurd (Option.some.inj H) (by rw [hT.out]; decide)
       ·rw [if_neg c53] at H
        have c53b0 : (t260 == 0) = false := beq_eq_false_iff_ne.mpr c53
        have c53b1 : (t260 != 0) = true := bne_iff_ne.mpr c53
        exact absurd (Option.some.inj H) (by rw [hT.out]; decide)
      ·replace c51 := Bool.eq_false_iff.mpr c51
       subst c51
       replace H : (some false) = some r := by rw [if_neg (show ¬ (false = true) by decide)] at H; exact H
       exact absurd (Option.some.inj H) (by rw [hT.out]; decide)
    ·replace c12 := Bool.eq_false_iff.mpr c12
     subst c12
     replace H : (some false) = some r := by rw [if_neg (show ¬ (false = true) by decide)] at H; exact H
     exact absurd (Option.some.inj H) (by rw [hT.out]; decide)
   ·rw [if_neg c10] at H
    have c10b0 : (t257 == 1) = false := beq_eq_false_iff_ne.mpr c10
    have c10b1 : (t257 != 1) = true := bne_iff_ne.mpr c10
    exact absurd (Option.some.inj H) (by rw [hT.out]; decide)
  ·rw [if_neg c8] at H
   have c8b0 : (t256 == 0) = false := beq_eq_false_iff_ne.mpr c8
   have c8b1 : (t256 != 0) = true := bne_iff_ne.mpr c8
   exact absurd (Option.some.inj H) (by rw [hT.out]; decide)
 ·replace c6 := Bool.eq_false_iff.mpr c6
  subst c6
  replace H : (some false) = some r := by rw [if_neg (show ¬ (false = true) by decide)] at H; exact H
  exact absurd (Option.some.inj H) (by rw [hT.out]; decide)

end Go.Proofs.Ytjofofpplpmgjaa.Pr
/- What the laws hold fixed: it is so. -/
namespace Go.Proofs.Ytjofofpplpmgjaa.Pr
set_option linter.unusedVariables false
open Go.RowKit Go.Lib Go.Shelf Go.Proofs.Ytjofofpplpmgjaa Go.Proofs.Ytjofofpplpmgjaa.Pure Go.Proofs.YtjofofpplpmgjaaW.PrintWords Go.Proofs.YtjofofpplpmgjaaW.PrintLast Go.Proofs.YtjofofpplpmgjaaW.PrintMore
theorem fixedK_f : boltinglaw12_fixedK.f 100 = some true := by decide +kernel
def boltinglaw12_fixed.f : Option Bool := some true
theorem boltinglaw12_fixed.calls (r : Bool) (w : World) (h : boltinglaw12_fixed.f = some r) :
    Calls Try.prog 12 #[] w fun e w' => e = .returned (.bool r) ∧ Below w.heap.size w w' := by
  obtain rfl : true = r := Option.some.inj h
  exact boltinglaw12_fixedK.calls_true 100 true w fixedK_f (Aside0.mk rfl)
end Go.Proofs.Ytjofofpplpmgjaa.Pr
