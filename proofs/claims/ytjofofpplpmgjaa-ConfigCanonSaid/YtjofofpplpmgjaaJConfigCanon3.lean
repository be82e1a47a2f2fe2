import Derived.Test.YtjofofpplpmgjaaJConfigCanon1
import Derived.Test.YtjofofpplpmgjaaJConfigCanon2
import Derived.Shelf.SlicesE.DeleteFunc
import Derived.Lib.OwnBridge
namespace Go.Proofs.Ytjofofpplpmgjaa.Pr
open Go.RowKit Go.Proofs.YtjofofpplpmgjaaW.PrintWords Go.Proofs.YtjofofpplpmgjaaW.PrintLast Go.Proofs.YtjofofpplpmgjaaW.PrintMore
attribute [local go_sem] max2_int min2_int max_two min_two max_three min_three max_four min_four   -- for this text's walks alone
set_option linter.unusedVariables false
set_option linter.unusedSimpArgs false

mutual
def boltingref12_Check.j0 : Nat → Bool → Bool → Bool → List ByteArray → List ByteArray → List ByteArray → List (S35) → Bool → Bool → Option (Int)
 | 0, _, _, _, _, _, _, _, _, _ => none
 | k + 1, x3, x338000, x338001, x338002, x338003, x338004, x338005, x338006, x338007 => (boltingref12_may.f k x338002 false).bind fun t338 => (if t338 = true then ((boltingref12_may.f k x338003 false).bind fun t339 => (if t339 = true then ((boltingref12_of.f k x338000 x338001 x338002 x338003 x338004 x338005 x338006 x338007).bind fun t340 => ((boltingref12_may.f k t340 false).bind fun t343 => (if t343 = true then ((boltingref12_may.f k x338004 true).bind fun t344 => (boltingref12_Check.j1 k x3 t344 x338000 x338001 x338002 x338003 x338004 x338005 x338006 x338007)) else (boltingref12_Check.j1 k x3 false x338000 x338001 x338002 x338003 x338004 x338005 x338006 x338007)))) else (boltingref12_Check.j1 k x3 false x338000 x338001 x338002 x338003 x338004 x338005 x338006 x338007))) else (boltingref12_Check.j1 k x3 false x338000 x338001 x338002 x338003 x338004 x338005 x338006 x338007))
def boltingref12_Check.j1 : Nat → Bool → Bool → Bool → Bool → List ByteArray → List ByteArray → List ByteArray → List (S35) → Bool → Bool → Option (Int)
 | 0, _, _, _, _, _, _, _, _, _, _ => none
 | k + 1, x3, x4, x338000, x338001, x338002, x338003, x338004, x338005, x338006, x338007 => (boltingref12_once.f k x338002).bind fun t345 => (if t345 = true then ((boltingref12_once.f k x338003).bind fun t346 => (if t346 = true then ((boltingref12_of.f k x338000 x338001 x338002 x338003 x338004 x338005 x338006 x338007).bind fun t347 => ((boltingref12_once.f k t347).bind fun t350 => (if t350 = true then ((boltingref12_once.f k x338004).bind fun t351 => (boltingref12_Check.j2 k x3 x4 t351 x338000 x338001 x338002 x338003 x338004 x338005 x338006 x338007)) else (boltingref12_Check.j2 k x3 x4 false x338000 x338001 x338002 x338003 x338004 x338005 x338006 x338007)))) else (boltingref12_Check.j2 k x3 x4 false x338000 x338001 x338002 x338003 x338004 x338005 x338006 x338007))) else (boltingref12_Check.j2 k x3 x4 false x338000 x338001 x338002 x338003 x338004 x338005 x338006 x338007))
def boltingref12_Check.j2 : Nat → Bool → Bool → Bool → Bool → Bool → List ByteArray → List ByteArray → List ByteArray → List (S35) → Bool → Bool → Option (Int)
 | 0, _, _, _, _, _, _, _, _, _, _, _ => none
 | k + 1, x3, x4, x5, x338000, x338001, x338002, x338003, x338004, x338005, x338006, x338007 => (boltingref12_meet.f k x338002 x338003).bind fun t352 => (if t352 = true then (boltingref12_Check.j3 k x3 x4 x5 true x338000 x338001 x338002 x338003 x338004 x338005 x338006 x338007) else (if x338007 = true then (boltingref12_Check.j3 k x3 x4 x5 (!x338001) x338000 x338001 x338002 x338003 x338004 x338005 x338006 x338007) else (boltingref12_Check.j3 k x3 x4 x5 false x338000 x338001 x338002 x338003 x338004 x338005 x338006 x338007)))
def boltingref12_Check.j3 : Nat → Bool → Bool → Bool → Bool → Bool → Bool → List ByteArray → List ByteArray → List ByteArray → List (S35) → Bool → Bool → Option (Int)
 | 0, _, _, _, _, _, _, _, _, _, _, _, _ => none
 | k + 1, x3, x4, x5, x6, x338000, x338001, x338002, x338003, x338004, x338005, x338006, x338007 => boltingref12_Check.l0 k x3 x4 x5 x6 0 x338000 x338001 x338002 x338003 x338004 x338005 x338006 x338007
def boltingref12_Check.l0 : Nat → Bool → Bool → Bool → Bool → Int → Bool → Bool → List ByteArray → List ByteArray → List ByteArray → List (S35) → Bool → Bool → Option (Int)
 | 0, _, _, _, _, _, _, _, _, _, _, _, _, _ => none
 | k + 1, x3, x4, x5, x6, x7, x338000, x338001, x338002, x338003, x338004, x338005, x338006, x338007 => if x7 < (x338005.length : Int) then (if 0 ≤ x7 then (if x3 = true then (if x4 = true then ((boltingref12_may.f k ((rd_T35 x338005 x7).f1) true).bind fun t354 => (if x5 = true then ((boltingref12_once.f k ((rd_T35 x338005 x7).f1)).bind fun t355 => (if x6 = true then (boltingref12_Check.l0 k true t354 t355 true (wrap64 (x7 + 1)) x338000 x338001 x338002 x338003 x338004 x338005 x338006 x338007) else ((boltingref12_meet.f k ((rd_T35 x338005 x7).f1) x338004).bind fun t356 => (boltingref12_Check.l0 k true t354 t355 t356 (wrap64 (x7 + 1)) x338000 x338001 x338002 x338003 x338004 x338005 x338006 x338007)))) else (if x6 = true then (boltingref12_Check.l0 k true t354 false true (wrap64 (x7 + 1)) x338000 x338001 x338002 x338003 x338004 x338005 x338006 x338007) else ((boltingref12_meet.f k ((rd_T35 x338005 x7).f1) x338004).bind fun t357 => (boltingref12_Check.l0 k true t354 false t357 (wrap64 (x7 + 1)) x338000 x338001 x338002 x338003 x338004 x338005 x338006 x338007))))) else (if x5 = true then ((boltingref12_once.f k ((rd_T35 x338005 x7).f1)).bind fun t358 => (if x6 = true then (boltingref12_Check.l0 k true false t358 true (wrap64 (x7 + 1)) x338000 x338001 x338002 x338003 x338004 x338005 x338006 x338007) else ((boltingref12_meet.f k ((rd_T35 x338005 x7).f1) x338004).bind fun t359 => (boltingref12_Check.l0 k true false t358 t359 (wrap64 (x7 + 1)) x338000 x338001 x338002 x338003 x338004 x338005 x338006 x338007)))) else (if x6 = true then (boltingref12_Check.l0 k true false false true (wrap64 (x7 + 1)) x338000 x338001 x338002 x338003 x338004 x338005 x338006 x338007) else ((boltingref12_meet.f k ((rd_T35 x338005 x7).f1) x338004).bind fun t360 => (boltingref12_Check.l0 k true false false t360 (wrap64 (x7 + 1)) x338000 x338001 x338002 x338003 x338004 x338005 x338006 x338007))))) else (if x4 = true then ((boltingref12_may.f k ((rd_T35 x338005 x7).f1) true).bind fun t361 => (if x5 = true then ((boltingref12_once.f k ((rd_T35 x338005 x7).f1)).bind fun t362 => (if x6 = true then (boltingref12_Check.l0 k (decide ((((rd_T35 x338005 x7).f1).length : Int) > 64)) t361 t362 true (wrap64 (x7 + 1)) x338000 x338001 x338002 x338003 x338004 x338005 x338006 x338007) else ((boltingref12_meet.f k ((rd_T35 x338005 x7).f1) x338004).bind fun t363 => (boltingref12_Check.l0 k (decide ((((rd_T35 x338005 x7).f1).length : Int) > 64)) t361 t362 t363 (wrap64 (x7 + 1)) x338000 x338001 x338002 x338003 x338004 x338005 x338006 x338007)))) else (if x6 = true then (boltingref12_Check.l0 k (decide ((((rd_T35 x338005 x7).f1).length : Int) > 64)) t361 false true (wrap64 (x7 + 1)) x338000 x338001 x338002 x338003 x338004 x338005 x338006 x338007) else ((boltingref12_meet.f k ((rd_T35 x338005 x7).f1) x338004).bind fun t364 => (boltingref12_Check.l0 k (decide ((((rd_T35 x338005 x7).f1).length : Int) > 64)) t361 false t364 (wrap64 (x7 + 1)) x338000 x338001 x338002 x338003 x338004 x338005 x338006 x338007))))) else (if x5 = true then ((boltingref12_once.f k ((rd_T35 x338005 x7).f1)).bind fun t365 => (if x6 = true then (boltingref12_Check.l0 k (decide ((((rd_T35 x338005 x7).f1).length : Int) > 64)) false t365 true (wrap64 (x7 + 1)) x338000 x338001 x338002 x338003 x338004 x338005 x338006 x338007) else ((boltingref12_meet.f k ((rd_T35 x338005 x7).f1) x338004).bind fun t366 => (boltingref12_Check.l0 k (decide ((((rd_T35 x338005 x7).f1).length : Int) > 64)) false t365 t366 (wrap64 (x7 + 1)) x338000 x338001 x338002 x338003 x338004 x338005 x338006 x338007)))) else (if x6 = true then (boltingref12_Check.l0 k (decide ((((rd_T35 x338005 x7).f1).length : Int) > 64)) false false true (wrap64 (x7 + 1)) x338000 x338001 x338002 x338003 x338004 x338005 x338006 x338007) else ((boltingref12_meet.f k ((rd_T35 x338005 x7).f1) x338004).bind fun t367 => (boltingref12_Check.l0 k (decide ((((rd_T35 x338005 x7).f1).length : Int) > 64)) false false t367 (wrap64 (x7 + 1)) x338000 x338001 x338002 x338003 x338004 x338005 x338006 x338007)))))) else (none)) else (if x3 = true then (some 2) else (if x4 = true then (if x5 = true then (if x6 = true then (some 120) else (some 0)) else (some 122)) else (some 121)))
end
def boltingref12_Check.f (k : Nat) (a0_0 : Bool) (a0_1 : Bool) (l0_2 : List ByteArray) (l0_3 : List ByteArray) (l0_4 : List ByteArray) (l0_5 : List (S35)) (a0_6 : Bool) (a0_7 : Bool) : Option (Int) := if (l0_2.length : Int) > 64 then (boltingref12_Check.j0 k true a0_0 a0_1 l0_2 l0_3 l0_4 l0_5 a0_6 a0_7) else (if (l0_3.length : Int) > 64 then (boltingref12_Check.j0 k true a0_0 a0_1 l0_2 l0_3 l0_4 l0_5 a0_6 a0_7) else (if (l0_4.length : Int) > 64 then (boltingref12_Check.j0 k true a0_0 a0_1 l0_2 l0_3 l0_4 l0_5 a0_6 a0_7) else (boltingref12_Check.j0 k (decide ((l0_5.length : Int) > 64)) a0_0 a0_1 l0_2 l0_3 l0_4 l0_5 a0_6 a0_7)))
end Go.Proofs.Ytjofofpplpmgjaa.Pr
namespace Go.Proofs.Ytjofofpplpmgjaa.Pure
set_option linter.unusedVariables false
set_option linter.unusedSimpArgs false
open Go.RowKit Go.Lib Go.Shelf Go.Proofs.YtjofofpplpmgjaaW.PrintWords Go.Proofs.YtjofofpplpmgjaaW.PrintLast Go.Proofs.YtjofofpplpmgjaaW.PrintMore Go.Proofs.Ytjofofpplpmgjaa.Pr

def dupB : List ByteArray → Bool
  | [] => false
  | x :: l => mem l x || dupB l
def meetB (a b : List ByteArray) : Bool := a.any (mem b)
def finI (big named single both : Bool) : Int := if big = true then 2 else if named = true then (if single = true then (if both = true then 120 else 0) else 122) else 121
def longB (l : List ByteArray) : Bool := decide (64 < l.length)
def allMay (attr : Bool) (l : List ByteArray) : Bool := l.all (mayB attr)
structure Small (c : Cf) (z : Nat) : Prop where
  els : ∀ s ∈ c.els, s.size < z
  rep : ∀ s ∈ c.rep, s.size < z
  ats : ∀ s ∈ c.ats, s.size < z
  per : ∀ p ∈ c.per, p.f0.size < z ∧ ∀ s ∈ p.f1, s.size < z
  le : z ≤ 4000000000000000000
theorem long_i (l : List ByteArray) : decide (((l.length : Nat) : Int) > 64) = longB l := decide_eq_decide.2 (by omega)
def namesOf (c : Cf) : List ByteArray := c.per.map (·.f0)
def checkI (c : Cf) : Int := finI ((longB c.els || longB c.rep || longB c.ats || decide (64 < c.per.length)) || c.per.any (fun p => longB p.f1))
  ((allMay false c.els && allMay false c.rep && allMay false (namesOf c) && allMay true c.ats) && c.per.all (fun p => allMay true p.f1))
  ((!dupB c.els && !dupB c.rep && !dupB (namesOf c) && !dupB c.ats) && c.per.all (fun p => !dupB p.f1))
  ((meetB c.els c.rep || (c.dt && !c.aal)) || c.per.any (fun p => meetB p.f1 c.ats))
end Go.Proofs.Ytjofofpplpmgjaa.Pure
namespace Go.Proofs.Ytjofofpplpmgjaa.Pure
set_option linter.unusedVariables false
set_option linter.unusedSimpArgs false
open Go.RowKit Go.Lib Go.Shelf Go.Proofs.YtjofofpplpmgjaaW.PrintWords Go.Proofs.Ytjofofpplpmgjaa.Pr

theorem len_le {α : Type} [DecidableEq α] : ∀ (a b : List α), a.Nodup → (∀ x ∈ a, x ∈ b) → a.length ≤ b.length
  | [], b, _, _ => Nat.zero_le _
  | x :: a, b, hd, hm => by
    rw [List.nodup_cons] at hd
    have hx := hm x List.mem_cons_self
    have := len_le a (b.erase x) hd.2 (fun y hy => (List.mem_erase_of_ne (show y ≠ x from fun e => hd.1 (by rw [← e]; exact hy))).2 (hm y (List.mem_cons_of_mem _ hy)))
    have hl := List.length_erase_of_mem hx
    have hp := List.length_pos_of_mem hx
    simp only [List.length_cons]
    omega
theorem up_nodup {l : List (List UInt8)} (h : Up l) : l.Nodup := by
  have h' : l.Pairwise (· < ·) := h
  exact h'.imp (S := fun a b => a ≠ b) (fun {a b} g e => by subst e; exact lt_irr _ g)
theorem dup_nodup : ∀ l : List ByteArray, dupB l = false ↔ (l.map dat).Nodup
  | [] => by simp [dupB]
  | x :: l => by
    show (mem l x || dupB l) = false ↔ _
    rw [Bool.or_eq_false_iff, dup_nodup l, List.map_cons, List.nodup_cons]
    refine and_congr_left fun _ => ?_
    rw [Bool.eq_false_iff, Ne, mem_iff, List.mem_map]
    constructor
    · rintro h ⟨y, hy, e⟩; exact h (dat_inj e ▸ hy)
    · intro h hx; exact h ⟨x, hx, rfl⟩
theorem sorted_len_le (l : List (List UInt8)) : (sorted l).length ≤ l.length := len_le _ _ (up_nodup (sorted_up l)) (fun x hx => (sorted_mem l x).1 hx)
theorem dup_short : ∀ (l : List (List UInt8)), ¬ l.Nodup → ∃ m : List (List UInt8), m.length < l.length ∧ ∀ x ∈ l, x ∈ m
  | [], h => absurd List.nodup_nil h
  | x :: l, h => by
    by_cases hx : x ∈ l
    · exact ⟨l, by simp, fun y hy => by rcases List.mem_cons.1 hy with rfl | hy; exact hx; exact hy⟩
    · obtain ⟨m, hm, hs⟩ := dup_short l (fun g => h (List.nodup_cons.2 ⟨hx, g⟩))
      exact ⟨x :: m, by simp; omega, fun y hy => by
        rcases List.mem_cons.1 hy with rfl | hy
        · exact List.mem_cons_self
        · exact List.mem_cons_of_mem _ (hs y hy)⟩
theorem sorted_len (l : List ByteArray) : decide ((sorted (l.map dat)).length ≠ l.length) = dupB l := by
  cases h : dupB l with
  | false =>
    have hn := (dup_nodup l).1 h
    have h1 := sorted_len_le (l.map dat)
    have h2 := len_le (l.map dat) (sorted (l.map dat)) hn (fun x hx => (sorted_mem _ x).2 hx)
    rw [List.length_map] at h1 h2
    exact decide_eq_false (fun g => g (by omega))
  | true =>
    have hn : ¬ (l.map dat).Nodup := fun g => by rw [(dup_nodup l).2 g] at h; cases h
    obtain ⟨m, hm, hs⟩ := dup_short _ hn
    have := len_le (sorted (l.map dat)) m (up_nodup (sorted_up _)) (fun x hx => hs x ((sorted_mem _ x).1 hx))
    rw [List.length_map] at hm
    exact decide_eq_true (by omega)
end Go.Proofs.Ytjofofpplpmgjaa.Pure
namespace Go.Proofs.Ytjofofpplpmgjaa.Pure
set_option linter.unusedVariables false
set_option linter.unusedSimpArgs false
open Go.RowKit Go.Lib Go.Shelf Go.Proofs.YtjofofpplpmgjaaW.PrintWords Go.Proofs.YtjofofpplpmgjaaW.PrintLast Go.Proofs.YtjofofpplpmgjaaW.PrintMore Go.Proofs.Ytjofofpplpmgjaa.Pr

def rowsE (c : Cf) : List (List ByteArray) := [c.els, c.rep, namesOf c]
def rowsA (c : Cf) : List (List ByteArray) := c.ats :: c.per.map (·.f1)
theorem lists_l0 {c : Cf} (hf : Fit c) : ∀ (d i : Nat) (a : List ByteArray) (b : List (List ByteArray)), i + d = c.per.length → a.length ≤ i → b.length ≤ i + 1 → ∀ k, d < k →
    config_lists.l0 k a b c.per (c.per.length : Int) (i : Int) c.al c.aal c.els c.rep c.ats c.per c.com c.dt = some ([c.els, c.rep, a ++ (c.per.drop i).map (·.f0)], b ++ (c.per.drop i).map (·.f1))
  | 0, i, a, b, h, ha, hb, k, hk => by
    obtain ⟨k, rfl⟩ : ∃ m, k = m + 1 := ⟨k - 1, by omega⟩
    simp only [config_lists.l0]
    rw [if_neg (by omega), List.drop_of_length_le (by omega)]
    simp
  | d + 1, i, a, b, h, ha, hb, k, hk => by
    obtain ⟨k, rfl⟩ : ∃ m, k = m + 1 := ⟨k - 1, by omega⟩
    have hp := hf.per
    obtain ⟨p, hp0⟩ : ∃ p, c.per[i]? = some p := ⟨_, List.getElem?_eq_getElem (by omega)⟩
    simp only [config_lists.l0]
    rw [if_pos (by omega), if_pos (by omega), if_pos (by omega), if_pos (by omega), if_pos (by omega), wrap_succ (by omega) (by omega), rd35_at hp0, drop_at hp0]
    have := lists_l0 hf d (i + 1) (a ++ [p.f0]) (b ++ [p.f1]) (by omega) (by rw [List.length_append]; simp; omega) (by rw [List.length_append]; simp; omega) k (by omega)
    rw [show ((i + 1 : Nat) : Int) = (i : Int) + 1 from rfl] at this
    rw [this, List.append_assoc, List.append_assoc]
    rfl
theorem lists_f {c : Cf} (hf : Fit c) : config_lists.f 2000 c.al c.aal c.els c.rep c.ats c.per c.com c.dt = some (rowsE c, rowsA c) := by
  have := lists_l0 hf c.per.length 0 [] [c.ats] (by omega) (by simp) (by simp) 2000 (by have := hf.per; omega)
  exact this
theorem lists_calls {v : Value} {c : Cf} (hf : Fit c) {w : World} (h : CfV w v c) :
    Calls Try.prog 40 #[v] w fun e w' => ∃ v0 v1, e = .returned (.tuple #[v0, v1]) ∧ Sl (Kd.slice 9 Kd.string) w' v0 (rowsE c) ∧ Sl (Kd.slice 9 Kd.string) w' v1 (rowsA c) ∧ Below w.heap.size w w' := by
  obtain ⟨_, _, _, _, rfl, ⟨A2, c2, rfl, l2, h2⟩, ⟨A3, c3, rfl, l3, h3⟩, ⟨A4, c4, rfl, l4, h4⟩, ⟨A5, c5, rfl, l5, h5⟩⟩ := h
  refine (config_lists.calls 2000 c.al c.aal (fun k => k < w.heap.size) A2 c2 c.els (fun k => k < w.heap.size) A3 c3 c.rep (fun k => k < w.heap.size) A4 c4 c.ats (fun k => k < w.heap.size) A5 c5 c.per c.com c.dt (rowsE c) (rowsA c) w
    (Kd.V_mk l2 (Kd.C_F Kd.heap_string h2)) (Kd.V_mk l3 (Kd.C_F Kd.heap_string h3)) (Kd.V_mk l4 (Kd.C_F Kd.heap_string h4)) (Kd.V_mk l5 (Kd.C_F (Kd.heap_iso _ (Kd.heap_pair Kd.heap_string (Kd.heap_slice _ Kd.heap_string))) h5)) (lists_f hf)).mono ?_
  rintro e w' ⟨v0, v1, rfl, h0, h1, hb⟩
  exact ⟨v0, v1, rfl, Kd.N_reads h0, Kd.N_reads h1, hb⟩
theorem twice_f (l : List ByteArray) (hl : l.length ≤ 1000) : config_twice.f l = some (dupB l) := by
  unfold config_twice.f
  rw [sorted_f l (by omega), Option.bind_some, ← sorted_len l]
  refine congrArg some ?_
  rw [SS_len]
  rw [Bool.eq_iff_iff, bne_iff_ne, decide_eq_true_eq]
  omega
end Go.Proofs.Ytjofofpplpmgjaa.Pure
namespace Go.Proofs.Ytjofofpplpmgjaa.Pure
set_option linter.unusedVariables false
set_option linter.unusedSimpArgs false
open Go.RowKit Go.Lib Go.Shelf Go.Proofs.YtjofofpplpmgjaaW.PrintWords Go.Proofs.YtjofofpplpmgjaaW.PrintLast Go.Proofs.YtjofofpplpmgjaaW.PrintMore Go.Proofs.Ytjofofpplpmgjaa.Pr

set_option maxHeartbeats 2000000 in
theorem meet1_calls (b : List ByteArray) (hb : b.length ≤ 1000) (x : ByteArray) {W : World} {g : Nat} {vb : Value} (h1 : W.cell? ⟨g, 0, none⟩ = some vb) (hS : Sl Kd.string W vb b) :
    Calls Try.prog 72 (#[.string x] ++ #[.pointer (some ⟨g, 0, none⟩)]) W fun r w' => r = .returned (.bool (mem b x)) ∧ Below W.heap.size W w' := by
  show Calls Try.prog _ #[.string x, .pointer (some ⟨g, 0, none⟩)] W _
  have HC := hid (contains_calls hb x hS)
  clear hS
  go_enter Try.func72, Try.ntmps72
  go_wp2_with (go_at_call 31; refine HC.out.mono ?_; rintro r w' ⟨rfl, hb'⟩)
  go_ret
  exact ⟨rfl, hb'⟩
set_option maxHeartbeats 2000000 in
theorem meet_calls (a b : List ByteArray) (hb : b.length ≤ 1000) {w : World} {va vb : Value} (hA : Sl Kd.string w va a) (hS : Sl Kd.string w vb b) :
    Calls Try.prog 47 #[va, vb] w fun r w' => r = .returned (.bool (meetB a b)) ∧ Below w.heap.size w w' := by
  obtain ⟨A, c, rfl, hl, hC⟩ := hA
  obtain ⟨B, cb, rfl, hlb, hCb⟩ := hS
  have key : Hid (∀ o W, (∀ v, v = .slice B b.length cb → o = .cells #[v] 22 (0, 0) → W = w.alloc o → Calls Try.prog 68 #[.slice A a.length c, .func (.func 72) #[] #[.pointer (some ⟨w.heap.size, 0, none⟩)]] W fun r w' => r = .returned (.bool (meetB a b)) ∧ Below W.heap.size W w')) := fun o W v hv ho hW => by
    subst hv ho hW
    refine hasStr_calls (c := c) (mem b) 72 _ (fun args w => enters_ Try.func72 (by kernel_rfl) rfl args w) _ (Kd.C_below hC (bl_alloc _ _)) ?_
    rintro W x cs hx hBW rfl
    refine (meet1_calls b hb x (at_old (at_new w _ 22 0 rfl) hBW) (Sl.below (Sl.below ⟨B, cb, rfl, hlb, hCb⟩ (bl_alloc _ _)) hBW)).mono ?_
    rintro r w' ⟨rfl, hb'⟩
    exact ⟨rfl, below_step hBW hb'⟩
  have HB := hid (bl_alloc w)
  clear hl hC hlb hCb hb
  obtain ⟨m, hm⟩ : ∃ m, meetB a b = m := ⟨_, rfl⟩
  rw [hm] at key ⊢
  clear hm
  go_enter Try.func47, Try.ntmps47
  go_wp2_with (go_at_call 68; refine (key.out _ _ _ rfl rfl rfl).mono ?_; rintro r w' ⟨rfl, hb'⟩)
  go_ret
  exact ⟨rfl, below_step (HB.out _) hb'⟩
end Go.Proofs.Ytjofofpplpmgjaa.Pure
namespace Go.Proofs.Ytjofofpplpmgjaa.Pure
set_option linter.unusedVariables false
set_option linter.unusedSimpArgs false
open Go.RowKit Go.Lib Go.Shelf Go.Proofs.YtjofofpplpmgjaaW.PrintWords Go.Proofs.YtjofofpplpmgjaaW.PrintLast Go.Proofs.YtjofofpplpmgjaaW.PrintMore Go.Proofs.Ytjofofpplpmgjaa.Pr

set_option maxHeartbeats 2000000 in
theorem odd11_calls (f : Nat) (ef : ∀ args w, (callFunc f args).run Try.prog w = .ok (.enter f args) w) (m : Bool) (x : ByteArray) {W : World} {g : Nat} (h1 : W.cell? ⟨g, 0, none⟩ = some (.func (.func f) #[] #[])) (hf : Calls Try.prog f #[.string x] W fun r w' => r = .returned (.bool m) ∧ Below W.heap.size W w') :
    Calls Try.prog 69 (#[.string x] ++ #[.pointer (some ⟨g, 0, none⟩)]) W fun r w' => r = .returned (.bool (!m)) ∧ Below W.heap.size W w' := by
  show Calls Try.prog _ #[.string x, .pointer (some ⟨g, 0, none⟩)] W _
  go_enter Try.func69, Try.ntmps69
  go_wp2_with (go_at_fn f; refine hf.mono ?_; rintro r w' ⟨rfl, hb'⟩)
  go_ret
  exact ⟨rfl, hb'⟩
set_option maxHeartbeats 2000000 in
theorem odd1_calls (f : Nat) (ef : ∀ args w, (callFunc f args).run Try.prog w = .ok (.enter f args) w) (p : ByteArray → Bool) (l : List ByteArray) {w : World} {A : Option Addr} {c : Nat} (hC : Kd.string.C w A l.length l) {g : Nat} (h1 : w.cell? ⟨g, 0, none⟩ = some (.func (.func f) #[] #[]))
    (hf : ∀ x, x ∈ l → ∀ W, Calls Try.prog f #[.string x] W fun r w' => r = .returned (.bool (p x)) ∧ Below W.heap.size W w') :
    Calls Try.prog 67 (#[.slice A l.length c] ++ #[.pointer (some ⟨g, 0, none⟩)]) w fun r w' => r = .returned (.bool (l.any fun x => !p x)) ∧ Below w.heap.size w w' := by
  show Calls Try.prog _ #[.slice A l.length c, .pointer (some ⟨g, 0, none⟩)] w _
  have key := hid (hasStr_calls (c := c) (fun x => !p x) 69 #[.pointer (some ⟨g, 0, none⟩)] (fun args w => enters_ Try.func69 (by kernel_rfl) rfl args w) w hC (by
    rintro W x cs hx hBW rfl
    refine (odd11_calls f ef (p x) x (at_old h1 hBW) (hf x hx W)).mono ?_
    rintro r w' ⟨rfl, hb'⟩
    exact ⟨rfl, below_step hBW hb'⟩))
  obtain ⟨m, hm⟩ : ∃ m, (l.any fun x => !p x) = m := ⟨_, rfl⟩
  rw [hm] at key ⊢
  clear hm hC hf
  go_enter Try.func67, Try.ntmps67
  go_wp2_with (go_at_call 68; refine key.out.mono ?_; rintro r w' ⟨rfl, hb'⟩)
  go_ret
  exact ⟨rfl, hb'⟩
set_option maxHeartbeats 2000000 in
theorem odd_calls (f : Nat) (w : World) : Calls Try.prog 43 #[.func (.func f) #[] #[]] w fun r w' => ∃ g, r = .returned (.func (.func 67) #[] #[.pointer (some ⟨g, 0, none⟩)]) ∧ w'.cell? ⟨g, 0, none⟩ = some (.func (.func f) #[] #[]) ∧ Below w.heap.size w w' := by
  have HN := hid (fun t => at_new w #[.func (.func f) #[] #[]] t 0 (v := .func (.func f) #[] #[]) rfl)
  have HB := hid (bl_alloc w)
  go_enter Try.func43, Try.ntmps43
  go_wp2
  go_ret
  exact ⟨w.heap.size, rfl, HN.out _, HB.out _⟩
set_option maxHeartbeats 2000000 in
theorem check1_calls (a b : List ByteArray) (hb : b.length ≤ 1000) {w : World} {va vb : Value} (hA : Sl Kd.string w va a) (hS : Sl Kd.string w vb b) {g : Nat} (h1 : w.cell? ⟨g, 4, none⟩ = some vb) :
    Calls Try.prog 48 (#[va] ++ #[.pointer (some ⟨g, 0, none⟩)]) w fun r w' => r = .returned (.bool (meetB a b)) ∧ Below w.heap.size w w' := by
  show Calls Try.prog _ #[va, .pointer (some ⟨g, 0, none⟩)] w _
  have key := hid (meet_calls a b hb hA hS)
  clear hA hS
  go_enter Try.func48, Try.ntmps48
  go_wp2_with (go_at_call 47; refine key.out.mono ?_; rintro r w' ⟨rfl, hb'⟩)
  go_ret
  exact ⟨rfl, hb'⟩
end Go.Proofs.Ytjofofpplpmgjaa.Pure
namespace Go.Proofs.Ytjofofpplpmgjaa.Pure
set_option linter.unusedVariables false
set_option linter.unusedSimpArgs false
open Go.RowKit Go.Lib Go.Shelf Go.Proofs.YtjofofpplpmgjaaW.PrintWords Go.Proofs.YtjofofpplpmgjaaW.PrintLast Go.Proofs.YtjofofpplpmgjaaW.PrintMore Go.Proofs.Ytjofofpplpmgjaa.Pr

def bigB (c : Cf) : Bool := (rowsE c).any longB || (rowsA c).any longB
def oddE (c : Cf) : Bool := (rowsE c).any fun l => l.any fun x => !mayB false x
def oddA (c : Cf) : Bool := (rowsA c).any fun l => l.any fun x => !mayB true x
theorem any_not_all {α : Type} (p : α → Bool) (l : List α) : (l.any fun x => !p x) = !l.all p := by
  induction l with
  | nil => rfl
  | cons x l ih => rw [List.any_cons, List.all_cons, ih, Bool.not_and]
theorem checkI_eq {c : Cf} : checkI c = finI ((rowsE c).any longB || (rowsA c).any longB) (!(oddE c || oddA c)) (!((rowsE c).any dupB || (rowsA c).any dupB)) ((meetB c.els c.rep || (c.per.map (·.f1)).any (fun l => meetB l c.ats)) || (c.dt && !c.aal)) := by
  have e1 : longB (namesOf c) = decide (64 < c.per.length) := by unfold longB namesOf; rw [List.length_map]
  unfold checkI oddE oddA rowsE rowsA
  congr 1
  · simp only [List.any_cons, List.any_nil, Bool.or_false, e1, List.any_map]
    cases longB c.els <;> cases longB c.rep <;> cases longB c.ats <;> cases decide (64 < c.per.length) <;> rfl
  · have e2 : ((c.per.map (·.f1)).all fun l => l.all (mayB true)) = c.per.all (fun p => allMay true p.f1) := by rw [List.all_map]; rfl
    simp only [any_not_all, List.all_cons, List.all_nil, Bool.and_true]
    rw [e2]
    unfold allMay
    cases c.els.all (mayB false) <;> cases c.rep.all (mayB false) <;> cases (namesOf c).all (mayB false) <;> cases c.ats.all (mayB true) <;> cases c.per.all (fun p => p.f1.all (mayB true)) <;> rfl
  · simp only [List.any_cons, List.any_nil, Bool.or_false, List.any_map]
    have e2 : c.per.all (fun p => !dupB p.f1) = !c.per.any (dupB ∘ (·.f1)) := by
      have := any_not_all (fun p : S35 => !dupB p.f1) c.per
      simp only [Bool.not_not] at this
      rw [show c.per.any (dupB ∘ (·.f1)) = c.per.any (fun p => dupB p.f1) from rfl, this, Bool.not_not]
    rw [e2]
    cases dupB c.els <;> cases dupB c.rep <;> cases dupB (namesOf c) <;> cases dupB c.ats <;> cases c.per.any (dupB ∘ (·.f1)) <;> rfl
  · simp only [List.any_map]
    rw [show c.per.any ((fun l => meetB l c.ats) ∘ (·.f1)) = c.per.any (fun p => meetB p.f1 c.ats) from rfl]
    cases meetB c.els c.rep <;> cases c.per.any (fun p => meetB p.f1 c.ats) <;> cases c.dt <;> cases c.aal <;> rfl
theorem rows_calls {w : World} {v : Value} {l : List (List ByteArray)} (h : Sl (Kd.slice 9 Kd.string) w v l) (p : List ByteArray → Bool) (g : Nat) (lb : Array Value) (eg : ∀ args w, (callFunc g args).run Try.prog w = .ok (.enter g args) w)
    (hp : ∀ W v x, x ∈ l → Below w.heap.size w W → Sl Kd.string w v x → Calls Try.prog g (#[v] ++ lb) W fun e w' => e = .returned (.bool (p x)) ∧ Below W.heap.size W w') :
    Calls Try.prog 41 #[v, .func (.func g) #[] lb] w fun e w' => e = .returned (.bool (l.any p)) ∧ Below w.heap.size w w' := by
  obtain ⟨A, c, rfl, hl, hC⟩ := h
  refine hasRow_calls (c := c) p g lb eg w hC ?_
  rintro W x cs hx hb ⟨A', c', rfl, hl', hC'⟩
  refine (hp W _ x hx hb ⟨A', c', rfl, hl', hC'⟩).mono ?_
  rintro e w' ⟨rfl, hb'⟩
  exact ⟨rfl, below_step hb hb'⟩
theorem right_calls (x : ByteArray) (hx : x.size ≤ 4000000000000000000) (W : World) : Calls Try.prog 44 #[.string x] W fun r w' => r = .returned (.bool (mayB false x)) ∧ Below W.heap.size W w' := by
  refine (names_Right.calls (x.size * 5 + 1) x _ W (right_f x hx (by omega))).mono ?_
  rintro e w' ⟨rfl, hd⟩
  exact ⟨rfl, drawn_below hd⟩
theorem nattr_calls (x : ByteArray) (hx : x.size ≤ 4000000000000000000) (W : World) : Calls Try.prog 45 #[.string x] W fun r w' => r = .returned (.bool (mayB true x)) ∧ Below W.heap.size W w' := by
  refine (names_Attr.calls (x.size * 9 + 1) x _ W (nattr_f x hx (by omega))).mono ?_
  rintro e w' ⟨rfl, hd⟩
  exact ⟨rfl, drawn_below hd⟩
def Text (c : Cf) : Prop := (∀ l ∈ rowsE c, ∀ x ∈ l, x.size ≤ 4000000000000000000) ∧ ∀ l ∈ rowsA c, ∀ x ∈ l, x.size ≤ 4000000000000000000
theorem fit_rows {c : Cf} (hf : Fit c) : (∀ l ∈ rowsE c, l.length ≤ 1000) ∧ ∀ l ∈ rowsA c, l.length ≤ 1000 := by
  constructor
  · intro l hl
    simp only [rowsE, List.mem_cons, List.not_mem_nil, or_false] at hl
    rcases hl with rfl | rfl | rfl
    · exact hf.els
    · exact hf.rep
    · unfold namesOf; rw [List.length_map]; exact hf.per
  · intro l hl
    simp only [rowsA, List.mem_cons, List.mem_map] at hl
    rcases hl with rfl | ⟨p, hp, rfl⟩
    · exact hf.ats
    · exact hf.sub p hp
theorem tail_cut {w : World} {A : Option Addr} {c n : Nat} {x : List ByteArray} {l : List (List ByteArray)} (hn : (x :: l).length = n) (hc : n ≤ c) (hC : (Kd.slice 9 Kd.string).C w A (x :: l).length (x :: l)) :
    ∃ v, (∀ W : World, (Instr.slice 47 (.slice A n c) (some (.int .i64 1)) none none).run Try.prog W = .ok v W) ∧ Sl (Kd.slice 9 Kd.string) w v l := by
  subst hn
  obtain ⟨i, hi, hzz⟩ := Option.map_eq_some_iff.1 (show (Try.prog.info? 22).map (fun i => (i.zero, i.size, i.bytes)) = some (some (.slice none 0 0), 1, 24) by kernel_rfl)
  simp only [Prod.mk.injEq] at hzz
  refine ⟨_, cut_from (P := Try.prog) 47 22 .i64 Try.underlying47 hi 1 hzz.2.1 A (x :: l).length c 1 (by omega) (by simp; omega), ?_⟩
  have := Kd.C_drop (m := 1) (c := c) hC (by simp) hc
  have hlc : l.length ≤ c - 1 := by
    simp only [List.length_cons] at hc
    omega
  exact ⟨_, c - 1, rfl, hlc, this⟩
structure CK (g : Nat) (w1 : World) (v0 v1 v2 v3 vt : Value) (e1 e2 o1 o2 t1 t2 m1 m2 : Bool) : Prop where
  k1 : ∀ W, Below w1.heap.size w1 W → Calls Try.prog 41 #[v0, .func (.func 42) #[] #[]] W fun e w' => e = .returned (.bool e1) ∧ Below W.heap.size W w'
  k2 : ∀ W, Below w1.heap.size w1 W → Calls Try.prog 41 #[v1, .func (.func 42) #[] #[]] W fun e w' => e = .returned (.bool e2) ∧ Below W.heap.size W w'
  k3 : ∀ W q, Below w1.heap.size w1 W → W.cell? ⟨q, 0, none⟩ = some (.func (.func 44) #[] #[]) → Calls Try.prog 41 #[v0, .func (.func 67) #[] #[.pointer (some ⟨q, 0, none⟩)]] W fun e w' => e = .returned (.bool o1) ∧ Below W.heap.size W w'
  k4 : ∀ W q, Below w1.heap.size w1 W → W.cell? ⟨q, 0, none⟩ = some (.func (.func 45) #[] #[]) → Calls Try.prog 41 #[v1, .func (.func 67) #[] #[.pointer (some ⟨q, 0, none⟩)]] W fun e w' => e = .returned (.bool o2) ∧ Below W.heap.size W w'
  k5 : ∀ W, Below w1.heap.size w1 W → Calls Try.prog 41 #[v0, .func (.func 46) #[] #[]] W fun e w' => e = .returned (.bool t1) ∧ Below W.heap.size W w'
  k6 : ∀ W, Below w1.heap.size w1 W → Calls Try.prog 41 #[v1, .func (.func 46) #[] #[]] W fun e w' => e = .returned (.bool t2) ∧ Below W.heap.size W w'
  k7 : ∀ W, Below w1.heap.size w1 W → Calls Try.prog 47 #[v2, v3] W fun e w' => e = .returned (.bool m1) ∧ Below W.heap.size W w'
  k8 : ∀ W, Below w1.heap.size w1 W → Calls Try.prog 41 #[vt, .func (.func 48) #[] #[.pointer (some ⟨g, 0, none⟩)]] W fun e w' => e = .returned (.bool m2) ∧ Below W.heap.size W w'
theorem ck_mk {c : Cf} (hf : Fit c) (ht : Text c) {g : Nat} {w1 : World} {v0 v1 v2 v3 v4 vt : Value} (h0 : Sl (Kd.slice 9 Kd.string) w1 v0 (rowsE c)) (h1 : Sl (Kd.slice 9 Kd.string) w1 v1 (rowsA c)) (h2 : Sl Kd.string w1 v2 c.els) (h3 : Sl Kd.string w1 v3 c.rep) (h4 : Sl Kd.string w1 v4 c.ats)
    (ht1 : Sl (Kd.slice 9 Kd.string) w1 vt (c.per.map (·.f1))) (hg : w1.cell? ⟨g, 4, none⟩ = some v4) :
    CK g w1 v0 v1 v2 v3 vt ((rowsE c).any longB) ((rowsA c).any longB) (oddE c) (oddA c) ((rowsE c).any dupB) ((rowsA c).any dupB) (meetB c.els c.rep) ((c.per.map (·.f1)).any fun l => meetB l c.ats) where
  k1 W hb := rows_calls (h0.below hb) longB _ #[] (fun args w => enters_ Try.func42 (by kernel_rfl) rfl args w) (fun W' v x hx hb' hS => by
    obtain ⟨A, k, rfl, hl, hC⟩ := hS
    refine (config_long.calls A k x (longB x) W' (Kd.C_below hC hb') hl ?_).mono ?_
    · show some (decide (((x.length : Nat) : Int) > 64)) = _
      rw [long_i]
    · rintro e w' ⟨rfl, hd⟩
      exact ⟨rfl, drawn_below hd⟩)
  k2 W hb := rows_calls (h1.below hb) longB _ #[] (fun args w => enters_ Try.func42 (by kernel_rfl) rfl args w) (fun W' v x hx hb' hS => by
    obtain ⟨A, k, rfl, hl, hC⟩ := hS
    refine (config_long.calls A k x (longB x) W' (Kd.C_below hC hb') hl ?_).mono ?_
    · show some (decide (((x.length : Nat) : Int) > 64)) = _
      rw [long_i]
    · rintro e w' ⟨rfl, hd⟩
      exact ⟨rfl, drawn_below hd⟩)
  k3 W q hb hq := rows_calls (h0.below hb) (fun l => l.any fun x => !mayB false x) _ _ (fun args w => enters_ Try.func67 (by kernel_rfl) rfl args w) (fun W' v x hx hb' hS => by
    obtain ⟨A, k, rfl, hl, hC⟩ := hS
    exact odd1_calls _ (fun args w => enters_ Try.func44 (by kernel_rfl) rfl args w) (mayB false) x (Kd.C_below hC hb') (at_old hq hb') (fun y hy W2 => right_calls y (ht.1 x hx y hy) W2))
  k4 W q hb hq := rows_calls (h1.below hb) (fun l => l.any fun x => !mayB true x) _ _ (fun args w => enters_ Try.func67 (by kernel_rfl) rfl args w) (fun W' v x hx hb' hS => by
    obtain ⟨A, k, rfl, hl, hC⟩ := hS
    exact odd1_calls _ (fun args w => enters_ Try.func45 (by kernel_rfl) rfl args w) (mayB true) x (Kd.C_below hC hb') (at_old hq hb') (fun y hy W2 => nattr_calls y (ht.2 x hx y hy) W2))
  k5 W hb := rows_calls (h0.below hb) dupB _ #[] (fun args w => enters_ Try.func46 (by kernel_rfl) rfl args w) (fun W' v x hx hb' hS => by
    obtain ⟨A, k, rfl, hl, hC⟩ := hS
    exact config_twice.calls A k x (dupB x) W' (Kd.C_below hC hb') hl (twice_f x ((fit_rows hf).1 x hx)))
  k6 W hb := rows_calls (h1.below hb) dupB _ #[] (fun args w => enters_ Try.func46 (by kernel_rfl) rfl args w) (fun W' v x hx hb' hS => by
    obtain ⟨A, k, rfl, hl, hC⟩ := hS
    exact config_twice.calls A k x (dupB x) W' (Kd.C_below hC hb') hl (twice_f x ((fit_rows hf).2 x hx)))
  k7 W hb := meet_calls c.els c.rep hf.rep (h2.below hb) (h3.below hb)
  k8 W hb := rows_calls (ht1.below hb) (fun l => meetB l c.ats) _ _ (fun args w => enters_ Try.func48 (by kernel_rfl) rfl args w) (fun W' v x hx hb' hS =>
    check1_calls x c.ats hf.ats (hS.below hb') ((h4.below hb).below hb') (at_old (at_old hg hb) hb'))
end Go.Proofs.Ytjofofpplpmgjaa.Pure
namespace Go.Proofs.Ytjofofpplpmgjaa.Pure
set_option linter.unusedVariables false
set_option linter.unusedSimpArgs false
open Go.RowKit Go.Lib Go.Shelf Go.Proofs.YtjofofpplpmgjaaW.PrintWords Go.Proofs.YtjofofpplpmgjaaW.PrintLast Go.Proofs.YtjofofpplpmgjaaW.PrintMore Go.Proofs.Ytjofofpplpmgjaa.Pr

structure CL (w w1 : World) (v0 v1 v2 v3 : Value) (aal dt e1 e2 o1 o2 t1 t2 m1 m2 : Bool) : Prop where
  cut : ∃ vt, (∀ W : World, (Instr.slice 47 v1 (some (.int .i64 1)) none none).run Try.prog W = .ok vt W) ∧ CK w.heap.size w1 v0 v1 v2 v3 vt e1 e2 o1 o2 t1 t2 m1 m2
  below : Below w.heap.size w w1
  c1 : w1.cell? ⟨w.heap.size, 1, none⟩ = some (.bool aal)
  c2 : w1.cell? ⟨w.heap.size, 2, none⟩ = some v2
  c3 : w1.cell? ⟨w.heap.size, 3, none⟩ = some v3
  c7 : w1.cell? ⟨w.heap.size, 7, none⟩ = some (.bool dt)
theorem cl_mk {v2 v3 v4 v5 : Value} {c : Cf} (hf : Fit c) (ht : Text c) {w : World} (h2 : Sl Kd.string w v2 c.els) (h3 : Sl Kd.string w v3 c.rep) (h4 : Sl Kd.string w v4 c.ats) (h5 : Sl k35 w v5 c.per) :
    Calls Try.prog 40 #[.agg #[.bool c.al, .bool c.aal, v2, v3, v4, v5, .bool c.com, .bool c.dt]] (w.alloc (.cells #[.bool c.al, .bool c.aal, v2, v3, v4, v5, .bool c.com, .bool c.dt] 25)) fun e w1 => ∃ v0 v1, e = .returned (.tuple #[v0, v1]) ∧
      CL w w1 v0 v1 v2 v3 c.aal c.dt ((rowsE c).any longB) ((rowsA c).any longB) (oddE c) (oddA c) ((rowsE c).any dupB) ((rowsA c).any dupB) (meetB c.els c.rep) ((c.per.map (·.f1)).any fun l => meetB l c.ats) := by
  have hb0 := bl_alloc w (.cells #[.bool c.al, .bool c.aal, v2, v3, v4, v5, .bool c.com, .bool c.dt] 25)
  refine (lists_calls hf (CfV.below ⟨v2, v3, v4, v5, rfl, h2, h3, h4, h5⟩ hb0)).mono ?_
  rintro e w1 ⟨v0, v1, rfl, s0, s1, hb⟩
  refine ⟨v0, v1, rfl, ?_⟩
  have s1' := s1
  obtain ⟨A, k, rfl, hk, hC⟩ := s1'
  obtain ⟨vt, hcut, hst⟩ := tail_cut (l := c.per.map (·.f1)) (x := c.ats) rfl hk hC
  have hb1 := below_step hb0 hb
  exact ⟨⟨vt, hcut, ck_mk hf ht s0 s1 (h2.below hb1) (h3.below hb1) (h4.below hb1) hst (at_old (at_new w _ _ 4 rfl) hb)⟩, hb1, at_old (at_new w _ _ 1 rfl) hb, at_old (at_new w _ _ 2 rfl) hb, at_old (at_new w _ _ 3 rfl) hb, at_old (at_new w _ _ 7 rfl) hb⟩
set_option maxHeartbeats 8000000 in
theorem check_calls {v : Value} {c : Cf} (hf : Fit c) (ht : Text c) {w : World} (h : CfV w v c) :
    Calls Try.prog 18 #[v] w fun e w' => e = .returned (.int .i64 (checkI c)) ∧ Below w.heap.size w w' := by
  obtain ⟨v2, v3, v4, v5, rfl, h2, h3, h4, h5⟩ := h
  have HL := hid (cl_mk hf ht h2 h3 h4 h5)
  rw [checkI_eq]
  generalize (rowsE c).any longB = e1 at HL ⊢
  generalize (rowsA c).any longB = e2 at HL ⊢
  generalize oddE c = o1 at HL ⊢
  generalize oddA c = o2 at HL ⊢
  generalize (rowsE c).any dupB = t1 at HL ⊢
  generalize (rowsA c).any dupB = t2 at HL ⊢
  generalize meetB c.els c.rep = m1 at HL ⊢
  generalize ((c.per.map (·.f1)).any fun l => meetB l c.ats) = m2 at HL ⊢
  obtain ⟨al, aal, els, rep, ats, per, com, dt⟩ := c
  clear h2 h3 h4 h5 hf ht
  have HW := hid (bl_alloc w)
  cases e1
  cases e2
  cases o1
  cases o2
  cases t1
  cases t2
  cases m1
  cases m2
  cases dt
  rotate_left
  cases aal
  all_goals
    go_enter Try.func18, Try.ntmps18
    go_wp2_with first
      | (go_at_call 40; refine HL.out.mono ?_; rintro e w1 ⟨v0, v1, rfl, hcl⟩; obtain ⟨⟨vt, hcut, hck⟩, hbl, c1, c2, c3, c7⟩ := hcl; have HC := hid hck; have HA := hid hbl; have HB := hid (Below.refl w1.heap.size w1); clear hck hbl HL)
      | (go_at_call 41; first
          | with_reducible refine (HC.out.k1 _ HB.out).mono ?_
          | with_reducible refine (HC.out.k2 _ HB.out).mono ?_
          | with_reducible refine (HC.out.k3 _ _ HB.out (by assumption)).mono ?_
          | with_reducible refine (HC.out.k4 _ _ HB.out (by assumption)).mono ?_
          | with_reducible refine (HC.out.k5 _ HB.out).mono ?_
          | with_reducible refine (HC.out.k6 _ HB.out).mono ?_
          | with_reducible refine (HC.out.k8 _ HB.out).mono ?_
         rintro e w2 ⟨rfl, hb⟩; replace HB := hid (below_step HB.out hb); replace c1 := at_old c1 hb; replace c2 := at_old c2 hb; replace c3 := at_old c3 hb; replace c7 := at_old c7 hb; clear hb)
      | (go_at_call 43; refine (odd_calls _ _).mono ?_; rintro e w2 ⟨g, rfl, hq, hb⟩; replace HB := hid (below_step HB.out hb); replace c1 := at_old c1 hb; replace c2 := at_old c2 hb; replace c3 := at_old c3 hb; replace c7 := at_old c7 hb; clear hb)
      | (go_at_call 47; refine (HC.out.k7 _ HB.out).mono ?_; rintro e w2 ⟨rfl, hb⟩; replace HB := hid (below_step HB.out hb); replace c1 := at_old c1 hb; replace c2 := at_old c2 hb; replace c3 := at_old c3 hb; replace c7 := at_old c7 hb; clear hb)
    go_ret
    exact ⟨by first | rfl | (simp; done), below_step HA.out HB.out⟩
end Go.Proofs.Ytjofofpplpmgjaa.Pure
namespace Go.Proofs.Ytjofofpplpmgjaa.Pr
set_option linter.unusedVariables false
set_option linter.unusedSimpArgs false
open Go.RowKit Go.Lib Go.Shelf Go.Sort Go.Proofs.Ytjofofpplpmgjaa Go.Proofs.YtjofofpplpmgjaaW.PrintWords Go.Proofs.YtjofofpplpmgjaaW.PrintLast Go.Proofs.YtjofofpplpmgjaaW.PrintMore

def slices_Clone_string_string.f (l : List ByteArray) : Option (List ByteArray) := if l.length ≤ 4294967296 then some l else none
def api_Per_64.f (l : List S35) : Option (List S35) := if l.length ≤ 4294967296 then some l else none
theorem own_R {w : World} {base : Nat} {v : Value} {l : List ByteArray} (h : w.ownsRow base 9 1 v l.length (l.map Value.string)) : Kd.R Kd.string 9 w base (fun _ => True) v l :=
  Kd.R_of_own (enc := Value.string) h (fun _ _ => trivial)
theorem slices_Clone_string_string.calls (A0 : Option Addr) (c0 : Nat) (l0 : List ByteArray) (r : List ByteArray) (w : World) (hr0 : Kd.C Kd.string w A0 l0.length l0) (hc0 : l0.length ≤ c0) (h : slices_Clone_string_string.f l0 = some r) :
    Calls Try.prog 63 #[.slice A0 l0.length c0] w fun e w' => ∃ v0_ : Value, e = .returned (v0_) ∧ Kd.R Kd.string 9 w' w.heap.size (fun _ => True) v0_ r ∧ Below w.heap.size w w' := by
  unfold slices_Clone_string_string.f at h
  split at h
  case isFalse => cases h
  rename_i hlen
  obtain rfl := Option.some.inj h
  clear h
  have hrd := Kd.reads_of_C (d := ByteArray.empty) hr0
  clear hr0
  rcases Nat.eq_zero_or_pos l0.length with h0 | h0
  · obtain rfl := List.eq_nil_of_length_eq_zero h0
    cases A0 with
    | none =>
      refine (Try.slices_Clone_string_nil 0 c0 w).mono ?_
      rintro e w1 ⟨rfl, rfl⟩
      exact ⟨_, rfl, Kd.R_nil _ _ _ _ _, Below.refl _ _⟩
    | some a =>
      refine (Try.slices_Clone_string_zero a c0 w).mono ?_
      rintro e w1 ⟨v', rfl, ho, _, hb⟩
      exact ⟨_, rfl, own_R (l := []) ho, hb⟩
  · obtain ⟨ad, rfl, hcell⟩ := hrd.2.2 h0
    obtain ⟨bk, of, sp⟩ := ad
    have hsp := spot_none (by simpa [Addr.add] using hcell 0 h0)
    simp only at hsp
    subst hsp
    have hcl := Try.slices_Clone_string bk of l0.length c0 l0 w (Nat.le_refl _) (by omega) (fun j hj => by
      have := hcell j hj
      unfold Addr.add at this
      split at this
      · rename_i hj0; subst hj0; simpa using this
      · exact this)
    rw [List.take_length] at hcl
    refine hcl.mono ?_
    rintro e w1 ⟨v', rfl, ho, _, hb⟩
    exact ⟨_, rfl, own_R ho, hb⟩
def Shares (okp : Nat → Prop) (w : World) (A : Option Addr) (n : Nat) (l : List S35) : Prop := ReadsRow (fun x c => Kd.FK k35 w okp x c) 2 w A n l
theorem Shares.below {okp : Nat → Prop} {w w1 : World} {A : Option Addr} {n : Nat} {l : List S35} (h : Shares okp w A n l) (hb : Below w.heap.size w w1) : Shares okp w1 A n l := ReadsRow.imp_ h hb (fun _ _ hk => Kd.FK_below hk hb)
theorem Shares.bound {okp : Nat → Prop} {w : World} {A : Option Addr} {n : Nat} {l : List S35} (h : Shares okp w A n l) : Shares (fun k => okp k ∧ k < w.heap.size) w A n l := ReadsRow.imp_ h (Below.refl _ _) (fun _ _ hf => Kd.FK_bound hf)
theorem Shares.of_C {w : World} {A : Option Addr} {n : Nat} {l : List S35} (h : Kd.C k35 w A n l) : Shares (fun k => k < w.heap.size) w A n l := Kd.F_rows (Kd.C_F k35_heap h)
section
variable {P : Program} {ops : Array Oper} {rest : List Oper} {o : Oper} {a : Act} {Q : Exit → Act → World → Prop}
theorem N_append_shares {w0 W : World} (base : Nat) (hgd : o.guard = none) (s x : Operand) (t e : TypeId) (z : Value) (bytes : Nat)
    (ho : o.op = .call { callee := .builtin .append, args := #[s, x], argTypes := #[t, t] })
    (ht : P.underlying t = some (.slice e)) (hinfo : (P.info? e).map (fun i => (i.zero, i.size, i.bytes)) = some (some z, k35.sz, bytes)) (hz : z.cells.size = k35.sz) (hs0 : 0 < k35.sz) (hb0 : 0 < bytes)
    (v : Value) (xs ys : List S35) (A : Option Addr) (m c : Nat) (ok okp : Nat → Prop) (hs : a.eval s = v) (hx : a.eval x = .slice A m c)
    (HO : Kd.N k35 e W base ok v xs) (HR : Shares okp W A m ys) (hokp : ∀ k, okp k → ok k ∧ some k ≠ v.ownBlock) (hfresh : ∀ k, W.heap.size ≤ k → ok k)
    (HB : Below base w0 W) (hbase : base ≤ W.heap.size) (hl : (xs.length + m) * bytes ≤ 140737488355328)
    (h : ∀ v1 w1, Kd.N k35 e w1 base ok v1 (xs ++ ys) → Below base w0 w1 → W.grownBy w1 v.ownBlock → (v1.ownBlock = v.ownBlock ∨ ∃ b, v1.ownBlock = some b ∧ W.heap.size ≤ b) → wpList P ops Q rest (a.put o.dst v1) w1) :
    wpList P ops Q (o :: rest) a W := by
  obtain ⟨h0, rows, hlr, hR, hf⟩ := HO
  obtain ⟨news, hnl, hnr, hnf⟩ := Kd.reads_raw HR (fun y c hk => ⟨k35.K_len (Kd.FK_now hk), k35.K_one (Kd.FK_now hk)⟩)
  refine Kd.R_append_rows (Kd.raw 2) base hgd s x t e z bytes ho ht hinfo hz hs0 hb0 v rows news A m c (fun _ => True) (fun _ => False) hs hx (Kd.raw_any hR) hnr (fun _ _ hk => hk) (fun _ hk => hk.elim) (fun _ _ => trivial) HB hbase (by rw [hlr]; exact hl) ?_
  intro v1 w1 hr hb hg hat
  exact h v1 w1 (Kd.N_appended h0 hlr hf hnl hnf hokp hfresh hr hg hat) hb hg hat
end
set_option maxHeartbeats 2000000 in
theorem api_Per_64.calls (A0 : Option Addr) (c0 : Nat) (l0 : List S35) (r : List S35) (okp : Nat → Prop) (w : World) (hokp : ∀ k, okp k → k < w.heap.size) (hr0 : Shares okp w A0 l0.length l0) (hc0 : l0.length ≤ c0) (h : api_Per_64.f l0 = some r) :
    Calls Try.prog 64 #[.slice A0 l0.length c0] w fun e w' => ∃ v0_ : Value, e = .returned (v0_) ∧ Kd.N k35 35 w' w.heap.size (fun k => okp k ∨ w.heap.size ≤ k) v0_ r ∧ Below w.heap.size w w' := by
  unfold api_Per_64.f at h
  split at h
  case isFalse => cases h
  rename_i hlen
  obtain rfl := Option.some.inj h
  clear h
  have h0 : A0 = none → l0 = [] := fun h => by
    rcases Nat.eq_zero_or_pos l0.length with h0 | h0
    · exact List.eq_nil_of_length_eq_zero h0
    · obtain ⟨ad, h2, _⟩ := hr0.2.2 h0
      rw [h] at h2; cases h2
  have HR := hid hr0
  have HW := hid hokp
  have HB := hid (Below.refl w.heap.size w)
  have HL := hid hlen
  have q23 : ∀ (w : World) (a : Option Addr) (n c n' c' : Nat), (binOp .eql 23 (.slice a n c) (.slice none n' c')).run Try.prog w = .ok (.bool a.isNone) w := fun w a n c n' c' => Lib.run_eql_slice_nil w _ _ a n c n' c' Try.underlying23
  clear hr0 hokp hlen hc0
  cases A0 with
  | none =>
    obtain rfl := h0 rfl
    go_enter Try.func64, Try.ntmps64
    go_wp2
    go_ret
    exact ⟨_, rfl, Kd.N_nil _ _ _ _ _, HB.out⟩
  | some a =>
    clear h0
    go_enter Try.func64, Try.ntmps64
    go_wp2_with first
      | ((with_reducible refine gate_dst (N := 5) rfl ?_); refine Kd.N_lit (w0 := w) k35 w.heap.size 35 ?hg (N' := 5) ?hd (xs := ([] : List S35)) (inner := []) (ok := fun k => okp k ∨ w.heap.size ≤ k) (okp := fun _ => False) ?hr ?hp (fun _ h => h.elim) (.inr (Nat.le_refl _)) HB.out (Nat.le_refl _) (by decide) ?_; (case hg => rfl); (case hd => rfl); (case hr => first | (go_simp; done) | (go_simp; rfl)); (case hp => exact Reps.none _ _); intro v1 w1 hN hb hg hat; have HN := hid hN; have HB1 := hid hb; have HG := hid hg; have HT := hid hat; clear hN hb hg hat)
      | ((with_reducible refine gate_builtin (b := .append) (xs := #[.tmp 5, .tmp 6]) rfl ?_); at_builtin; refine N_append_shares (w0 := w) w.heap.size rfl (.tmp 5) (.tmp 6) 23 35 (.agg #[(.string ⟨#[]⟩), (.slice none 0 0)]) 40 rfl Try.underlying23 info35 rfl (by decide) (by omega) v1 [] l0 (some a) l0.length c0 _ okp rfl rfl HN.out (Shares.below HR.out HB1.out) ?aK ?aF HB1.out (below_size HB1.out) ?aL ?_; (case aK => intro k hk; exact ⟨.inl hk, fun he => by obtain ⟨b, hb, hl⟩ := HT.out; rw [hb] at he; cases he; have := HW.out k hk; omega⟩); (case aF => intro k hk; exact .inr (Nat.le_trans (below_size HB1.out) hk)); (case aL => have := HL.out; simp; omega); intro v2 w2 hN hb hg hat; have HN2 := hid hN; have HB2 := hid hb; clear hN hb hg hat)
    go_ret
    exact ⟨_, rfl, HN2.out, HB2.out⟩
end Go.Proofs.Ytjofofpplpmgjaa.Pr
namespace Go.Proofs.Ytjofofpplpmgjaa.Pr
set_option linter.unusedVariables false
open Go.RowKit Go.Proofs.YtjofofpplpmgjaaW.PrintWords Go.Proofs.YtjofofpplpmgjaaW.PrintLast Go.Proofs.YtjofofpplpmgjaaW.PrintMore
abbrev tf (n m : Nat) : Array Bool := ⟨List.replicate n true ++ List.replicate m false⟩
section
variable {α : Type} {d : Kd α} {e : Nat} {w : World} {base : Nat} {ok : Nat → Prop} {v : Value} {xs : List α}
end
end Go.Proofs.Ytjofofpplpmgjaa.Pr
namespace Go.Proofs.Ytjofofpplpmgjaa.Pr
open Go.RowKit Go.Proofs.YtjofofpplpmgjaaW.PrintWords Go.Proofs.YtjofofpplpmgjaaW.PrintLast Go.Proofs.YtjofofpplpmgjaaW.PrintMore
attribute [local go_sem] max2_int min2_int max_two min_two max_three min_three max_four min_four   -- for this text's walks alone
set_option linter.unusedVariables false
set_option linter.unusedSimpArgs false

def config_copied.l0 : Nat → Int → Int → Bool → Bool → List ByteArray → List ByteArray → List ByteArray → List (S35) → Bool → Bool → Option (Bool × Bool × List ByteArray × List ByteArray × List ByteArray × (List (S35)) × Bool × Bool)
 | 0, _, _, _, _, _, _, _, _, _, _ => none
 | k + 1, x22, x23, x189000, x189001, x189002, x189003, x189004, x189005, x189006, x189007 => if x23 < x22 then (if 0 ≤ x23 then (if x23 < (x189005.length : Int) then ((slices_Clone_string_string.f ((rd_T35 x189005 x23).f1)).bind fun t203 => (config_copied.l0 k x22 (wrap64 (x23 + 1)) x189000 x189001 x189002 x189003 x189004 (x189005.set (x23 : Int).toNat (⟨(rd_T35 x189005 x23).f0, t203⟩ : S35)) x189006 x189007)) else (none)) else (none)) else (some (x189000, x189001, x189002, x189003, x189004, x189005, x189006, x189007))
def config_copied.f (k : Nat) (a0_0 : Bool) (a0_1 : Bool) (l0_2 : List ByteArray) (l0_3 : List ByteArray) (l0_4 : List ByteArray) (l0_5 : List (S35)) (a0_6 : Bool) (a0_7 : Bool) : Option (Bool × Bool × List ByteArray × List ByteArray × List ByteArray × (List (S35)) × Bool × Bool) := (slices_Clone_string_string.f l0_2).bind fun t190 => ((slices_Clone_string_string.f l0_3).bind fun t193 => ((slices_Clone_string_string.f l0_4).bind fun t196 => ((api_Per_64.f l0_5).bind fun t199 => (config_copied.l0 k (t199.length : Int) 0 a0_0 a0_1 t190 t193 t196 t199 a0_6 a0_7))))
def config_copied.T1 : Bool × List (List Nat × List Nat) := (true, [([], []), ([0], [0]), ([1], [1]), ([], []), ([3], [3]), ([4, 2], [4]), ([], []), ([6], [6]), ([7, 5], [7]), ([], []), ([9], [9]), ([10, 8], [10]), ([0, 1, 2, 3, 4, 6, 7, 9, 10], []), ([12, 2, 11, 0, 1, 2, 3, 4, 6, 7, 9, 10], [2, 12]), ([0, 1, 2, 3, 4, 5, 6, 7, 9, 10, 12, 13], []), ([14, 5, 13, 0, 1, 2, 3, 4, 5, 6, 7, 9, 10, 12, 13], [5, 14]), ([0, 1, 2, 3, 4, 5, 6, 7, 8, 9, 10, 12, 13, 14, 15], []), ([16, 8, 15, 0, 1, 2, 3, 4, 5, 6, 7, 8, 9, 10, 12, 13, 14, 15], [8, 16]), ([0, 1, 2, 3, 4, 5, 6, 7, 8, 9, 10, 11, 12, 13, 14, 15, 16, 17], []), ([18, 11, 17, 0, 1, 2, 3, 4, 5, 6, 7, 8, 9, 10, 11, 12, 13, 14, 15, 16, 17], [11, 18])])
def config_copied.B1 : List Nat := [0, 1, 3, 0, 8, 31, 0, 64, 255, 0, 512, 2047, 1759, 8191, 16383, 32767, 65535, 131071, 262143, 524287]
theorem config_copied.tab1 : rtab .any (opsOf Try.f35 1) = config_copied.T1 := by kernel_rfl
theorem config_copied.bits1 : waitsOk config_copied.T1.2 config_copied.B1 = true := by kernel_rfl
def config_copied.T5 : Bool × List (List Nat × List Nat) := (true, [([], []), ([0], [0]), ([], []), ([], []), ([3], [3]), ([], []), ([4, 5], [4, 5]), ([6], [6]), ([7], [7]), ([8], [8]), ([1, 2, 0, 1, 2, 3, 4, 5, 6, 7, 8, 9], [1, 2]), ([10, 0, 1, 2, 3, 4, 5, 6, 7, 8, 9], [10]), ([11, 9, 9, 0, 1, 2, 3, 4, 5, 6, 7, 8, 9], [9, 11])])
def config_copied.B5 : List Nat := [0, 1, 0, 0, 8, 0, 56, 120, 248, 504, 1023, 2047, 4095]
theorem config_copied.tab5 : rtab .any (opsOf Try.f35 5) = config_copied.T5 := by kernel_rfl
theorem config_copied.bits5 : waitsOk config_copied.T5.2 config_copied.B5 = true := by kernel_rfl
set_option maxHeartbeats 8000000 in
set_option maxRecDepth 100000 in
theorem config_copied.calls (k : Nat) (a0_0 : Bool) (a0_1 : Bool) (A0_2 : Option Addr) (c0_2 : Nat) (l0_2 : List ByteArray) (A0_3 : Option Addr) (c0_3 : Nat) (l0_3 : List ByteArray) (A0_4 : Option Addr) (c0_4 : Nat) (l0_4 : List ByteArray) (A0_5 : Option Addr) (c0_5 : Nat) (l0_5 : List (S35)) (a0_6 : Bool) (a0_7 : Bool) (r1 : Bool) (r2 : Bool) (r3 : List ByteArray) (r4 : List ByteArray) (r5 : List ByteArray) (r6 : List (S35)) (r7 : Bool) (r8 : Bool) (w : World) (hr0_2 : Kd.C Kd.string w A0_2 l0_2.length l0_2) (hc0_2 : l0_2.length ≤ c0_2) (hr0_3 : Kd.C Kd.string w A0_3 l0_3.length l0_3) (hc0_3 : l0_3.length ≤ c0_3) (hr0_4 : Kd.C Kd.string w A0_4 l0_4.length l0_4) (hc0_4 : l0_4.length ≤ c0_4) (okp : Nat → Prop) (hokp : ∀ k, okp k → k < w.heap.size) (hr0_5 : Shares okp w A0_5 l0_5.length l0_5) (hc0_5 : l0_5.length ≤ c0_5) (h : config_copied.f k a0_0 a0_1 l0_2 l0_3 l0_4 l0_5 a0_6 a0_7 = some (r1, r2, r3, r4, r5, r6, r7, r8)) :
  Calls Try.prog 35 #[.agg #[.bool a0_0, .bool a0_1, .slice A0_2 l0_2.length c0_2, .slice A0_3 l0_3.length c0_3, .slice A0_4 l0_4.length c0_4, .slice A0_5 l0_5.length c0_5, .bool a0_6, .bool a0_7]] w fun e w' => ∃ v2_ v3_ v4_ v5_ : Value, e = .returned (.agg #[.bool r1, .bool r2, v2_, v3_, v4_, v5_, .bool r7, .bool r8]) ∧ Kd.R Kd.string 9 w' w.heap.size (fun k_ => (w.heap.size ≤ k_) ∧ some k_ ≠ (v3_ : Value).ownBlock ∧ some k_ ≠ (v4_ : Value).ownBlock) v2_ r3 ∧ Kd.R Kd.string 9 w' w.heap.size (fun k_ => (w.heap.size ≤ k_) ∧ some k_ ≠ (v2_ : Value).ownBlock ∧ some k_ ≠ (v4_ : Value).ownBlock) v3_ r4 ∧ Kd.R Kd.string 9 w' w.heap.size (fun k_ => (w.heap.size ≤ k_) ∧ some k_ ≠ (v2_ : Value).ownBlock ∧ some k_ ≠ (v3_ : Value).ownBlock) v4_ r5 ∧ Kd.N k35 35 w' w.heap.size (fun k_ => (w.heap.size ≤ k_ ∨ okp k_) ∧ some k_ ≠ (v2_ : Value).ownBlock ∧ some k_ ≠ (v3_ : Value).ownBlock ∧ some k_ ≠ (v4_ : Value).ownBlock) v5_ r6 ∧ Below w.heap.size w w' := by
 have hu25 := Try.underlying25
 have HR0_2 := Aside0.mk hr0_2
 have HC0_2 := Aside0.mk hc0_2
 clear hr0_2 hc0_2
 have HR0_3 := Aside0.mk hr0_3
 have HC0_3 := Aside0.mk hc0_3
 clear hr0_3 hc0_3
 have HR0_4 := Aside0.mk hr0_4
 have HC0_4 := Aside0.mk hc0_4
 clear hr0_4 hc0_4
 have HW0 := Aside0.mk hokp
 clear hokp
 have HR0_5 := Aside0.mk hr0_5
 have HC0_5 := Aside0.mk hc0_5
 clear hr0_5 hc0_5
 have HB := Aside0.mk (Below.refl w.heap.size w)
 have H : ((slices_Clone_string_string.f l0_2).bind fun t190 => ((slices_Clone_string_string.f l0_3).bind fun t193 => ((slices_Clone_string_string.f l0_4).bind fun t196 => ((api_Per_64.f l0_5).bind fun t199 => (config_copied.l0 k (t199.length : Int) 0 a0_0 a0_1 t190 t193 t196 t199 a0_6 a0_7))))) = some (r1, r2, r3, r4, r5, r6, r7, r8) := h
 clear h
 replace H := Option.bind_eq_some_iff.mp H
 obtain ⟨t190, A20, H⟩ := H
 have A2 := Aside0.mk A20
 clear A20
 replace H := Option.bind_eq_some_iff.mp H
 obtain ⟨t193, A30, H⟩ := H
 have A3 := Aside0.mk A30
 clear A30
 replace H := Option.bind_eq_some_iff.mp H
 obtain ⟨t196, A40, H⟩ := H
 have A4 := Aside0.mk A40
 clear A40
 replace H := Option.bind_eq_some_iff.mp H
 obtain ⟨t199, A50, H⟩ := H
 have A5 := Aside0.mk A50
 clear A50
 have H' := Aside0.mk H
 clear H
 go_enter Try.func35, Try.ntmps35
 try go_wp2_with (first | ((with_reducible refine gate_dst (N := 1) rfl ?_); refine box_event ?hg (N := 1) ?hd (cs := #[.bool a0_0, .bool a0_1, .slice A0_2 l0_2.length c0_2, .slice A0_3 l0_3.length c0_3, .slice A0_4 l0_4.length c0_4, .slice A0_5 l0_5.length c0_5, .bool a0_6, .bool a0_7]) (t := 25) ?hr ?_; (case hd => rfl); (case hg => rfl); (case hr => first | (go_simp; done) | (go_simp; rfl)); intro gb188 hg w6 hbox hb; have n0_ := Aside0.mk (below_step (by repeat (first | (with_reducible first | exact HB.out | apply below_alloc | apply pw_below_drewN | apply below_drew1) | exact HB.out)) hb); have n1_ := Aside0.mk (hbox); have n2_ := Aside0.mk ((by rw [hg]; exact (below_size (by repeat (first | (with_reducible first | exact HB.out | apply below_alloc | apply pw_below_drewN | apply below_drew1) | exact HB.out))) : w.heap.size ≤ gb188)); have n3_ := Aside0.mk ((by rw [hg]; exact (below_size (by repeat (first | (with_reducible first | exact HB.out | apply below_alloc | apply pw_below_drewN | apply below_drew1) | exact HB.out))) : w.heap.size ≤ gb188)); clear HB; have HB := n0_; have BK188 := n1_; have GW188 := n2_; have GE188 := n3_; clear n0_ n1_ n2_ n3_; clear hb hbox hg) | ((with_reducible refine gate_dst (N := 2) rfl ?_); refine box_event ?hg (N := 2) ?hd (cs := #[.bool false, .bool false, .slice none 0 0, .slice none 0 0, .slice none 0 0, .slice none 0 0, .bool false, .bool false]) (t := 25) ?hr ?_; (case hd => rfl); (case hg => rfl); (case hr => first | (go_simp; done) | (go_simp; rfl)); intro gb189 hg w7 hbox hb; have n0_ := Aside0.mk (blk_below (g := gb188) (o := .cells #[.bool a0_0, .bool a0_1, .slice A0_2 l0_2.length c0_2, .slice A0_3 l0_3.length c0_3, .slice A0_4 l0_4.length c0_4, .slice A0_5 l0_5.length c0_5, .bool a0_6, .bool a0_7] 25 (0, 0)) (by exact BK188.out) hb); have n1_ := Aside0.mk (below_step (by repeat (first | (with_reducible first | exact HB.out | apply below_alloc | apply pw_below_drewN | apply below_drew1 | refine below_set ?_ GE188.out) | exact HB.out)) hb); have n2_ := Aside0.mk (hbox); have n3_ := Aside0.mk ((by rw [hg]; exact (below_size (by repeat (first | (with_reducible first | exact HB.out | apply below_alloc | apply pw_below_drewN | apply below_drew1 | refine below_set ?_ GE188.out) | exact HB.out))) : w.heap.size ≤ gb189)); have n4_ := Aside0.mk ((by rw [hg]; exact (below_size (by repeat (first | (with_reducible first | exact HB.out | apply below_alloc | apply pw_below_drewN | apply below_drew1 | refine below_set ?_ GE188.out) | exact HB.out))) : w.heap.size ≤ gb189)); have n5_ := Aside0.mk ((by rw [hg]; exact Nat.ne_of_lt (blk_lt (g := gb188) (o := .cells #[.bool a0_0, .bool a0_1, .slice A0_2 l0_2.length c0_2, .slice A0_3 l0_3.length c0_3, .slice A0_4 l0_4.length c0_4, .slice A0_5 l0_5.length c0_5, .bool a0_6, .bool a0_7] 25 (0, 0)) (by exact BK188.out)) : gb188 ≠ gb189)); have n6_ := Aside0.mk ((by rw [hg]; exact Nat.ne_of_gt (blk_lt (g := gb188) (o := .cells #[.bool a0_0, .bool a0_1, .slice A0_2 l0_2.length c0_2, .slice A0_3 l0_3.length c0_3, .slice A0_4 l0_4.length c0_4, .slice A0_5 l0_5.length c0_5, .bool a0_6, .bool a0_7] 25 (0, 0)) (by exact BK188.out)) : gb189 ≠ gb188)); clear BK188; clear HB; have BK188 := n0_; have HB := n1_; have BK189 := n2_; have GW189 := n3_; have GE189 := n4_; have NB188_189 := n5_; have NB189_188 := n6_; clear n0_ n1_ n2_ n3_ n4_ n5_ n6_; clear hb hbox hg))
 have n0_ := Aside0.mk (blk_drew BK188.out)
 have n1_ := Aside0.mk (blk_drew BK189.out)
 have n2_ := Aside0.mk (below_drew1 HB.out)
 clear BK188
 clear BK189
 clear HB
 have BK188 := n0_
 have BK189 := n1_
 have HB := n2_
 clear n0_ n1_ n2_
 refine start_ (n := 20) (S := fun w' => w'.cell? ⟨gb188, 0, none⟩ = some (.bool a0_0) ∧ w'.cell? ⟨gb188, 1, none⟩ = some (.bool a0_1) ∧ w'.cell? ⟨gb188, 2, none⟩ = some (.slice A0_2 l0_2.length c0_2) ∧ w'.cell? ⟨gb188, 3, none⟩ = some (.slice A0_3 l0_3.length c0_3) ∧ w'.cell? ⟨gb188, 4, none⟩ = some (.slice A0_4 l0_4.length c0_4) ∧ w'.cell? ⟨gb188, 5, none⟩ = some (.slice A0_5 l0_5.length c0_5) ∧ w'.cell? ⟨gb188, 6, none⟩ = some (.bool a0_6) ∧ w'.cell? ⟨gb188, 7, none⟩ = some (.bool a0_7)) (ds := [13, 15, 17, 19]) (tf 0 20) (by kernel_rfl) rfl rfl ⟨(blk_cell BK188.out 0).trans rfl, (blk_cell BK188.out 1).trans rfl, (blk_cell BK188.out 2).trans rfl, (blk_cell BK188.out 3).trans rfl, (blk_cell BK188.out 4).trans rfl, (blk_cell BK188.out 5).trans rfl, (blk_cell BK188.out 6).trans rfl, (blk_cell BK188.out 7).trans rfl⟩ (fun hHeld => ?_); refine with_tabW config_copied.tab1 config_copied.bits1 (fun HT_ HW_ => ?_)
 generalize w7.drew = w8 at BK188 BK189 HB hHeld ⊢
 refine pure_ (i := 0) (N := some 4) (v := ?_) (a' := ?_) (tf 1 19) rfl rfl (any_of HT_.out (by kernel_rfl)) (fun _ _ _ h => h) (Or.inl ⟨by rfl, ?_⟩) ?_ ?_
 rotate_left
 ·intro w'
  go_simp
  with_reducible rfl
 rotate_left
 ·simp only [Act.put, List.setIfInBounds_toArray, List.set_cons_zero, List.set_cons_succ, i64_w, i32_w]
  rfl
 refine pure_ (i := 3) (N := some 7) (v := ?_) (a' := ?_) #[true, false, false, true, false, false, false, false, false, false, false, false, false, false, false, false, false, false, false, false] rfl rfl (any_of HT_.out (by kernel_rfl)) (fun _ _ _ h => h) (Or.inl ⟨by rfl, ?_⟩) ?_ ?_
 rotate_left
 ·intro w'
  go_simp
  with_reducible rfl
 rotate_left
 ·simp only [Act.put, List.setIfInBounds_toArray, List.set_cons_zero, List.set_cons_succ, i64_w, i32_w]
  rfl
 refine pure_ (i := 6) (N := some 10) (v := ?_) (a' := ?_) #[true, false, false, true, false, false, true, false, false, false, false, false, false, false, false, false, false, false, false, false] rfl rfl (any_of HT_.out (by kernel_rfl)) (fun _ _ _ h => h) (Or.inl ⟨by rfl, ?_⟩) ?_ ?_
 rotate_left
 ·intro w'
  go_simp
  with_reducible rfl
 rotate_left
 ·simp only [Act.put, List.setIfInBounds_toArray, List.set_cons_zero, List.set_cons_succ, i64_w, i32_w]
  rfl
 refine pure_ (i := 9) (N := some 13) (v := ?_) (a' := ?_) #[true, false, false, true, false, false, true, false, false, true, false, false, false, false, false, false, false, false, false, false] rfl rfl (any_of HT_.out (by kernel_rfl)) (fun _ _ _ h => h) (Or.inl ⟨by rfl, ?_⟩) ?_ ?_
 rotate_left
 ·intro w'
  go_simp
  with_reducible rfl
 rotate_left
 ·simp only [Act.put, List.setIfInBounds_toArray, List.set_cons_zero, List.set_cons_succ, i64_w, i32_w]
  rfl
 refine take_ (i := 1) (N := some 5) (v := ?_) (a' := ?_) #[true, true, false, true, false, false, true, false, false, true, false, false, false, false, false, false, false, false, false, false] rfl rfl (take_ofW HT_.out HW_.out (by kernel_rfl)) (fun _ _ _ h => h) (Or.inl ⟨by rfl, ?_⟩) hHeld ?_ ?_
 rotate_left
 ·rintro w' ⟨s0, s1, s2, s3, s4, s5, s6, s7⟩
  go_simp
  with_reducible rfl
 rotate_left
 ·simp only [Act.put, List.setIfInBounds_toArray, List.set_cons_zero, List.set_cons_succ, i64_w, i32_w]
  rfl
 refine take_ (i := 4) (N := some 8) (v := ?_) (a' := ?_) #[true, true, false, true, true, false, true, false, false, true, false, false, false, false, false, false, false, false, false, false] rfl rfl (take_ofW HT_.out HW_.out (by kernel_rfl)) (fun _ _ _ h => h) (Or.inl ⟨by rfl, ?_⟩) hHeld ?_ ?_
 rotate_left
 ·rintro w' ⟨s0, s1, s2, s3, s4, s5, s6, s7⟩
  go_simp
  with_reducible rfl
 rotate_left
 ·simp only [Act.put, List.setIfInBounds_toArray, List.set_cons_zero, List.set_cons_succ, i64_w, i32_w]
  rfl
 refine take_ (i := 7) (N := some 11) (v := ?_) (a' := ?_) #[true, true, false, true, true, false, true, true, false, true, false, false, false, false, false, false, false, false, false, false] rfl rfl (take_ofW HT_.out HW_.out (by kernel_rfl)) (fun _ _ _ h => h) (Or.inl ⟨by rfl, ?_⟩) hHeld ?_ ?_
 rotate_left
 ·rintro w' ⟨s0, s1, s2, s3, s4, s5, s6, s7⟩
  go_simp
  with_reducible rfl
 rotate_left
 ·simp only [Act.put, List.setIfInBounds_toArray, List.set_cons_zero, List.set_cons_succ, i64_w, i32_w]
  rfl
 refine take_ (i := 10) (N := some 14) (v := ?_) (a' := ?_) #[true, true, false, true, true, false, true, true, false, true, true, false, false, false, false, false, false, false, false, false] rfl rfl (take_ofW HT_.out HW_.out (by kernel_rfl)) (fun _ _ _ h => h) (Or.inl ⟨by rfl, ?_⟩) hHeld ?_ ?_
 rotate_left
 ·rintro w' ⟨s0, s1, s2, s3, s4, s5, s6, s7⟩
  go_simp
  with_reducible rfl
 rotate_left
 ·simp only [Act.put, List.setIfInBounds_toArray, List.set_cons_zero, List.set_cons_succ, i64_w, i32_w]
  rfl
 refine one_ (i := 2) (N := some 6) #[true, true, true, true, true, false, true, true, false, true, true, false, false, false, false, false, false, false, false, false] rfl rfl (one_of HT_.out (by kernel_rfl)) (by decide) (fun K hK => ?_)
 refine goes_ Try.func63 (by kernel_rfl) rfl #[.slice A0_2 l0_2.length c0_2] (by rfl) rfl rfl (by (try simp only [List.map_toArray, List.map_cons, List.map_nil]); first | done | rfl | (simp only [List.length_drop, List.length_take]; rfl)) ?_
 with_reducible refine (slices_Clone_string_string.calls _ _ l0_2 t190 _ ?side1 ?side2 A2.out).mono ?_
 (case side1 => repeat (first | exact (Kd.C_below HR0_2.out HB.out) | (with_reducible refine Kd.C_alloc ?_ _) | (with_reducible refine Kd.C_drewN ?_ _) | (with_reducible refine Kd.C_drew ?_)))
 (case side2 => exact HC0_2.out)
 rintro e w9 ⟨v191, rfl, ho0, hb⟩
 refine ⟨_, rfl, ?_⟩
 have n0_ := Aside0.mk (Kd.R_lower (Kd.R_newM (M := fun k_ => (w.heap.size ≤ k_)) ho0 (below_size (by repeat (first | (with_reducible first | exact HB.out | apply below_alloc | apply pw_below_drewN | apply below_drew1 | refine below_set ?_ GE188.out | refine below_set ?_ GE189.out) | exact HB.out))) (fun k_ h_ => h_)) (below_size (by repeat (first | (with_reducible first | exact HB.out | apply below_alloc | apply pw_below_drewN | apply below_drew1 | refine below_set ?_ GE188.out | refine below_set ?_ GE189.out) | exact HB.out))))
 have n1_ := Aside0.mk (blk_below (g := gb188) (o := .cells #[.bool a0_0, .bool a0_1, .slice A0_2 l0_2.length c0_2, .slice A0_3 l0_3.length c0_3, .slice A0_4 l0_4.length c0_4, .slice A0_5 l0_5.length c0_5, .bool a0_6, .bool a0_7] 25 (0, 0)) (by exact BK188.out) hb)
 have n2_ := Aside0.mk (blk_below (g := gb189) (o := .cells #[.bool false, .bool false, .slice none 0 0, .slice none 0 0, .slice none 0 0, .slice none 0 0, .bool false, .bool false] 25 (0, 0)) (by exact BK189.out) hb)
 have n3_ := Aside0.mk (below_step (by repeat (first | (with_reducible first | exact HB.out | apply below_alloc | apply pw_below_drewN | apply below_drew1 | refine below_set ?_ GE188.out | refine below_set ?_ GE189.out) | exact HB.out)) hb)
 clear BK188
 clear BK189
 clear HB
 have HO192 := n0_
 have BK188 := n1_
 have BK189 := n2_
 have HB := n3_
 clear n0_ n1_ n2_ n3_
 (try clear hb)
 (try clear hb2)
 (try clear hk)
 (try clear hi)
 (try clear ho0)
 refine hK.out _ _ ⟨(blk_cell BK188.out 0).trans rfl, (blk_cell BK188.out 1).trans rfl, (blk_cell BK188.out 2).trans rfl, (blk_cell BK188.out 3).trans rfl, (blk_cell BK188.out 4).trans rfl, (blk_cell BK188.out 5).trans rfl, (blk_cell BK188.out 6).trans rfl, (blk_cell BK188.out 7).trans rfl⟩ (fun hHeld => ?_)
 clear hK K
 refine norm_ (a' := ?_) ?_ ?_
 rotate_left
 ·show Act.put _ (some 6) _ = _
  simp only [Act.put, List.setIfInBounds_toArray, List.set_cons_zero, List.set_cons_succ, i64_w, i32_w]
  rfl
 refine pure_ (i := 12) (N := some 16) (v := ?_) (a' := ?_) #[true, true, true, true, true, false, true, true, false, true, true, false, true, false, false, false, false, false, false, false] rfl rfl (any_of HT_.out (by kernel_rfl)) (fun _ _ _ h => h) (Or.inl ⟨by rfl, ?_⟩) ?_ ?_
 rotate_left
 ·intro w'
  go_simp
  with_reducible rfl
 rotate_left
 ·simp only [Act.put, List.setIfInBounds_toArray, List.set_cons_zero, List.set_cons_succ, i64_w, i32_w]
  rfl
 refine one_ (i := 5) (N := some 9) #[true, true, true, true, true, true, true, true, false, true, true, false, true, false, false, false, false, false, false, false] rfl rfl (one_of HT_.out (by kernel_rfl)) (by decide) (fun K hK => ?_)
 refine goes_ Try.func63 (by kernel_rfl) rfl #[.slice A0_3 l0_3.length c0_3] (by rfl) rfl rfl (by (try simp only [List.map_toArray, List.map_cons, List.map_nil]); first | done | rfl | (simp only [List.length_drop, List.length_take]; rfl)) ?_
 with_reducible refine (slices_Clone_string_string.calls _ _ l0_3 t193 _ ?side1 ?side2 A3.out).mono ?_
 (case side1 => repeat (first | exact (Kd.C_below HR0_3.out HB.out) | (with_reducible refine Kd.C_alloc ?_ _) | (with_reducible refine Kd.C_drewN ?_ _) | (with_reducible refine Kd.C_drew ?_)))
 (case side2 => exact HC0_3.out)
 rintro e w10 ⟨v194, rfl, ho0, hb⟩
 refine ⟨_, rfl, ?_⟩
 have n0_ := Aside0.mk (Kd.R_elder' (by exact HO192.out) (Kd.R_base ho0) hb)
 have n1_ := Aside0.mk (Kd.R_lower (Kd.R_new' (Kd.R_newM (M := fun k_ => (w.heap.size ≤ k_)) ho0 (below_size (by repeat (first | (with_reducible first | exact HB.out | apply below_alloc | apply pw_below_drewN | apply below_drew1 | refine below_set ?_ GE188.out | refine below_set ?_ GE189.out) | exact HB.out))) (fun k_ h_ => h_)) (Kd.R_lt (by exact HO192.out))) (below_size (by repeat (first | (with_reducible first | exact HB.out | apply below_alloc | apply pw_below_drewN | apply below_drew1 | refine below_set ?_ GE188.out | refine below_set ?_ GE189.out) | exact HB.out))))
 have n2_ := Aside0.mk (blk_below (g := gb188) (o := .cells #[.bool a0_0, .bool a0_1, .slice A0_2 l0_2.length c0_2, .slice A0_3 l0_3.length c0_3, .slice A0_4 l0_4.length c0_4, .slice A0_5 l0_5.length c0_5, .bool a0_6, .bool a0_7] 25 (0, 0)) (by exact BK188.out) hb)
 have n3_ := Aside0.mk (blk_below (g := gb189) (o := .cells #[.bool false, .bool false, .slice none 0 0, .slice none 0 0, .slice none 0 0, .slice none 0 0, .bool false, .bool false] 25 (0, 0)) (by exact BK189.out) hb)
 have n4_ := Aside0.mk (below_step (by repeat (first | (with_reducible first | exact HB.out | apply below_alloc | apply pw_below_drewN | apply below_drew1 | refine below_set ?_ GE188.out | refine below_set ?_ GE189.out) | exact HB.out)) hb)
 clear HO192
 clear BK188
 clear BK189
 clear HB
 have HO192 := n0_
 have HO195 := n1_
 have BK188 := n2_
 have BK189 := n3_
 have HB := n4_
 clear n0_ n1_ n2_ n3_ n4_
 (try clear hb)
 (try clear hb2)
 (try clear hk)
 (try clear hi)
 (try clear ho0)
 refine hK.out _ _ ⟨(blk_cell BK188.out 0).trans rfl, (blk_cell BK188.out 1).trans rfl, (blk_cell BK188.out 2).trans rfl, (blk_cell BK188.out 3).trans rfl, (blk_cell BK188.out 4).trans rfl, (blk_cell BK188.out 5).trans rfl, (blk_cell BK188.out 6).trans rfl, (blk_cell BK188.out 7).trans rfl⟩ (fun hHeld => ?_)
 clear hK K
 refine norm_ (a' := ?_) ?_ ?_
 rotate_left
 ·show Act.put _ (some 9) _ = _
  simp only [Act.put, List.setIfInBounds_toArray, List.set_cons_zero, List.set_cons_succ, i64_w, i32_w]
  rfl
 refine one_ (i := 8) (N := some 12) #[true, true, true, true, true, true, true, true, true, true, true, false, true, false, false, false, false, false, false, false] rfl rfl (one_of HT_.out (by kernel_rfl)) (by decide) (fun K hK => ?_)
 refine goes_ Try.func63 (by kernel_rfl) rfl #[.slice A0_4 l0_4.length c0_4] (by rfl) rfl rfl (by (try simp only [List.map_toArray, List.map_cons, List.map_nil]); first | done | rfl | (simp only [List.length_drop, List.length_take]; rfl)) ?_
 with_reducible refine (slices_Clone_string_string.calls _ _ l0_4 t196 _ ?side1 ?side2 A4.out).mono ?_
 (case side1 => repeat (first | exact (Kd.C_below HR0_4.out HB.out) | (with_reducible refine Kd.C_alloc ?_ _) | (with_reducible refine Kd.C_drewN ?_ _) | (with_reducible refine Kd.C_drew ?_)))
 (case side2 => exact HC0_4.out)
 rintro e w11 ⟨v197, rfl, ho0, hb⟩
 refine ⟨_, rfl, ?_⟩
 have n0_ := Aside0.mk (Kd.R_elder' (by exact HO192.out) (Kd.R_base ho0) hb)
 have n1_ := Aside0.mk (Kd.R_elder' (by exact HO195.out) (Kd.R_base ho0) hb)
 have n2_ := Aside0.mk (Kd.R_lower (Kd.R_new' (Kd.R_new' (Kd.R_newM (M := fun k_ => (w.heap.size ≤ k_)) ho0 (below_size (by repeat (first | (with_reducible first | exact HB.out | apply below_alloc | apply pw_below_drewN | apply below_drew1 | refine below_set ?_ GE188.out | refine below_set ?_ GE189.out) | exact HB.out))) (fun k_ h_ => h_)) (Kd.R_lt (by exact HO192.out))) (Kd.R_lt (by exact HO195.out))) (below_size (by repeat (first | (with_reducible first | exact HB.out | apply below_alloc | apply pw_below_drewN | apply below_drew1 | refine below_set ?_ GE188.out | refine below_set ?_ GE189.out) | exact HB.out))))
 have n3_ := Aside0.mk (blk_below (g := gb188) (o := .cells #[.bool a0_0, .bool a0_1, .slice A0_2 l0_2.length c0_2, .slice A0_3 l0_3.length c0_3, .slice A0_4 l0_4.length c0_4, .slice A0_5 l0_5.length c0_5, .bool a0_6, .bool a0_7] 25 (0, 0)) (by exact BK188.out) hb)
 have n4_ := Aside0.mk (blk_below (g := gb189) (o := .cells #[.bool false, .bool false, .slice none 0 0, .slice none 0 0, .slice none 0 0, .slice none 0 0, .bool false, .bool false] 25 (0, 0)) (by exact BK189.out) hb)
 have n5_ := Aside0.mk (below_step (by repeat (first | (with_reducible first | exact HB.out | apply below_alloc | apply pw_below_drewN | apply below_drew1 | refine below_set ?_ GE188.out | refine below_set ?_ GE189.out) | exact HB.out)) hb)
 clear HO192
 clear HO195
 clear BK188
 clear BK189
 clear HB
 have HO192 := n0_
 have HO195 := n1_
 have HO198 := n2_
 have BK188 := n3_
 have BK189 := n4_
 have HB := n5_
 clear n0_ n1_ n2_ n3_ n4_ n5_
 (try clear hb)
 (try clear hb2)
 (try clear hk)
 (try clear hi)
 (try clear ho0)
 refine hK.out _ _ ⟨(blk_cell BK188.out 0).trans rfl, (blk_cell BK188.out 1).trans rfl, (blk_cell BK188.out 2).trans rfl, (blk_cell BK188.out 3).trans rfl, (blk_cell BK188.out 4).trans rfl, (blk_cell BK188.out 5).trans rfl, (blk_cell BK188.out 6).trans rfl, (blk_cell BK188.out 7).trans rfl⟩ (fun hHeld => ?_)
 clear hK K
 refine norm_ (a' := ?_) ?_ ?_
 rotate_left
 ·show Act.put _ (some 12) _ = _
  simp only [Act.put, List.setIfInBounds_toArray, List.set_cons_zero, List.set_cons_succ, i64_w, i32_w]
  rfl
 refine one_ (i := 11) (N := some 15) (tf 13 7) rfl rfl (one_of HT_.out (by kernel_rfl)) (by decide) (fun K hK => ?_)
 refine goes_ Try.func64 (by kernel_rfl) rfl #[.slice A0_5 l0_5.length c0_5] (by rfl) rfl rfl (by (try simp only [List.map_toArray, List.map_cons, List.map_nil]); first | done | rfl | (simp only [List.length_drop, List.length_take]; rfl)) ?_
 with_reducible refine (api_Per_64.calls _ _ l0_5 t199 okp _ ?side0 ?side1 ?side2 A5.out).mono ?_
 (case side0 => exact fun k_ h_ => Nat.lt_of_lt_of_le (HW0.out k_ h_) (below_size (by repeat (first | (with_reducible first | exact HB.out | apply below_alloc | apply pw_below_drewN | apply below_drew1 | refine below_set ?_ GE188.out | refine below_set ?_ GE189.out) | exact HB.out))))
 (case side1 => exact Shares.below HR0_5.out (by repeat (first | (with_reducible first | exact HB.out | apply below_alloc | apply pw_below_drewN | apply below_drew1 | refine below_set ?_ GE188.out | refine below_set ?_ GE189.out) | exact HB.out)))
 (case side2 => exact HC0_5.out)
 rintro e w12 ⟨v200, rfl, ho0, hb⟩
 refine ⟨_, rfl, ?_⟩
 have n0_ := Aside0.mk (Kd.R_below (by exact HO192.out) hb)
 have n1_ := Aside0.mk (Kd.R_below (by exact HO195.out) hb)
 have n2_ := Aside0.mk (Kd.R_below (by exact HO198.out) hb)
 have n3_ := Aside0.mk (Kd.N_lower (Kd.N_mono (ok' := fun k_ => (w.heap.size ≤ k_ ∨ okp k_) ∧ some k_ ≠ (v191 : Value).ownBlock ∧ some k_ ≠ (v194 : Value).ownBlock ∧ some k_ ≠ (v197 : Value).ownBlock ∧ k_ ≠ gb188 ∧ k_ ≠ gb189) ho0 (fun k_ hk_ => ⟨(hk_.elim (fun h_ => .inr h_) (fun h_ => .inl (Nat.le_trans (below_size (by repeat (first | (with_reducible first | exact HB.out | apply below_alloc | apply pw_below_drewN | apply below_drew1 | refine below_set ?_ GE188.out | refine below_set ?_ GE189.out) | exact HB.out))) h_))), (hk_.elim (fun h_ e_ => by have := Kd.R_base HO192.out k_ e_.symm; have := HW0.out k_ h_; omega) (fun h_ => Kd.fresh' (Kd.R_lt (by exact HO192.out)) k_ h_)), (hk_.elim (fun h_ e_ => by have := Kd.R_base HO195.out k_ e_.symm; have := HW0.out k_ h_; omega) (fun h_ => Kd.fresh' (Kd.R_lt (by exact HO195.out)) k_ h_)), (hk_.elim (fun h_ e_ => by have := Kd.R_base HO198.out k_ e_.symm; have := HW0.out k_ h_; omega) (fun h_ => Kd.fresh' (Kd.R_lt (by exact HO198.out)) k_ h_)), (hk_.elim (fun h_ e_ => by have := GE188.out; have := HW0.out k_ h_; omega) (fun h_ => (Kd.freshB (g := gb188) (o := .cells #[.bool a0_0, .bool a0_1, .slice A0_2 l0_2.length c0_2, .slice A0_3 l0_3.length c0_3, .slice A0_4 l0_4.length c0_4, .slice A0_5 l0_5.length c0_5, .bool a0_6, .bool a0_7] 25 (0, 0)) (by exact BK188.out) k_ h_))), (hk_.elim (fun h_ e_ => by have := GE189.out; have := HW0.out k_ h_; omega) (fun h_ => (Kd.freshB (g := gb189) (o := .cells #[.bool false, .bool false, .slice none 0 0, .slice none 0 0, .slice none 0 0, .slice none 0 0, .bool false, .bool false] 25 (0, 0)) (by exact BK189.out) k_ h_)))⟩)) (below_size (by repeat (first | (with_reducible first | exact HB.out | apply below_alloc | apply pw_below_drewN | apply below_drew1 | refine below_set ?_ GE188.out | refine below_set ?_ GE189.out) | exact HB.out))))
 have n4_ := Aside0.mk (blk_below (g := gb188) (o := .cells #[.bool a0_0, .bool a0_1, .slice A0_2 l0_2.length c0_2, .slice A0_3 l0_3.length c0_3, .slice A0_4 l0_4.length c0_4, .slice A0_5 l0_5.length c0_5, .bool a0_6, .bool a0_7] 25 (0, 0)) (by exact BK188.out) hb)
 have n5_ := Aside0.mk (blk_below (g := gb189) (o := .cells #[.bool false, .bool false, .slice none 0 0, .slice none 0 0, .slice none 0 0, .slice none 0 0, .bool false, .bool false] 25 (0, 0)) (by exact BK189.out) hb)
 have n6_ := Aside0.mk (below_step (by repeat (first | (with_reducible first | exact HB.out | apply below_alloc | apply pw_below_drewN | apply below_drew1 | refine below_set ?_ GE188.out | refine below_set ?_ GE189.out) | exact HB.out)) hb)
 clear HO192
 clear HO195
 clear HO198
 clear BK188
 clear BK189
 clear HB
 have HO192 := n0_
 have HO195 := n1_
 have HO198 := n2_
 have HO201 := n3_
 have BK188 := n4_
 have BK189 := n5_
 have HB := n6_
 clear n0_ n1_ n2_ n3_ n4_ n5_ n6_
 (try clear hb)
 (try clear hb2)
 (try clear hk)
 (try clear hi)
 (try clear ho0)
 obtain ⟨Ao13, co13, eo13⟩ := Kd.R_slice HO192.out
 (first | subst eo13 | (injection eo13 with f1_ f2_ f3_; have f4_ := f1_.symm; have f5_ := f3_.symm; clear f1_ f2_ f3_; subst f4_; subst f5_))
 obtain ⟨Ao15, co15, eo15⟩ := Kd.R_slice HO195.out
 (first | subst eo15 | (injection eo15 with f1_ f2_ f3_; have f4_ := f1_.symm; have f5_ := f3_.symm; clear f1_ f2_ f3_; subst f4_; subst f5_))
 obtain ⟨Ao17, co17, eo17⟩ := Kd.R_slice HO198.out
 (first | subst eo17 | (injection eo17 with f1_ f2_ f3_; have f4_ := f1_.symm; have f5_ := f3_.symm; clear f1_ f2_ f3_; subst f4_; subst f5_))
 obtain ⟨Ao19, co19, eo19⟩ := Kd.N_slice HO201.out
 (first | subst eo19 | (injection eo19 with f1_ f2_ f3_; have f4_ := f1_.symm; have f5_ := f3_.symm; clear f1_ f2_ f3_; subst f4_; subst f5_))
 refine hK.out _ _ ⟨(blk_cell BK188.out 0).trans rfl, (blk_cell BK188.out 1).trans rfl, (blk_cell BK188.out 2).trans rfl, (blk_cell BK188.out 3).trans rfl, (blk_cell BK188.out 4).trans rfl, (blk_cell BK188.out 5).trans rfl, (blk_cell BK188.out 6).trans rfl, (blk_cell BK188.out 7).trans rfl⟩ (fun hHeld => ?_)
 clear hK K
 refine norm_ (a' := ?_) ?_ ?_
 rotate_left
 ·show Act.put _ (some 15) _ = _
  simp only [Act.put, List.setIfInBounds_toArray, List.set_cons_zero, List.set_cons_succ, i64_w, i32_w]
  rfl
 refine last_ (i := 13) (N := none) (tf 14 6) rfl rfl (one_of HT_.out (by kernel_rfl)) (by decide) (fun K hK => ?_)
 have hs14 : w12.cell? ⟨gb188, 2, none⟩ = some (.slice A0_2 l0_2.length c0_2) := (blk_cell BK188.out 2).trans rfl
 have hfs14 := blk_frozen BK188.out 2
 have hns14_1 := NB189_188.out
 have hms14_1 := NB188_189.out
 refine skip_ (w1 := ?_) (by rfl) rfl ?_ ?_
 rotate_left
 ·go_simp
  rfl
 refine hK.out _ _ ?_
 clear hK K
 refine pure_ (i := 14) (N := some 17) (v := ?_) (a' := ?_) (tf 15 5) rfl rfl (any_of HT_.out (by kernel_rfl)) (fun _ _ _ h => h) (Or.inl ⟨by rfl, ?_⟩) ?_ ?_
 rotate_left
 ·intro w'
  go_simp
  with_reducible rfl
 rotate_left
 ·simp only [Act.put, List.setIfInBounds_toArray, List.set_cons_zero, List.set_cons_succ, i64_w, i32_w]
  rfl
 refine last_ (i := 15) (N := none) (tf 16 4) rfl rfl (one_of HT_.out (by kernel_rfl)) (by decide) (fun K hK => ?_)
 have hs16 : w12.cell? ⟨gb188, 3, none⟩ = some (.slice A0_3 l0_3.length c0_3) := (blk_cell BK188.out 3).trans rfl
 have hfs16 := blk_frozen BK188.out 3
 have hns16_1 := NB189_188.out
 have hms16_1 := NB188_189.out
 refine skip_ (w1 := ?_) (by rfl) rfl ?_ ?_
 rotate_left
 ·go_simp
  rfl
 refine hK.out _ _ ?_
 clear hK K
 refine pure_ (i := 16) (N := some 18) (v := ?_) (a' := ?_) (tf 17 3) rfl rfl (any_of HT_.out (by kernel_rfl)) (fun _ _ _ h => h) (Or.inl ⟨by rfl, ?_⟩) ?_ ?_
 rotate_left
 ·intro w'
  go_simp
  with_reducible rfl
 rotate_left
 ·simp only [Act.put, List.setIfInBounds_toArray, List.set_cons_zero, List.set_cons_succ, i64_w, i32_w]
  rfl
 refine last_ (i := 17) (N := none) (tf 18 2) rfl rfl (one_of HT_.out (by kernel_rfl)) (by decide) (fun K hK => ?_)
 have hs18 : w12.cell? ⟨gb188, 4, none⟩ = some (.slice A0_4 l0_4.length c0_4) := (blk_cell BK188.out 4).trans rfl
 have hfs18 := blk_frozen BK188.out 4
 have hns18_1 := NB189_188.out
 have hms18_1 := NB188_189.out
 refine skip_ (w1 := ?_) (by rfl) rfl ?_ ?_
 rotate_left
 ·go_simp
  rfl
 refine hK.out _ _ ?_
 clear hK K
 refine pure_ (i := 18) (N := some 19) (v := ?_) (a' := ?_) (tf 19 1) rfl rfl (any_of HT_.out (by kernel_rfl)) (fun _ _ _ h => h) (Or.inl ⟨by rfl, ?_⟩) ?_ ?_
 rotate_left
 ·intro w'
  go_simp
  with_reducible rfl
 rotate_left
 ·simp only [Act.put, List.setIfInBounds_toArray, List.set_cons_zero, List.set_cons_succ, i64_w, i32_w]
  rfl
 refine last_ (i := 19) (N := none) (tf 20 0) rfl rfl (one_of HT_.out (by kernel_rfl)) (by decide) (fun K hK => ?_)
 have hs20 : w12.cell? ⟨gb188, 5, none⟩ = some (.slice A0_5 l0_5.length c0_5) := (blk_cell BK188.out 5).trans rfl
 have hfs20 := blk_frozen BK188.out 5
 have hns20_1 := NB189_188.out
 have hms20_1 := NB188_189.out
 refine skip_ (w1 := ?_) (by rfl) rfl ?_ ?_
 rotate_left
 ·go_simp
  rfl
 refine hK.out _ _ ?_
 clear hK K
 refine done_ (done_of HT_.out (by kernel_rfl)) ?_
 have hnb21 := NB188_189.out
 have hnc21 := NB189_188.out
 have hcz22_0 : w12.cell? ⟨gb188, 0, none⟩ = some (.bool a0_0) := (blk_cell BK188.out 0).trans rfl
 have hcz22_1 : w12.cell? ⟨gb188, 1, none⟩ = some (.bool a0_1) := (blk_cell BK188.out 1).trans rfl
 have hcz22_2 : w12.cell? ⟨gb188, 2, none⟩ = some (.slice A0_2 l0_2.length c0_2) := (blk_cell BK188.out 2).trans rfl
 have hcz22_3 : w12.cell? ⟨gb188, 3, none⟩ = some (.slice A0_3 l0_3.length c0_3) := (blk_cell BK188.out 3).trans rfl
 have hcz22_4 : w12.cell? ⟨gb188, 4, none⟩ = some (.slice A0_4 l0_4.length c0_4) := (blk_cell BK188.out 4).trans rfl
 have hcz22_5 : w12.cell? ⟨gb188, 5, none⟩ = some (.slice A0_5 l0_5.length c0_5) := (blk_cell BK188.out 5).trans rfl
 have hcz22_6 : w12.cell? ⟨gb188, 6, none⟩ = some (.bool a0_6) := (blk_cell BK188.out 6).trans rfl
 have hcz22_7 : w12.cell? ⟨gb188, 7, none⟩ = some (.bool a0_7) := (blk_cell BK188.out 7).trans rfl
 have hfz22_0 := blk_frozen BK188.out 0
 have hfz22_1 := blk_frozen BK188.out 1
 have hfz22_2 := blk_frozen BK188.out 2
 have hfz22_3 := blk_frozen BK188.out 3
 have hfz22_4 := blk_frozen BK188.out 4
 have hfz22_5 := blk_frozen BK188.out 5
 have hfz22_6 := blk_frozen BK188.out 6
 have hfz22_7 := blk_frozen BK188.out 7
 try go_wp2
 go_loopg [23] k (fun kq v23 w' => ∃ (x23_1 : Int) (x189005_1 : List (S35)) (u189005 : Value), v23 = .int .i64 x23_1 ∧ Aside0 (config_copied.l0 kq (t199.length : Int) x23_1 a0_0 a0_1 t190 t193 t196 x189005_1 a0_6 a0_7 = some (r1, r2, r3, r4, r5, r6, r7, r8)) ∧ Aside0 (kq ≤ k) ∧ Aside0 (Kd.R Kd.string 9 w' w.heap.size (fun k_ => (w.heap.size ≤ k_) ∧ some k_ ≠ ((.slice Ao15 t193.length co15) : Value).ownBlock ∧ some k_ ≠ ((.slice Ao17 t196.length co17) : Value).ownBlock) (.slice Ao13 t190.length co13) t190) ∧ Aside0 (Kd.R Kd.string 9 w' w.heap.size (fun k_ => (w.heap.size ≤ k_) ∧ some k_ ≠ ((.slice Ao13 t190.length co13) : Value).ownBlock ∧ some k_ ≠ ((.slice Ao17 t196.length co17) : Value).ownBlock) (.slice Ao15 t193.length co15) t193) ∧ Aside0 (Kd.R Kd.string 9 w' w.heap.size (fun k_ => (w.heap.size ≤ k_) ∧ some k_ ≠ ((.slice Ao13 t190.length co13) : Value).ownBlock ∧ some k_ ≠ ((.slice Ao15 t193.length co15) : Value).ownBlock) (.slice Ao17 t196.length co17) t196) ∧ Aside0 (Kd.N k35 35 w' w.heap.size (fun k_ => (w.heap.size ≤ k_ ∨ okp k_) ∧ some k_ ≠ ((.slice Ao13 t190.length co13) : Value).ownBlock ∧ some k_ ≠ ((.slice Ao15 t193.length co15) : Value).ownBlock ∧ some k_ ≠ ((.slice Ao17 t196.length co17) : Value).ownBlock ∧ k_ ≠ gb188 ∧ k_ ≠ gb189) u189005 x189005_1) ∧ Aside0 (w'.heap[gb188]? = some (.cells #[.bool a0_0, .bool a0_1, (.slice Ao13 t190.length co13), (.slice Ao15 t193.length co15), (.slice Ao17 t196.length co17), u189005, .bool a0_6, .bool a0_7] 25 (0, 0))) ∧ Aside0 (w'.heap[gb189]? = some (.cells #[.bool false, .bool false, (.slice none 0 0), (.slice none 0 0), (.slice none 0 0), (.slice none 0 0), .bool false, .bool false] 25 (0, 0))) ∧ Aside0 (Below w.heap.size w w'))
 case atStart => exact ⟨(0), (t199), (.slice Ao19 t199.length co19), (by first | rfl | (simp; done) | (simp [*]; done)), H', ⟨Nat.le_refl _⟩, ⟨by exact Kd.R_mono (Kd.R_far (p := ⟨gb188, 5, none⟩) (Kd.R_far (p := ⟨gb188, 4, none⟩) (Kd.R_far (p := ⟨gb188, 3, none⟩) (Kd.R_far (p := ⟨gb188, 2, none⟩) (Kd.R_types HO192.out BK188.out (by decide)) (fun _ hk => hk.2) (.slice Ao13 t190.length co13)) (fun _ hk => hk.2) (.slice Ao15 t193.length co15)) (fun _ hk => hk.2) (.slice Ao17 t196.length co17)) (fun _ hk => hk.2) (.slice Ao19 t199.length co19)) (fun _ hk => ⟨hk.1.1.1.1, ⟨hk.1.1.2, hk.1.2⟩⟩)⟩, ⟨by exact Kd.R_mono (Kd.R_far (p := ⟨gb188, 5, none⟩) (Kd.R_far (p := ⟨gb188, 4, none⟩) (Kd.R_far (p := ⟨gb188, 3, none⟩) (Kd.R_far (p := ⟨gb188, 2, none⟩) (Kd.R_types HO195.out BK188.out (by decide)) (fun _ hk => hk.2) (.slice Ao13 t190.length co13)) (fun _ hk => hk.2) (.slice Ao15 t193.length co15)) (fun _ hk => hk.2) (.slice Ao17 t196.length co17)) (fun _ hk => hk.2) (.slice Ao19 t199.length co19)) (fun _ hk => ⟨hk.1.1.1.1, ⟨hk.1.1.2, hk.1.2⟩⟩)⟩, ⟨by exact Kd.R_mono (Kd.R_far (p := ⟨gb188, 5, none⟩) (Kd.R_far (p := ⟨gb188, 4, none⟩) (Kd.R_far (p := ⟨gb188, 3, none⟩) (Kd.R_far (p := ⟨gb188, 2, none⟩) (Kd.R_types HO198.out BK188.out (by decide)) (fun _ hk => hk.2) (.slice Ao13 t190.length co13)) (fun _ hk => hk.2) (.slice Ao15 t193.length co15)) (fun _ hk => hk.2) (.slice Ao17 t196.length co17)) (fun _ hk => hk.2) (.slice Ao19 t199.length co19)) (fun _ hk => ⟨hk.1.1.1.1, ⟨hk.1.1.2, hk.1.2⟩⟩)⟩, ⟨by exact Kd.N_mono (Kd.N_far (p := ⟨gb188, 5, none⟩) (Kd.N_far (p := ⟨gb188, 4, none⟩) (Kd.N_far (p := ⟨gb188, 3, none⟩) (Kd.N_far (p := ⟨gb188, 2, none⟩) (Kd.N_mono HO201.out (fun k_ hk => (⟨hk, hk.2.2.2.2.1⟩ : _ ∧ k_ ≠ gb188))) (fun _ hk => hk.2) (.slice Ao13 t190.length co13)) (fun _ hk => hk.2) (.slice Ao15 t193.length co15)) (fun _ hk => hk.2) (.slice Ao17 t196.length co17)) (fun _ hk => hk.2) (.slice Ao19 t199.length co19)) (fun _ hk => ⟨hk.1.1, ⟨hk.1.2.1, ⟨hk.1.2.2.1, ⟨hk.1.2.2.2.1, ⟨hk.1.2.2.2.2.1, hk.1.2.2.2.2.2⟩⟩⟩⟩⟩)⟩, ⟨by refine blk_put (cs := #[.bool a0_0, .bool a0_1, .slice Ao13 t190.length co13, .slice Ao15 t193.length co15, .slice Ao17 t196.length co17, .slice A0_5 l0_5.length c0_5, .bool a0_6, .bool a0_7]) ?_ 5 _ rfl; refine blk_put (cs := #[.bool a0_0, .bool a0_1, .slice Ao13 t190.length co13, .slice Ao15 t193.length co15, .slice A0_4 l0_4.length c0_4, .slice A0_5 l0_5.length c0_5, .bool a0_6, .bool a0_7]) ?_ 4 _ rfl; refine blk_put (cs := #[.bool a0_0, .bool a0_1, .slice Ao13 t190.length co13, .slice A0_3 l0_3.length c0_3, .slice A0_4 l0_4.length c0_4, .slice A0_5 l0_5.length c0_5, .bool a0_6, .bool a0_7]) ?_ 3 _ rfl; refine blk_put (cs := #[.bool a0_0, .bool a0_1, .slice A0_2 l0_2.length c0_2, .slice A0_3 l0_3.length c0_3, .slice A0_4 l0_4.length c0_4, .slice A0_5 l0_5.length c0_5, .bool a0_6, .bool a0_7]) ?_ 2 _ rfl; exact BK188.out⟩, ⟨by refine blk_far ?_ NB189_188.out _; refine blk_far ?_ NB189_188.out _; refine blk_far ?_ NB189_188.out _; refine blk_far ?_ NB189_188.out _; exact BK189.out⟩, ⟨by repeat (first | (with_reducible first | exact HB.out | apply below_alloc | apply pw_below_drewN | apply below_drew1 | refine below_set ?_ GE188.out | refine below_set ?_ GE189.out) | exact HB.out)⟩⟩
 case round =>
  clear H'
  try clear c2
  try clear p2
  try clear c3
  try clear c6
  try clear c21
  try clear hcz22_0
  try clear hcz22_1
  try clear hcz22_2
  try clear hcz22_3
  try clear hcz22_4
  try clear hcz22_5
  try clear hcz22_6
  try clear hcz22_7
  try clear hfz22_0
  try clear hfz22_1
  try clear hfz22_2
  try clear hfz22_3
  try clear hfz22_4
  try clear hfz22_5
  try clear hfz22_6
  try clear hfz22_7
  obtain ⟨x23_1, x189005_1, u189005, rfl, HA, HK1, HO_189002, HO_189003, HO_189004, HO_189005, BK188, BK189, HB⟩ := hrel
  cases gk with
  | zero => exact absurd HA.out (by simp [config_copied.l0])
  | succ k1 =>
   have H := HA.out
   clear HA
   simp only [config_copied.l0] at H
   by_cases c23 : x23_1 < (t199.length : Int)
   ·rw [if_pos c23] at H
    have c23b0 : decide (x23_1 < (t199.length : Int)) = true := decide_eq_true c23
    clear c23
    by_cases c24 : 0 ≤ x23_1
    ·rw [if_pos c24] at H
     have c24b0 : decide (0 ≤ x23_1) = true := decide_eq_true c24
     clear c24
     by_cases c25 : x23_1 < (x189005_1.length : Int)
     ·rw [if_pos c25] at H
      have c25b0 : decide (x23_1 < (x189005_1.length : Int)) = true := decide_eq_true c25
      clear c25
      replace H := Option.bind_eq_some_iff.mp H
      obtain ⟨t203, A260, H⟩ := H
      have A26 := Aside0.mk A260
      clear A260
      obtain ⟨y206, hy206⟩ : ∃ y_ : List (S35), y_ = (x189005_1.set (x23_1 : Int).toNat (⟨(rd_T35 x189005_1 x23_1).f0, t203⟩ : S35)) := ⟨_, rfl⟩
      replace H : (config_copied.l0 k1 (t199.length : Int) (wrap64 (x23_1 + 1)) a0_0 a0_1 t190 t193 t196 y206 a0_6 a0_7) = some (r1, r2, r3, r4, r5, r6, r7, r8) := by first | (rw [hy206]; with_reducible exact H) | (have H2_ := (Option.bind_some _ _).symm.trans H; rw [hy206]; with_reducible exact H2_) | (have H2_ := (Option.bind_some _ _).symm.trans H; with_reducible exact H2_) | with_reducible exact H | (rw [hy206]; exact H) | exact H
      have Ny206 := Aside0.mk hy206
      clear hy206
      have H' := Aside0.mk H
      clear H
      try go_wp2
      have n0_ := Aside0.mk (Kd.R_drew HO_189002.out)
      have n1_ := Aside0.mk (Kd.R_drew HO_189003.out)
      have n2_ := Aside0.mk (Kd.R_drew HO_189004.out)
      have n3_ := Aside0.mk (Kd.N_drew HO_189005.out)
      have n4_ := Aside0.mk (blk_drew BK188.out)
      have n5_ := Aside0.mk (blk_drew BK189.out)
      have n6_ := Aside0.mk (below_drew1 HB.out)
      clear HO_189002
      clear HO_189003
      clear HO_189004
      clear HO_189005
      clear BK188
      clear BK189
      clear HB
      have HO_189002 := n0_
      have HO_189003 := n1_
      have HO_189004 := n2_
      have HO_189005 := n3_
      have BK188 := n4_
      have BK189 := n5_
      have HB := n6_
      clear n0_ n1_ n2_ n3_ n4_ n5_ n6_
      obtain ⟨Ao29, co29, eo29⟩ := Kd.N_slice HO_189005.out
      (first | subst eo29 | (injection eo29 with f1_ f2_ f3_; have f4_ := f1_.symm; have f5_ := f3_.symm; clear f1_ f2_ f3_; subst f4_; subst f5_))
      have p202 : 0 ≤ (x23_1 : Int) := of_decide_eq_true (by first | (with_reducible assumption) | assumption)
      have q202 : x23_1 < (x189005_1.length : Int) := of_decide_eq_true (by first | (with_reducible assumption) | assumption)
      obtain ⟨ad202, A202_1, c202_1, e202, hx202_0, hx202_1, hl202_1, hi202_1⟩ := at_T35 (Kd.N_reads' HO_189005.out).2.2 x23_1 p202 q202
      cases e202
      obtain ⟨ce202, hce202, hMe202, hcc202⟩ := Kd.N_get HO_189005.out z35 x23_1 p202 (by first | exact q202 | exact of_decide_eq_true (by first | (with_reducible assumption) | assumption) | (have e_ := (Kd.N_reads' HO_189005.out).1; omega))
      obtain ⟨ua202_1, uc202_1, rfl, ul202_1, ge202_1⟩ := k35_openF hMe202
      have hv202_1 := hcc202 1 _ rfl
      rw [add_field _ _ 1 (by omega)] at hv202_1
      replace hv202_1 := Option.some.inj (hv202_1.symm.trans hx202_1)
      injection hv202_1 with hva_ hvn_ hvc_
      rw [hva_] at ge202_1
      rw [hvc_] at ul202_1
      have HL202_1 := Aside0.mk (show Kd.V Kd.string 9 _ w.heap.size _ _ ((rd_T35 x189005_1 x23_1).f1) from Kd.V_mk ul202_1 ge202_1)
      clear hva_ hvn_ hvc_ ge202_1 ul202_1
      clear hcc202 hce202
      have HR202_1 := Aside0.mk hi202_1
      have HC202_1 := Aside0.mk hl202_1
      clear hi202_1 hl202_1
      replace p202 := eq_true p202
      replace q202 := eq_true q202
      refine start_ (n := 13) (S := fun w' => w'.cell? ⟨gb188, 0, none⟩ = some (.bool a0_0) ∧ w'.cell? ⟨gb188, 1, none⟩ = some (.bool a0_1) ∧ w'.cell? ⟨gb188, 2, none⟩ = some (.slice Ao13 t190.length co13) ∧ w'.cell? ⟨gb188, 3, none⟩ = some (.slice Ao15 t193.length co15) ∧ w'.cell? ⟨gb188, 4, none⟩ = some (.slice Ao17 t196.length co17) ∧ w'.cell? ⟨gb188, 5, none⟩ = some (.slice (some ad202) x189005_1.length co29) ∧ w'.cell? ⟨gb188, 6, none⟩ = some (.bool a0_6) ∧ w'.cell? ⟨gb188, 7, none⟩ = some (.bool a0_7) ∧ w'.cell? (ad202.add ((x23_1).toNat * 2)) = some (.string ((rd_T35 x189005_1 x23_1).f0)) ∧ w'.cell? ⟨(ad202.add ((x23_1).toNat * 2)).block, (ad202.add ((x23_1).toNat * 2)).off + 1, none⟩ = some (.slice A202_1 ((rd_T35 x189005_1 x23_1).f1).length c202_1)) (ds := [12]) (tf 0 13) (by kernel_rfl) rfl rfl ⟨(blk_cell BK188.out 0).trans rfl, (blk_cell BK188.out 1).trans rfl, (blk_cell BK188.out 2).trans rfl, (blk_cell BK188.out 3).trans rfl, (blk_cell BK188.out 4).trans rfl, (blk_cell BK188.out 5).trans rfl, (blk_cell BK188.out 6).trans rfl, (blk_cell BK188.out 7).trans rfl, hx202_0, hx202_1⟩ (fun hHeld => ?_); refine with_tabW config_copied.tab5 config_copied.bits5 (fun HT_ HW_ => ?_)
      generalize wr.drew = w28 at HO_189002 HO_189003 HO_189004 HO_189005 BK188 BK189 HB HL202_1 HR202_1 hx202_0 hx202_1 hHeld ⊢
      refine pure_ (i := 0) (N := some 26) (v := ?_) (a' := ?_) (tf 1 12) rfl rfl (any_of HT_.out (by kernel_rfl)) (fun _ _ _ h => h) (Or.inl ⟨by rfl, ?_⟩) ?_ ?_
      rotate_left
      ·intro w'
       go_simp
       with_reducible rfl
      rotate_left
      ·simp only [Act.put, List.setIfInBounds_toArray, List.set_cons_zero, List.set_cons_succ, i64_w, i32_w]
       rfl
      refine pure_ (i := 2) (N := some 28) (v := ?_) (a' := ?_) #[true, false, true, false, false, false, false, false, false, false, false, false, false] rfl rfl (any_of HT_.out (by kernel_rfl)) (fun _ _ _ h => h) (Or.inl ⟨by rfl, ?_⟩) ?_ ?_
      rotate_left
      ·intro w'
       go_simp
       with_reducible rfl
      rotate_left
      ·simp only [Act.put, List.setIfInBounds_toArray, List.set_cons_zero, List.set_cons_succ, i64_w, i32_w]
       rfl
      refine pure_ (i := 3) (N := some 29) (v := ?_) (a' := ?_) #[true, false, true, true, false, false, false, false, false, false, false, false, false] rfl rfl (any_of HT_.out (by kernel_rfl)) (fun _ _ _ h => h) (Or.inl ⟨by rfl, ?_⟩) ?_ ?_
      rotate_left
      ·intro w'
       go_simp
       with_reducible rfl
      rotate_left
      ·simp only [Act.put, List.setIfInBounds_toArray, List.set_cons_zero, List.set_cons_succ, i64_w, i32_w]
       rfl
      refine pure_ (i := 5) (N := some 31) (v := ?_) (a' := ?_) #[true, false, true, true, false, true, false, false, false, false, false, false, false] rfl rfl (any_of HT_.out (by kernel_rfl)) (fun _ _ _ h => h) (Or.inl ⟨by rfl, ?_⟩) ?_ ?_
      rotate_left
      ·intro w'
       go_simp
       with_reducible rfl
      rotate_left
      ·simp only [Act.put, List.setIfInBounds_toArray, List.set_cons_zero, List.set_cons_succ, i64_w, i32_w]
       rfl
      refine take_ (i := 1) (N := some 27) (v := ?_) (a' := ?_) #[true, true, true, true, false, true, false, false, false, false, false, false, false] rfl rfl (take_ofW HT_.out HW_.out (by kernel_rfl)) (fun _ _ _ h => h) (Or.inl ⟨by rfl, ?_⟩) hHeld ?_ ?_
      rotate_left
      ·rintro w' ⟨s0, s1, s2, s3, s4, s5, s6, s7, s8, s9⟩
       go_simp
       with_reducible rfl
      rotate_left
      ·simp only [Act.put, List.setIfInBounds_toArray, List.set_cons_zero, List.set_cons_succ, i64_w, i32_w]
       rfl
      refine take_ (i := 4) (N := some 30) (v := ?_) (a' := ?_) (tf 6 7) rfl rfl (take_ofW HT_.out HW_.out (by kernel_rfl)) (fun _ _ _ h => h) (Or.inl ⟨by rfl, ?_⟩) hHeld ?_ ?_
      rotate_left
      ·rintro w' ⟨s0, s1, s2, s3, s4, s5, s6, s7, s8, s9⟩
       go_simp
       with_reducible rfl
      rotate_left
      ·simp only [Act.put, List.setIfInBounds_toArray, List.set_cons_zero, List.set_cons_succ, i64_w, i32_w]
       rfl
      refine pure_ (i := 6) (N := some 32) (v := ?_) (a' := ?_) (tf 7 6) rfl rfl (any_of HT_.out (by kernel_rfl)) (fun _ _ _ h => h) (Or.inl ⟨by rfl, ?_⟩) ?_ ?_
      rotate_left
      ·intro w'
       go_simp
       with_reducible rfl
      rotate_left
      ·simp only [Act.put, List.setIfInBounds_toArray, List.set_cons_zero, List.set_cons_succ, i64_w, i32_w]
       rfl
      refine pure_ (i := 7) (N := some 33) (v := ?_) (a' := ?_) (tf 8 5) rfl rfl (any_of HT_.out (by kernel_rfl)) (fun _ _ _ h => h) (Or.inl ⟨by rfl, ?_⟩) ?_ ?_
      rotate_left
      ·intro w'
       go_simp
       with_reducible rfl
      rotate_left
      ·simp only [Act.put, List.setIfInBounds_toArray, List.set_cons_zero, List.set_cons_succ, i64_w, i32_w]
       rfl
      refine take_ (i := 8) (N := some 34) (v := ?_) (a' := ?_) (tf 9 4) rfl rfl (take_ofW HT_.out HW_.out (by kernel_rfl)) (fun _ _ _ h => h) (Or.inl ⟨by rfl, ?_⟩) hHeld ?_ ?_
      rotate_left
      ·rintro w' ⟨s0, s1, s2, s3, s4, s5, s6, s7, s8, s9⟩
       go_simp
       with_reducible rfl
      rotate_left
      ·simp only [Act.put, List.setIfInBounds_toArray, List.set_cons_zero, List.set_cons_succ, i64_w, i32_w]
       rfl
      refine one_ (i := 9) (N := some 35) (tf 10 3) rfl rfl (one_of HT_.out (by kernel_rfl)) (by decide) (fun K hK => ?_)
      refine goes_ Try.func63 (by kernel_rfl) rfl #[.slice A202_1 ((rd_T35 x189005_1 x23_1).f1).length c202_1] (by rfl) rfl rfl (by (try simp only [List.map_toArray, List.map_cons, List.map_nil]); first | done | rfl | (simp only [List.length_drop, List.length_take]; rfl)) ?_
      with_reducible refine (slices_Clone_string_string.calls _ _ ((rd_T35 x189005_1 x23_1).f1) t203 _ ?side1 ?side2 A26.out).mono ?_
      (case side1 => repeat (first | exact (by repeat (first | (with_reducible exact HR202_1.out) | (with_reducible refine Kd.C_alloc ?_ _) | (with_reducible refine Kd.C_drewN ?_ _) | (with_reducible refine Kd.C_drew ?_) | exact HR202_1.out)) | (with_reducible refine Kd.C_alloc ?_ _) | (with_reducible refine Kd.C_drewN ?_ _) | (with_reducible refine Kd.C_drew ?_)))
      (case side2 => exact HC202_1.out)
      rintro e w30 ⟨v204, rfl, ho0, hb⟩
      have HS8_ := (hb.cell (World.block_lt_of_cell? _ _ (hHeld.2.2.2.2.2.2.2.2.1))).trans (hHeld.2.2.2.2.2.2.2.2.1)
      have HS9_ := (hb.cell (World.block_lt_of_cell? _ _ (hHeld.2.2.2.2.2.2.2.2.2))).trans (hHeld.2.2.2.2.2.2.2.2.2)
      refine ⟨_, rfl, ?_⟩
      have n0_ := Aside0.mk (Kd.R_elder' (by exact HO_189002.out) (Kd.R_base ho0) hb)
      have n1_ := Aside0.mk (Kd.R_elder' (by exact HO_189003.out) (Kd.R_base ho0) hb)
      have n2_ := Aside0.mk (Kd.R_elder' (by exact HO_189004.out) (Kd.R_base ho0) hb)
      have n3_ := Aside0.mk (Kd.N_elder' (by exact HO_189005.out) (Kd.R_base ho0) hb)
      have n4_ := Aside0.mk (Kd.V_elder' (by exact HL202_1.out) (Kd.R_base ho0) hb)
      have n5_ := Aside0.mk (Kd.R_lower (Kd.R_new' (Kd.R_new' (Kd.R_new' (Kd.R_newM (M := fun k_ => (w.heap.size ≤ k_)) ho0 (below_size (by repeat (first | (with_reducible first | exact HB.out | apply below_alloc | apply pw_below_drewN | apply below_drew1 | refine below_set ?_ GE188.out | refine below_set ?_ GE189.out) | exact HB.out))) (fun k_ h_ => h_)) (Kd.R_lt (by exact HO_189002.out))) (Kd.R_lt (by exact HO_189003.out))) (Kd.R_lt (by exact HO_189004.out))) (below_size (by repeat (first | (with_reducible first | exact HB.out | apply below_alloc | apply pw_below_drewN | apply below_drew1 | refine below_set ?_ GE188.out | refine below_set ?_ GE189.out) | exact HB.out))))
      have n6_ := Aside0.mk (blk_below (g := gb188) (o := .cells #[.bool a0_0, .bool a0_1, .slice Ao13 t190.length co13, .slice Ao15 t193.length co15, .slice Ao17 t196.length co17, .slice (some ad202) x189005_1.length co29, .bool a0_6, .bool a0_7] 25 (0, 0)) (by exact BK188.out) hb)
      have n7_ := Aside0.mk (blk_below (g := gb189) (o := .cells #[.bool false, .bool false, .slice none 0 0, .slice none 0 0, .slice none 0 0, .slice none 0 0, .bool false, .bool false] 25 (0, 0)) (by exact BK189.out) hb)
      have n8_ := Aside0.mk (Kd.C_below (by repeat (first | (with_reducible exact HR202_1.out) | (with_reducible refine Kd.C_alloc ?_ _) | (with_reducible refine Kd.C_drewN ?_ _) | (with_reducible refine Kd.C_drew ?_) | exact HR202_1.out)) hb)
      have n9_ := Aside0.mk (below_step (by repeat (first | (with_reducible first | exact HB.out | apply below_alloc | apply pw_below_drewN | apply below_drew1 | refine below_set ?_ GE188.out | refine below_set ?_ GE189.out) | exact HB.out)) hb)
      clear HO_189002
      clear HO_189003
      clear HO_189004
      clear HO_189005
      clear HL202_1
      clear BK188
      clear BK189
      clear HR202_1
      clear HB
      have HO_189002 := n0_
      have HO_189003 := n1_
      have HO_189004 := n2_
      have HO_189005 := n3_
      have HL202_1 := n4_
      have HO205 := n5_
      have BK188 := n6_
      have BK189 := n7_
      have HR202_1 := n8_
      have HB := n9_
      clear n0_ n1_ n2_ n3_ n4_ n5_ n6_ n7_ n8_ n9_
      (try clear hb)
      (try clear hb2)
      (try clear hk)
      (try clear hi)
      (try clear ho0)
      have p27 : 0 ≤ (x23_1 : Int) := of_decide_eq_true (by first | (with_reducible assumption) | assumption)
      have q27 : (x23_1 : Int) < ((x189005_1.length : Int) : Int) := of_decide_eq_true (by first | (with_reducible assumption) | assumption)
      obtain ⟨go27, co27, eo27, gb27, gl27, cl27, HG27⟩ := Kd.N_form HO_189005.out (by omega)
      (first | cases eo27 | (injection eo27 with ea_ en_ ec_; (first | subst ea_ | (injection ea_ with ea_; subst ea_)); subst ec_; clear en_))
      have GB27 := Aside0.mk gb27
      have GG27 := Aside0.mk HG27
      clear gb27 gl27 HG27
      (first | simp only [add_plain] at hx202_0 | skip)
      (first | simp only [add_plain] at hx202_1 | skip)
      obtain ⟨ce27, hcl27, hM27, hcc27, hfr27⟩ := Kd.N_elem HO_189005.out z35 (x23_1 : Int) p27 q27
      obtain ⟨ua27_1, uc27_1, rfl, ul27_1, ge27_1⟩ := k35_openF hM27
      have hx27_0 : World.cell? _ ⟨go27, (x23_1 : Int).toNat * 2, none⟩ = some (.string ((rd_T35 x189005_1 x23_1).f0)) := hcc27 0 _ rfl
      have hx27_1 : World.cell? _ ⟨go27, (x23_1 : Int).toNat * 2 + 1, none⟩ = some (.slice ua27_1 ((rd_T35 x189005_1 x23_1).f1).length uc27_1) := hcc27 1 _ rfl
      have hf27_0 : World.frozen? _ ⟨go27, (x23_1 : Int).toNat * 2, none⟩ = false := hfr27 0
      have hf27_1 : World.frozen? _ ⟨go27, (x23_1 : Int).toNat * 2 + 1, none⟩ = false := hfr27 1
      clear hcl27 hcc27 hfr27 hM27
      replace p27 := eq_true p27
      replace q27 := eq_true q27
      have HX31 := Aside0.mk (show Kd.N k35 35 _ w.heap.size (fun k_ => (w.heap.size ≤ k_ ∨ okp k_) ∧ some k_ ≠ (.slice Ao13 t190.length co13 : Value).ownBlock ∧ some k_ ≠ (.slice Ao15 t193.length co15 : Value).ownBlock ∧ some k_ ≠ (.slice Ao17 t196.length co17 : Value).ownBlock ∧ some k_ ≠ (v204 : Value).ownBlock ∧ k_ ≠ gb188 ∧ k_ ≠ gb189) (.slice (some ⟨go27, 0, none⟩) x189005_1.length co29) x189005_1 from (Kd.N_mono (HO_189005.out) (fun k_ hk => ⟨hk.1.1, ⟨hk.1.2.1, ⟨hk.1.2.2.1, ⟨hk.1.2.2.2.1, ⟨hk.2, ⟨hk.1.2.2.2.2.1, hk.1.2.2.2.2.2⟩⟩⟩⟩⟩⟩)))
      replace HX31 := Aside0.mk (show Kd.N k35 35 _ w.heap.size (fun k_ => (w.heap.size ≤ k_ ∨ okp k_) ∧ some k_ ≠ (.slice Ao13 t190.length co13 : Value).ownBlock ∧ some k_ ≠ (.slice Ao15 t193.length co15 : Value).ownBlock ∧ some k_ ≠ (.slice Ao17 t196.length co17 : Value).ownBlock ∧ k_ ≠ gb188 ∧ k_ ≠ gb189) (.slice (some ⟨go27, 0, none⟩) x189005_1.length co29) x189005_1 from Kd.N_mono HX31.out (fun k_ hk => ⟨hk.1, ⟨hk.2.1, ⟨hk.2.2.1, ⟨hk.2.2.2.1, ⟨hk.2.2.2.2.2.1, hk.2.2.2.2.2.2⟩⟩⟩⟩⟩))
      obtain ⟨ce31, hcl31, hM31, hcc31, hfr31⟩ := Kd.N_elem HX31.out z35 (x23_1 : Int) (of_decide_eq_true (by first | (with_reducible assumption) | assumption)) (by have h_ : (x23_1 : Int) < ((x189005_1.length : Int) : Int) := of_decide_eq_true (by first | (with_reducible assumption) | assumption); first | exact h_ | (have e_ := (Kd.N_reads' HO_189005.out).1; omega) | simpa using h_)
      obtain ⟨ua31_1, uc31_1, rfl, ul31_1, ge31_1⟩ := k35_openF hM31
      obtain ⟨Ao204, co204, eo204⟩ := Kd.R_slice HO205.out
      subst eo204
      have HP31 := (Kd.N_seg HX31.out (x23_1 : Int) (of_decide_eq_true (by first | (with_reducible assumption) | assumption)) (by have h_ : (x23_1 : Int) < ((x189005_1.length : Int) : Int) := of_decide_eq_true (by first | (with_reducible assumption) | assumption); first | exact h_ | (have e_ := (Kd.N_reads' HO_189005.out).1; omega) | simpa using h_) (seg := [(.slice Ao204 t203.length co204 : Value)]) (j := 1) hcl31 hcc31 (show 2 ≤ 2 from by decide) (x' := (⟨(rd_T35 x189005_1 x23_1).f0, t203⟩ : S35)) (k35_mkF _ _ (⟨(rd_T35 x189005_1 x23_1).f0, t203⟩ : S35) (Kd.R_reads' (Kd.R_mono (ok' := (fun k_ => ((fun k_ => (w.heap.size ≤ k_ ∨ okp k_) ∧ some k_ ≠ (.slice Ao13 t190.length co13 : Value).ownBlock ∧ some k_ ≠ (.slice Ao15 t193.length co15 : Value).ownBlock ∧ some k_ ≠ (.slice Ao17 t196.length co17 : Value).ownBlock ∧ k_ ≠ gb188 ∧ k_ ≠ gb189)) k_ ∧ k_ ≠ go27)) (Kd.R_types (Kd.R_types (Kd.R_apart' (HO205.out) (Kd.N_typed HO_189005.out) (by decide)) BK188.out (by decide)) BK189.out (by decide)) (by intro k_ hk; exact ⟨⟨.inl hk.1.1.1.1.1.1.1, ⟨hk.1.1.1.1.1.2, ⟨hk.1.1.1.1.2, ⟨hk.1.1.1.2, ⟨hk.1.2, hk.2⟩⟩⟩⟩⟩, fun e_ => (hk.1.1.2) (by rw [e_]; rfl)⟩))).2.1 (Kd.R_F (Kd.R_mono (ok' := (fun k_ => ((fun k_ => (w.heap.size ≤ k_ ∨ okp k_) ∧ some k_ ≠ (.slice Ao13 t190.length co13 : Value).ownBlock ∧ some k_ ≠ (.slice Ao15 t193.length co15 : Value).ownBlock ∧ some k_ ≠ (.slice Ao17 t196.length co17 : Value).ownBlock ∧ k_ ≠ gb188 ∧ k_ ≠ gb189)) k_ ∧ k_ ≠ go27)) (Kd.R_types (Kd.R_types (Kd.R_apart' (HO205.out) (Kd.N_typed HO_189005.out) (by decide)) BK188.out (by decide)) BK189.out (by decide)) (by intro k_ hk; exact ⟨⟨.inl hk.1.1.1.1.1.1.1, ⟨hk.1.1.1.1.1.2, ⟨hk.1.1.1.1.2, ⟨hk.1.1.1.2, ⟨hk.1.2, hk.2⟩⟩⟩⟩⟩, fun e_ => (hk.1.1.2) (by rw [e_]; rfl)⟩)))) (fun _ hk => hk)).1
      rw [← Ny206.out] at HP31
      have HQ31 := Aside0.mk HP31
      clear hcl31 hcc31 hfr31 hM31 HP31
      refine hK.out _ _ ⟨(blk_cell BK188.out 0).trans rfl, (blk_cell BK188.out 1).trans rfl, (blk_cell BK188.out 2).trans rfl, (blk_cell BK188.out 3).trans rfl, (blk_cell BK188.out 4).trans rfl, (blk_cell BK188.out 5).trans rfl, (blk_cell BK188.out 6).trans rfl, (blk_cell BK188.out 7).trans rfl, HS8_, HS9_⟩ (fun hHeld => ?_)
      clear hK K
      refine norm_ (a' := ?_) ?_ ?_
      rotate_left
      ·show Act.put _ (some 35) _ = _
       simp only [Act.put, List.setIfInBounds_toArray, List.set_cons_zero, List.set_cons_succ, i64_w, i32_w]
       rfl
      refine pure_ (i := 10) (N := some 36) (v := ?_) (a' := ?_) (tf 11 2) rfl rfl (any_of HT_.out (by kernel_rfl)) (fun _ _ _ h => h) (Or.inl ⟨by rfl, ?_⟩) ?_ ?_
      rotate_left
      ·intro w'
       go_simp
       with_reducible rfl
      rotate_left
      ·simp only [Act.put, List.setIfInBounds_toArray, List.set_cons_zero, List.set_cons_succ, i64_w, i32_w]
       rfl
      refine pure_ (i := 11) (N := some 37) (v := ?_) (a' := ?_) (tf 12 1) rfl rfl (any_of HT_.out (by kernel_rfl)) (fun _ _ _ h => h) (Or.inl ⟨by rfl, ?_⟩) ?_ ?_
      rotate_left
      ·intro w'
       go_simp
       with_reducible rfl
      rotate_left
      ·simp only [Act.put, List.setIfInBounds_toArray, List.set_cons_zero, List.set_cons_succ, i64_w, i32_w]
       rfl
      refine last_ (i := 12) (N := none) (tf 13 0) rfl rfl (one_of HT_.out (by kernel_rfl)) (by decide) (fun K hK => ?_)
      refine skip_ (w1 := ?_) (by rfl) rfl ?_ ?_
      rotate_left
      ·go_simp
       rfl
      refine hK.out _ _ ?_
      clear hK K
      refine done_ (done_of HT_.out (by kernel_rfl)) ?_
      try go_wp2
      go_roundg k1
      case measure => have := HK1.out; omega
      case rel => exact ⟨(wrap64 (x23_1 + 1)), (y206), (.slice (some ⟨go27, 0, none⟩) x189005_1.length co29), (by first | rfl | (simp; done) | (simp [*]; done)), H', ⟨by have := HK1.out; omega⟩, ⟨by exact Kd.R_mono (Kd.R_far (p := ⟨go27, (x23_1 : Int).toNat * 2 + 1, none⟩) (Kd.R_types HO_189002.out GG27.out (by decide)) (fun _ hk => hk.2) ((.slice Ao204 t203.length co204 : Value))) (fun _ hk => ⟨hk.1.1.1, ⟨hk.1.1.2.1, hk.1.1.2.2⟩⟩)⟩, ⟨by exact Kd.R_mono (Kd.R_far (p := ⟨go27, (x23_1 : Int).toNat * 2 + 1, none⟩) (Kd.R_types HO_189003.out GG27.out (by decide)) (fun _ hk => hk.2) ((.slice Ao204 t203.length co204 : Value))) (fun _ hk => ⟨hk.1.1.1, ⟨hk.1.1.2.1, hk.1.1.2.2⟩⟩)⟩, ⟨by exact Kd.R_mono (Kd.R_far (p := ⟨go27, (x23_1 : Int).toNat * 2 + 1, none⟩) (Kd.R_types HO_189004.out GG27.out (by decide)) (fun _ hk => hk.2) ((.slice Ao204 t203.length co204 : Value))) (fun _ hk => ⟨hk.1.1.1, ⟨hk.1.1.2.1, hk.1.1.2.2⟩⟩)⟩, ⟨by exact HQ31.out⟩, ⟨by refine blk_far ?_ (by have h_ := Kd.N_away HO_189005.out (fun _ hk => hk.1.2.2.2.2.1); intro e_; exact h_ (by rw [e_]; rfl)) _; exact BK188.out⟩, ⟨by refine blk_far ?_ (by have h_ := Kd.N_away HO_189005.out (fun _ hk => hk.1.2.2.2.2.2); intro e_; exact h_ (by rw [e_]; rfl)) _; exact BK189.out⟩, ⟨by repeat (first | (with_reducible first | exact HB.out | apply below_alloc | apply pw_below_drewN | apply below_drew1 | refine below_set ?_ GB27.out | refine below_set ?_ GE188.out | refine below_set ?_ GE189.out) | exact HB.out)⟩⟩
     ·rw [if_neg c25] at H
      exact absurd H (by simp)
    ·rw [if_neg c24] at H
     exact absurd H (by simp)
   ·rw [if_neg c23] at H
    have c23b0 : decide (x23_1 < (t199.length : Int)) = false := decide_eq_false c23
    clear c23
    simp only [Option.some.injEq, Prod.mk.injEq] at H
    obtain ⟨rfl, rfl, rfl, rfl, rfl, rfl, rfl, rfl⟩ := H
    have hnb32 := NB188_189.out
    have hnc32 := NB189_188.out
    have hcz33_0 : wr.cell? ⟨gb188, 0, none⟩ = some (.bool a0_0) := (blk_cell BK188.out 0).trans rfl
    have hcz33_1 : wr.cell? ⟨gb188, 1, none⟩ = some (.bool a0_1) := (blk_cell BK188.out 1).trans rfl
    have hcz33_2 : wr.cell? ⟨gb188, 2, none⟩ = some (.slice Ao13 t190.length co13) := (blk_cell BK188.out 2).trans rfl
    have hcz33_3 : wr.cell? ⟨gb188, 3, none⟩ = some (.slice Ao15 t193.length co15) := (blk_cell BK188.out 3).trans rfl
    have hcz33_4 : wr.cell? ⟨gb188, 4, none⟩ = some (.slice Ao17 t196.length co17) := (blk_cell BK188.out 4).trans rfl
    have hcz33_5 : wr.cell? ⟨gb188, 5, none⟩ = some (u189005) := (blk_cell BK188.out 5).trans rfl
    have hcz33_6 : wr.cell? ⟨gb188, 6, none⟩ = some (.bool a0_6) := (blk_cell BK188.out 6).trans rfl
    have hcz33_7 : wr.cell? ⟨gb188, 7, none⟩ = some (.bool a0_7) := (blk_cell BK188.out 7).trans rfl
    have hfz33_0 := blk_frozen BK188.out 0
    have hfz33_1 := blk_frozen BK188.out 1
    have hfz33_2 := blk_frozen BK188.out 2
    have hfz33_3 := blk_frozen BK188.out 3
    have hfz33_4 := blk_frozen BK188.out 4
    have hfz33_5 := blk_frozen BK188.out 5
    have hfz33_6 := blk_frozen BK188.out 6
    have hfz33_7 := blk_frozen BK188.out 7
    have hcz34_0 : wr.cell? ⟨gb189, 0, none⟩ = some (.bool false) := (blk_cell BK189.out 0).trans rfl
    have hcz34_1 : wr.cell? ⟨gb189, 1, none⟩ = some (.bool false) := (blk_cell BK189.out 1).trans rfl
    have hcz34_2 : wr.cell? ⟨gb189, 2, none⟩ = some (.slice none 0 0) := (blk_cell BK189.out 2).trans rfl
    have hcz34_3 : wr.cell? ⟨gb189, 3, none⟩ = some (.slice none 0 0) := (blk_cell BK189.out 3).trans rfl
    have hcz34_4 : wr.cell? ⟨gb189, 4, none⟩ = some (.slice none 0 0) := (blk_cell BK189.out 4).trans rfl
    have hcz34_5 : wr.cell? ⟨gb189, 5, none⟩ = some (.slice none 0 0) := (blk_cell BK189.out 5).trans rfl
    have hcz34_6 : wr.cell? ⟨gb189, 6, none⟩ = some (.bool false) := (blk_cell BK189.out 6).trans rfl
    have hcz34_7 : wr.cell? ⟨gb189, 7, none⟩ = some (.bool false) := (blk_cell BK189.out 7).trans rfl
    have hfz34_0 := blk_frozen BK189.out 0
    have hfz34_1 := blk_frozen BK189.out 1
    have hfz34_2 := blk_frozen BK189.out 2
    have hfz34_3 := blk_frozen BK189.out 3
    have hfz34_4 := blk_frozen BK189.out 4
    have hfz34_5 := blk_frozen BK189.out 5
    have hfz34_6 := blk_frozen BK189.out 6
    have hfz34_7 := blk_frozen BK189.out 7
    obtain ⟨Ao35, co35, eo35⟩ := Kd.N_slice HO_189005.out
    subst eo35
    go_wp2
    refine bodyPost_ret (results_cell_row rfl _ _ gb189 25 #[.bool a0_0, .bool a0_1, .slice Ao13 t190.length co13, .slice Ao15 t193.length co15, .slice Ao17 t196.length co17, .slice Ao35 x189005_1.length co35, .bool a0_6, .bool a0_7] (0, 0) _ rfl (by refine blk_put (cs := #[.bool a0_0, .bool a0_1, .slice Ao13 t190.length co13, .slice Ao15 t193.length co15, .slice Ao17 t196.length co17, .slice Ao35 x189005_1.length co35, .bool a0_6, .bool false]) ?_ 7 _ rfl; refine blk_put (cs := #[.bool a0_0, .bool a0_1, .slice Ao13 t190.length co13, .slice Ao15 t193.length co15, .slice Ao17 t196.length co17, .slice Ao35 x189005_1.length co35, .bool false, .bool false]) ?_ 6 _ rfl; refine blk_put (cs := #[.bool a0_0, .bool a0_1, .slice Ao13 t190.length co13, .slice Ao15 t193.length co15, .slice Ao17 t196.length co17, .slice none 0 0, .bool false, .bool false]) ?_ 5 _ rfl; refine blk_put (cs := #[.bool a0_0, .bool a0_1, .slice Ao13 t190.length co13, .slice Ao15 t193.length co15, .slice none 0 0, .slice none 0 0, .bool false, .bool false]) ?_ 4 _ rfl; refine blk_put (cs := #[.bool a0_0, .bool a0_1, .slice Ao13 t190.length co13, .slice none 0 0, .slice none 0 0, .slice none 0 0, .bool false, .bool false]) ?_ 3 _ rfl; refine blk_put (cs := #[.bool a0_0, .bool a0_1, .slice none 0 0, .slice none 0 0, .slice none 0 0, .slice none 0 0, .bool false, .bool false]) ?_ 2 _ rfl; refine blk_put (cs := #[.bool a0_0, .bool false, .slice none 0 0, .slice none 0 0, .slice none 0 0, .slice none 0 0, .bool false, .bool false]) ?_ 1 _ rfl; refine blk_put (cs := #[.bool false, .bool false, .slice none 0 0, .slice none 0 0, .slice none 0 0, .slice none 0 0, .bool false, .bool false]) ?_ 0 _ rfl; exact BK189.out) Try.underlying25 rfl (by kernel_rfl)) rfl ?_
    exact ⟨_, _, _, _, by first | rfl | (simp [errW_none, errW_some] <;> rfl) | (simp [*, errW_none, errW_some] <;> rfl), by exact Kd.R_mono (Kd.R_far (p := ⟨gb189, 7, none⟩) (Kd.R_far (p := ⟨gb189, 6, none⟩) (Kd.R_far (p := ⟨gb189, 5, none⟩) (Kd.R_far (p := ⟨gb189, 4, none⟩) (Kd.R_far (p := ⟨gb189, 3, none⟩) (Kd.R_far (p := ⟨gb189, 2, none⟩) (Kd.R_far (p := ⟨gb189, 1, none⟩) (Kd.R_far (p := ⟨gb189, 0, none⟩) (Kd.R_types HO_189002.out BK189.out (by decide)) (fun _ hk => hk.2) (.bool a0_0)) (fun _ hk => hk.2) (.bool a0_1)) (fun _ hk => hk.2) (.slice Ao13 t190.length co13)) (fun _ hk => hk.2) (.slice Ao15 t193.length co15)) (fun _ hk => hk.2) (.slice Ao17 t196.length co17)) (fun _ hk => hk.2) (.slice Ao35 x189005_1.length co35)) (fun _ hk => hk.2) (.bool a0_6)) (fun _ hk => hk.2) (.bool a0_7)) (fun _ hk => ⟨hk.1.1, ⟨hk.1.2.1, hk.1.2.2⟩⟩), by exact Kd.R_mono (Kd.R_far (p := ⟨gb189, 7, none⟩) (Kd.R_far (p := ⟨gb189, 6, none⟩) (Kd.R_far (p := ⟨gb189, 5, none⟩) (Kd.R_far (p := ⟨gb189, 4, none⟩) (Kd.R_far (p := ⟨gb189, 3, none⟩) (Kd.R_far (p := ⟨gb189, 2, none⟩) (Kd.R_far (p := ⟨gb189, 1, none⟩) (Kd.R_far (p := ⟨gb189, 0, none⟩) (Kd.R_types HO_189003.out BK189.out (by decide)) (fun _ hk => hk.2) (.bool a0_0)) (fun _ hk => hk.2) (.bool a0_1)) (fun _ hk => hk.2) (.slice Ao13 t190.length co13)) (fun _ hk => hk.2) (.slice Ao15 t193.length co15)) (fun _ hk => hk.2) (.slice Ao17 t196.length co17)) (fun _ hk => hk.2) (.slice Ao35 x189005_1.length co35)) (fun _ hk => hk.2) (.bool a0_6)) (fun _ hk => hk.2) (.bool a0_7)) (fun _ hk => ⟨hk.1.1, ⟨hk.1.2.1, hk.1.2.2⟩⟩), by exact Kd.R_mono (Kd.R_far (p := ⟨gb189, 7, none⟩) (Kd.R_far (p := ⟨gb189, 6, none⟩) (Kd.R_far (p := ⟨gb189, 5, none⟩) (Kd.R_far (p := ⟨gb189, 4, none⟩) (Kd.R_far (p := ⟨gb189, 3, none⟩) (Kd.R_far (p := ⟨gb189, 2, none⟩) (Kd.R_far (p := ⟨gb189, 1, none⟩) (Kd.R_far (p := ⟨gb189, 0, none⟩) (Kd.R_types HO_189004.out BK189.out (by decide)) (fun _ hk => hk.2) (.bool a0_0)) (fun _ hk => hk.2) (.bool a0_1)) (fun _ hk => hk.2) (.slice Ao13 t190.length co13)) (fun _ hk => hk.2) (.slice Ao15 t193.length co15)) (fun _ hk => hk.2) (.slice Ao17 t196.length co17)) (fun _ hk => hk.2) (.slice Ao35 x189005_1.length co35)) (fun _ hk => hk.2) (.bool a0_6)) (fun _ hk => hk.2) (.bool a0_7)) (fun _ hk => ⟨hk.1.1, ⟨hk.1.2.1, hk.1.2.2⟩⟩), by exact Kd.N_mono (Kd.N_far (p := ⟨gb189, 7, none⟩) (Kd.N_far (p := ⟨gb189, 6, none⟩) (Kd.N_far (p := ⟨gb189, 5, none⟩) (Kd.N_far (p := ⟨gb189, 4, none⟩) (Kd.N_far (p := ⟨gb189, 3, none⟩) (Kd.N_far (p := ⟨gb189, 2, none⟩) (Kd.N_far (p := ⟨gb189, 1, none⟩) (Kd.N_far (p := ⟨gb189, 0, none⟩) (Kd.N_mono HO_189005.out (fun k_ hk => (⟨hk, hk.2.2.2.2.2⟩ : _ ∧ k_ ≠ gb189))) (fun _ hk => hk.2) (.bool a0_0)) (fun _ hk => hk.2) (.bool a0_1)) (fun _ hk => hk.2) (.slice Ao13 t190.length co13)) (fun _ hk => hk.2) (.slice Ao15 t193.length co15)) (fun _ hk => hk.2) (.slice Ao17 t196.length co17)) (fun _ hk => hk.2) (.slice Ao35 x189005_1.length co35)) (fun _ hk => hk.2) (.bool a0_6)) (fun _ hk => hk.2) (.bool a0_7)) (fun _ hk => ⟨hk.1.1, ⟨hk.1.2.1, ⟨hk.1.2.2.1, hk.1.2.2.2.1⟩⟩⟩), by repeat (first | (with_reducible first | exact HB.out | apply below_alloc | apply pw_below_drewN | apply below_drew1 | refine below_set ?_ GE188.out | refine below_set ?_ GE189.out) | exact HB.out)⟩





end Go.Proofs.Ytjofofpplpmgjaa.Pr
namespace Go.Proofs.Ytjofofpplpmgjaa.Pr
set_option linter.unusedVariables false
set_option linter.unusedSimpArgs false
open Go.RowKit Go.Lib Go.Shelf Go.Sort Go.Proofs.Ytjofofpplpmgjaa Go.Proofs.YtjofofpplpmgjaaW.PrintWords Go.Proofs.YtjofofpplpmgjaaW.PrintLast Go.Proofs.YtjofofpplpmgjaaW.PrintMore

def delRen : Go.Shelf.Ren := ⟨fun | 6 => 65 | 10 => 36 | n => n, fun | 23 => 9 | 25 => 45 | n => n, fun n => n⟩
theorem delLay : Go.Proofs.SlLaysH.n10 Try.prog delRen := {
  mixed := by kernel_rfl
  f6 := ⟨"slices.IndexFunc[[]string,string]", by decide, Try.func65.trans (congrArg some (by kernel_rfl))⟩
  f10 := ⟨"slices.DeleteFunc[[]string,string]", by decide, Try.func36.trans (congrArg some (by kernel_rfl))⟩
  t0 := Try.underlying0
  a0 := Try.isAgg0
  z0 := Try.sizeOf0
  v0 := Try.zeroValue0
  t3 := Try.underlying3
  a3 := Try.isAgg3
  z3 := Try.sizeOf3
  v3 := Try.zeroValue3
  t4 := Try.underlying4
  a4 := Try.isAgg4
  z4 := Try.sizeOf4
  v4 := Try.zeroValue4
  t22 := Try.underlying22
  a22 := Try.isAgg22
  z22 := Try.sizeOf22
  v22 := Try.zeroValue22
  a23 := Try.isAgg9
  z23 := Try.sizeOf9
  t25 := Try.underlying45
  a25 := Try.isAgg45
  z25 := Try.sizeOf45
  v25 := Try.zeroValue45 }
def unsafeB (x : ByteArray) : Bool := (risk_Element.f x).getD false
theorem unsafe_f (x : ByteArray) : risk_Element.f x = some (unsafeB x) := by
  unfold unsafeB
  cases h : risk_Element.f x with
  | some b => rfl
  | none => exfalso; revert h; unfold risk_Element.f; (repeat' split) <;> intro h <;> cases h
theorem elem_calls_ (x : ByteArray) (w : World) : FnGives Try.prog 37 #[] #[.string x] (.bool (unsafeB x)) w := by
  refine (risk_Element.calls x _ w (unsafe_f x)).mono ?_
  rintro e w' ⟨rfl, n, rfl⟩
  exact ⟨rfl, n, rfl⟩
theorem eg37 : ∀ args w, (callFunc 37 args).run Try.prog w = .ok (.enter 37 args) w := fun args w => enters_ Try.func37 (by kernel_rfl) rfl args w
def keepB (l : List ByteArray) : List ByteArray := l.filter fun x => !unsafeB x
theorem del_calls {base : Nat} {ok : Nat → Prop} {w : World} {v : Value} {l : List ByteArray} (h : Kd.R Kd.string 9 w base ok v l) :
    Calls Try.prog 36 #[v, .func (.func 37) #[] #[]] w fun e w' => ∃ v', e = .returned v' ∧ Kd.R Kd.string 9 w' base ok v' (keepB l) ∧ v'.ownBlock = v.ownBlock ∧ w.grownBy w' v.ownBlock := by
  have ho := Kd.own_of_R (enc := Value.string) h
  by_cases hv : v = .slice none 0 0
  · subst hv
    have hl : l = [] := by
      have := ho.1
      rcases ho.2 with ⟨_, h2⟩ | ⟨g, cap, cur, h2, _⟩
      · exact List.eq_nil_of_length_eq_zero h2
      · cases h2
    subst hl
    have key := hid (idxStr_calls (A := none) (c := 0) (l := []) unsafeB 37 #[] eg37 w (Kd.R_reads' h).2.2 (fun _ _ _ h => by cases h))
    have hi : idxI unsafeB [] = -1 := by rfl
    rw [hi] at key
    have HR := hid (Kd.R_nil Kd.string 9 · base ok)
    have HG := hid (fun w' (hb : Below w.heap.size w w') => grown_of_below hb (Value.slice none 0 0).ownBlock)
    clear h ho
    go_enter Try.func36, Try.ntmps36
    go_wp2_with first
      | (go_at_call 65; refine key.out.mono ?_; rintro e w1 ⟨rfl, hb⟩)
    go_ret
    exact ⟨_, rfl, HR.out _, rfl, HG.out _ hb⟩
  · obtain ⟨g, cap, rfl, hb, hlt, hn, hm, hl, hH⟩ := holds_of_ownsRow ho hv
    have key := AnyE.slices_DeleteFunc delLay Value.string (fun _ => rfl) unsafeB 37 #[] eg37 ByteArray.empty Try.zeroValue9 g 0 cap l.toArray w
      (fun W x _ => elem_calls_ x W) (fun n os dk x _ => elem_calls_ x _) hH (by simp; unfold maxLen at hm; omega) (by simpa using hn)
    simp only [List.size_toArray] at key
    refine key.mono ?_
    rintro e w' ⟨rfl, q, rfl⟩
    have hle : (keepB l).length ≤ l.length := List.length_filter_le _ _
    refine ⟨_, rfl, ?_, rfl, ?_⟩
    · have := ownsRow_putRow (q := q) (k := (keepB l).length) (ys := keepB l ++ List.replicate (l.length - (keepB l).length) ByteArray.empty) ho (by simp; omega) hle
      rw [List.take_left' rfl] at this
      exact Kd.R_of_own (enc := Value.string) this (fun k hk => h.1 k hk)
    · refine ⟨rfl, rfl, rfl, by simp [putRow, mapBlock, Sort.ahead], fun k hk hne => ?_⟩
      have : g ≠ k := fun e => hne (by rw [e]; rfl)
      simp [putRow, mapBlock, Sort.ahead, Array.getElem?_modify, this]
theorem del_step {w0 W : World} (base : Nat) (v : Value) (l : List ByteArray) (ok : Nat → Prop) {Q : Ending → World → Prop} (HO : Kd.R Kd.string 9 W base ok v l) (HB : Below base w0 W) (hbase : base ≤ W.heap.size)
    (h : ∀ v1 w1, Kd.R Kd.string 9 w1 base ok v1 (keepB l) → Below base w0 w1 → W.grownBy w1 v.ownBlock → (v1.ownBlock = v.ownBlock ∨ ∃ b, v1.ownBlock = some b ∧ W.heap.size ≤ b) → Q (.returned v1) w1) :
    Calls Try.prog 36 #[v, .func (.func 37) #[] #[]] W Q := by
  refine (del_calls HO).mono ?_
  rintro e w1 ⟨v1, rfl, hR, he, hg⟩
  exact h v1 w1 hR (HB.grown hg hbase (Kd.R_base HO)) hg (.inl he)
end Go.Proofs.Ytjofofpplpmgjaa.Pr
namespace Go.Proofs.Ytjofofpplpmgjaa.Pr
open Go.RowKit Go.Proofs.YtjofofpplpmgjaaW.PrintWords Go.Proofs.YtjofofpplpmgjaaW.PrintLast Go.Proofs.YtjofofpplpmgjaaW.PrintMore
attribute [local go_sem] max2_int min2_int max_two min_two max_three min_three max_four min_four   -- for this text's walks alone
set_option linter.unusedVariables false
set_option linter.unusedSimpArgs false

def config_StripK.f (k : Nat) (a0_0 : Bool) (a0_1 : Bool) (l0_2 : List ByteArray) (l0_3 : List ByteArray) (l0_4 : List ByteArray) (l0_5 : List (S35)) (a0_6 : Bool) (a0_7 : Bool) : Option (Bool × Bool × List ByteArray × List ByteArray × List ByteArray × (List (S35)) × Bool × Bool) := (config_copied.f k a0_0 a0_1 l0_2 l0_3 l0_4 l0_5 a0_6 a0_7).bind fun bt209 => (if bt209.2.2.2.1.length + bt209.2.2.2.1.length < 8796093022208 then ((some (keepB bt209.2.2.2.1 : List ByteArray)).bind fun y225 => (if bt209.1 = true then (if bt209.2.2.1.length + bt209.2.2.1.length < 8796093022208 then (some (bt209.1, bt209.2.1, (keepB bt209.2.2.1), y225, bt209.2.2.2.2.1, bt209.2.2.2.2.2.1, bt209.2.2.2.2.2.2.1, bt209.2.2.2.2.2.2.2)) else (none)) else ((config_unsafe.f).bind fun t231 => ((fold_Minus.f k t231 bt209.2.2.1).bind fun t234 => (if bt209.2.2.1.length + t234.length < 8796093022208 then (some (bt209.1, bt209.2.1, (bt209.2.2.1 ++ t234), y225, bt209.2.2.2.2.1, bt209.2.2.2.2.2.1, bt209.2.2.2.2.2.2.1, bt209.2.2.2.2.2.2.2)) else (none)))))) else (none))
def config_StripK.T6 : Bool × List (List Nat × List Nat) := (true, [([], []), ([0], [0]), ([], []), ([], []), ([3], [3]), ([2, 4, 2], [2, 4]), ([1, 5, 5], [1, 5]), ([0, 1, 2, 3, 4, 5, 6], []), ([7, 6, 6, 0, 1, 2, 3, 4, 5, 6], [6, 7])])
def config_StripK.B6 : List Nat := [0, 1, 0, 0, 8, 28, 63, 127, 255]
theorem config_StripK.tab6 : rtab .any (opsOf Try.f17 6) = config_StripK.T6 := by kernel_rfl
theorem config_StripK.bits6 : waitsOk config_StripK.T6.2 config_StripK.B6 = true := by kernel_rfl
set_option maxHeartbeats 8000000 in
set_option maxRecDepth 100000 in
theorem config_StripK.calls (k : Nat) (a0_0 : Bool) (a0_1 : Bool) (A0_2 : Option Addr) (c0_2 : Nat) (l0_2 : List ByteArray) (A0_3 : Option Addr) (c0_3 : Nat) (l0_3 : List ByteArray) (A0_4 : Option Addr) (c0_4 : Nat) (l0_4 : List ByteArray) (A0_5 : Option Addr) (c0_5 : Nat) (l0_5 : List (S35)) (a0_6 : Bool) (a0_7 : Bool) (r1 : Bool) (r2 : Bool) (r3 : List ByteArray) (r4 : List ByteArray) (r5 : List ByteArray) (r6 : List (S35)) (r7 : Bool) (r8 : Bool) (w : World) (hr0_2 : Kd.C Kd.string w A0_2 l0_2.length l0_2) (hc0_2 : l0_2.length ≤ c0_2) (hr0_3 : Kd.C Kd.string w A0_3 l0_3.length l0_3) (hc0_3 : l0_3.length ≤ c0_3) (hr0_4 : Kd.C Kd.string w A0_4 l0_4.length l0_4) (hc0_4 : l0_4.length ≤ c0_4) (okp : Nat → Prop) (hokp : ∀ k, okp k → k < w.heap.size) (hr0_5 : Shares okp w A0_5 l0_5.length l0_5) (hc0_5 : l0_5.length ≤ c0_5) (h : config_StripK.f k a0_0 a0_1 l0_2 l0_3 l0_4 l0_5 a0_6 a0_7 = some (r1, r2, r3, r4, r5, r6, r7, r8)) :
  Calls Try.prog 17 #[.agg #[.bool a0_0, .bool a0_1, .slice A0_2 l0_2.length c0_2, .slice A0_3 l0_3.length c0_3, .slice A0_4 l0_4.length c0_4, .slice A0_5 l0_5.length c0_5, .bool a0_6, .bool a0_7]] w fun e w' => ∃ v2_ v3_ v4_ v5_ : Value, e = .returned (.agg #[.bool r1, .bool r2, v2_, v3_, v4_, v5_, .bool r7, .bool r8]) ∧ Kd.R Kd.string 9 w' w.heap.size (fun k_ => (w.heap.size ≤ k_) ∧ some k_ ≠ (v3_ : Value).ownBlock ∧ some k_ ≠ (v4_ : Value).ownBlock) v2_ r3 ∧ Kd.R Kd.string 9 w' w.heap.size (fun k_ => (w.heap.size ≤ k_) ∧ some k_ ≠ (v2_ : Value).ownBlock ∧ some k_ ≠ (v4_ : Value).ownBlock) v3_ r4 ∧ Kd.R Kd.string 9 w' w.heap.size (fun k_ => (w.heap.size ≤ k_) ∧ some k_ ≠ (v2_ : Value).ownBlock ∧ some k_ ≠ (v3_ : Value).ownBlock) v4_ r5 ∧ Kd.N k35 35 w' w.heap.size (fun k_ => (w.heap.size ≤ k_ ∨ okp k_) ∧ some k_ ≠ (v2_ : Value).ownBlock ∧ some k_ ≠ (v3_ : Value).ownBlock ∧ some k_ ≠ (v4_ : Value).ownBlock) v5_ r6 ∧ Below w.heap.size w w' := by
 have hu25 := Try.underlying25
 have HR0_2 := Aside0.mk hr0_2
 have HC0_2 := Aside0.mk hc0_2
 clear hr0_2 hc0_2
 have HR0_3 := Aside0.mk hr0_3
 have HC0_3 := Aside0.mk hc0_3
 clear hr0_3 hc0_3
 have HR0_4 := Aside0.mk hr0_4
 have HC0_4 := Aside0.mk hc0_4
 clear hr0_4 hc0_4
 have HW0 := Aside0.mk hokp
 clear hokp
 have HR0_5 := Aside0.mk hr0_5
 have HC0_5 := Aside0.mk hc0_5
 clear hr0_5 hc0_5
 have HB := Aside0.mk (Below.refl w.heap.size w)
 have H : ((config_copied.f k a0_0 a0_1 l0_2 l0_3 l0_4 l0_5 a0_6 a0_7).bind fun bt209 => (if bt209.2.2.2.1.length + bt209.2.2.2.1.length < 8796093022208 then ((some (keepB bt209.2.2.2.1 : List ByteArray)).bind fun y225 => (if bt209.1 = true then (if bt209.2.2.1.length + bt209.2.2.1.length < 8796093022208 then (some (bt209.1, bt209.2.1, (keepB bt209.2.2.1), y225, bt209.2.2.2.2.1, bt209.2.2.2.2.2.1, bt209.2.2.2.2.2.2.1, bt209.2.2.2.2.2.2.2)) else (none)) else ((config_unsafe.f).bind fun t231 => ((fold_Minus.f k t231 bt209.2.2.1).bind fun t234 => (if bt209.2.2.1.length + t234.length < 8796093022208 then (some (bt209.1, bt209.2.1, (bt209.2.2.1 ++ t234), y225, bt209.2.2.2.2.1, bt209.2.2.2.2.2.1, bt209.2.2.2.2.2.2.1, bt209.2.2.2.2.2.2.2)) else (none)))))) else (none))) = some (r1, r2, r3, r4, r5, r6, r7, r8) := h
 clear h
 replace H := Option.bind_eq_some_iff.mp H
 obtain ⟨⟨t209, t210, t211, t214, t217, t220, t223, t224⟩, A20, H⟩ := H
 try dsimp only at H
 have A2 := Aside0.mk A20
 clear A20
 by_cases c3 : t214.length + t214.length < 8796093022208
 ·rw [if_pos c3] at H
  have LMc3 := Aside0.mk c3
  clear c3
  obtain ⟨y225, hy225⟩ : ∃ y_ : List ByteArray, y_ = (keepB t214) := ⟨_, rfl⟩
  replace H : (if t209 = true then (if t211.length + t211.length < 8796093022208 then (some (t209, t210, (keepB t211), y225, t217, t220, t223, t224)) else (none)) else ((config_unsafe.f).bind fun t231 => ((fold_Minus.f k t231 t211).bind fun t234 => (if t211.length + t234.length < 8796093022208 then (some (t209, t210, (t211 ++ t234), y225, t217, t220, t223, t224)) else (none))))) = some (r1, r2, r3, r4, r5, r6, r7, r8) := by first | (rw [hy225]; with_reducible exact H) | (have H2_ := (Option.bind_some _ _).symm.trans H; rw [hy225]; with_reducible exact H2_) | (have H2_ := (Option.bind_some _ _).symm.trans H; with_reducible exact H2_) | with_reducible exact H | (rw [hy225]; exact H) | exact H
  have Ny225 := Aside0.mk hy225
  clear hy225
  by_cases c4 : t209 = true
  ·subst c4
   replace H : (if t211.length + t211.length < 8796093022208 then (some (true, t210, (keepB t211), y225, t217, t220, t223, t224)) else (none)) = some (r1, r2, r3, r4, r5, r6, r7, r8) := by rw [if_pos rfl] at H; exact H
   by_cases c5 : t211.length + t211.length < 8796093022208
   ·rw [if_pos c5] at H
    have LMc5 := Aside0.mk c5
    clear c5
    obtain ⟨y228, hy228⟩ : ∃ y_ : List ByteArray, y_ = (keepB t211) := ⟨_, rfl⟩
    replace H : (some (true, t210, y228, y225, t217, t220, t223, t224)) = some (r1, r2, r3, r4, r5, r6, r7, r8) := by first | (rw [hy228]; with_reducible exact H) | (have H2_ := (Option.bind_some _ _).symm.trans H; rw [hy228]; with_reducible exact H2_) | (have H2_ := (Option.bind_some _ _).symm.trans H; with_reducible exact H2_) | with_reducible exact H | (rw [hy228]; exact H) | exact H
    have Ny228 := Aside0.mk hy228
    clear hy228
    simp only [Option.some.injEq, Prod.mk.injEq] at H
    obtain ⟨rfl, rfl, rfl, rfl, rfl, rfl, rfl, rfl⟩ := H
    go_enter Try.func17, Try.ntmps17
    go_wp2_with (first | ((with_reducible refine gate_dst (N := 1) rfl ?_); refine box_event ?hg (N := 1) ?hd (cs := #[.bool a0_0, .bool a0_1, .slice A0_2 l0_2.length c0_2, .slice A0_3 l0_3.length c0_3, .slice A0_4 l0_4.length c0_4, .slice A0_5 l0_5.length c0_5, .bool a0_6, .bool a0_7]) (t := 25) ?hr ?_; (case hd => rfl); (case hg => rfl); (case hr => first | (go_simp; done) | (go_simp; rfl)); intro gb207 hg w6 hbox hb; have n0_ := Aside0.mk (below_step (by repeat (first | (with_reducible first | exact HB.out | apply below_alloc | apply pw_below_drewN | apply below_drew1) | exact HB.out)) hb); have n1_ := Aside0.mk (hbox); have n2_ := Aside0.mk ((by rw [hg]; exact (below_size (by repeat (first | (with_reducible first | exact HB.out | apply below_alloc | apply pw_below_drewN | apply below_drew1) | exact HB.out))) : w.heap.size ≤ gb207)); have n3_ := Aside0.mk ((by rw [hg]; exact (below_size (by repeat (first | (with_reducible first | exact HB.out | apply below_alloc | apply pw_below_drewN | apply below_drew1) | exact HB.out))) : w.heap.size ≤ gb207)); clear HB; have HB := n0_; have BK207 := n1_; have GW207 := n2_; have GE207 := n3_; clear n0_ n1_ n2_ n3_; clear hb hbox hg) | ((with_reducible refine gate_dst (N := 2) rfl ?_); refine box_event ?hg (N := 2) ?hd (cs := #[.bool false, .bool false, .slice none 0 0, .slice none 0 0, .slice none 0 0, .slice none 0 0, .bool false, .bool false]) (t := 25) ?hr ?_; (case hd => rfl); (case hg => rfl); (case hr => first | (go_simp; done) | (go_simp; rfl)); intro gb208 hg w7 hbox hb; have n0_ := Aside0.mk (blk_below (g := gb207) (o := .cells #[.bool a0_0, .bool a0_1, .slice A0_2 l0_2.length c0_2, .slice A0_3 l0_3.length c0_3, .slice A0_4 l0_4.length c0_4, .slice A0_5 l0_5.length c0_5, .bool a0_6, .bool a0_7] 25 (0, 0)) (by exact BK207.out) hb); have n1_ := Aside0.mk (below_step (by repeat (first | (with_reducible first | exact HB.out | apply below_alloc | apply pw_below_drewN | apply below_drew1 | refine below_set ?_ GE207.out) | exact HB.out)) hb); have n2_ := Aside0.mk (hbox); have n3_ := Aside0.mk ((by rw [hg]; exact (below_size (by repeat (first | (with_reducible first | exact HB.out | apply below_alloc | apply pw_below_drewN | apply below_drew1 | refine below_set ?_ GE207.out) | exact HB.out))) : w.heap.size ≤ gb208)); have n4_ := Aside0.mk ((by rw [hg]; exact (below_size (by repeat (first | (with_reducible first | exact HB.out | apply below_alloc | apply pw_below_drewN | apply below_drew1 | refine below_set ?_ GE207.out) | exact HB.out))) : w.heap.size ≤ gb208)); have n5_ := Aside0.mk ((by rw [hg]; exact Nat.ne_of_lt (blk_lt (g := gb207) (o := .cells #[.bool a0_0, .bool a0_1, .slice A0_2 l0_2.length c0_2, .slice A0_3 l0_3.length c0_3, .slice A0_4 l0_4.length c0_4, .slice A0_5 l0_5.length c0_5, .bool a0_6, .bool a0_7] 25 (0, 0)) (by exact BK207.out)) : gb207 ≠ gb208)); have n6_ := Aside0.mk ((by rw [hg]; exact Nat.ne_of_gt (blk_lt (g := gb207) (o := .cells #[.bool a0_0, .bool a0_1, .slice A0_2 l0_2.length c0_2, .slice A0_3 l0_3.length c0_3, .slice A0_4 l0_4.length c0_4, .slice A0_5 l0_5.length c0_5, .bool a0_6, .bool a0_7] 25 (0, 0)) (by exact BK207.out)) : gb208 ≠ gb207)); clear BK207; clear HB; have BK207 := n0_; have HB := n1_; have BK208 := n2_; have GW208 := n3_; have GE208 := n4_; have NB207_208 := n5_; have NB208_207 := n6_; clear n0_ n1_ n2_ n3_ n4_ n5_ n6_; clear hb hbox hg; have hnb8 := NB207_208.out; have hnc8 := NB208_207.out; have hcz9_0 : w7.cell? ⟨gb207, 0, none⟩ = some (.bool a0_0) := (blk_cell BK207.out 0).trans rfl; have hcz9_1 : w7.cell? ⟨gb207, 1, none⟩ = some (.bool a0_1) := (blk_cell BK207.out 1).trans rfl; have hcz9_2 : w7.cell? ⟨gb207, 2, none⟩ = some (.slice A0_2 l0_2.length c0_2) := (blk_cell BK207.out 2).trans rfl; have hcz9_3 : w7.cell? ⟨gb207, 3, none⟩ = some (.slice A0_3 l0_3.length c0_3) := (blk_cell BK207.out 3).trans rfl; have hcz9_4 : w7.cell? ⟨gb207, 4, none⟩ = some (.slice A0_4 l0_4.length c0_4) := (blk_cell BK207.out 4).trans rfl; have hcz9_5 : w7.cell? ⟨gb207, 5, none⟩ = some (.slice A0_5 l0_5.length c0_5) := (blk_cell BK207.out 5).trans rfl; have hcz9_6 : w7.cell? ⟨gb207, 6, none⟩ = some (.bool a0_6) := (blk_cell BK207.out 6).trans rfl; have hcz9_7 : w7.cell? ⟨gb207, 7, none⟩ = some (.bool a0_7) := (blk_cell BK207.out 7).trans rfl; have hfz9_0 := blk_frozen BK207.out 0; have hfz9_1 := blk_frozen BK207.out 1; have hfz9_2 := blk_frozen BK207.out 2; have hfz9_3 := blk_frozen BK207.out 3; have hfz9_4 := blk_frozen BK207.out 4; have hfz9_5 := blk_frozen BK207.out 5; have hfz9_6 := blk_frozen BK207.out 6; have hfz9_7 := blk_frozen BK207.out 7) | ((with_reducible refine gate_callee (f := 35) rfl ?_); refine goesL_ (some 4) rfl rfl Try.func35 (by kernel_rfl) rfl #[.agg #[.bool a0_0, .bool a0_1, .slice A0_2 l0_2.length c0_2, .slice A0_3 l0_3.length c0_3, .slice A0_4 l0_4.length c0_4, .slice A0_5 l0_5.length c0_5, .bool a0_6, .bool a0_7]] rfl (by (try simp only [List.map_toArray, List.map_cons, List.map_nil]); first | done | rfl | (simp only [List.length_drop, List.length_take]; rfl)) ?_; (with_reducible refine (config_copied.calls k a0_0 a0_1 _ _ l0_2 _ _ l0_3 _ _ l0_4 _ _ l0_5 a0_6 a0_7 true t210 t211 t214 t217 t220 t223 t224 _ ?side1 ?side2 ?side3 ?side4 ?side5 ?side6 okp ?side0 ?side7 ?side8 A2.out).mono ?_); (case side0 => exact fun k_ h_ => Nat.lt_of_lt_of_le (HW0.out k_ h_) (below_size (by repeat (first | (with_reducible first | exact HB.out | apply below_alloc | apply pw_below_drewN | apply below_drew1 | refine below_set ?_ GE207.out | refine below_set ?_ GE208.out) | exact HB.out)))); (case side1 => repeat (first | exact (Kd.C_below HR0_2.out HB.out) | (with_reducible refine Kd.C_alloc ?_ _) | (with_reducible refine Kd.C_drewN ?_ _) | (with_reducible refine Kd.C_drew ?_))); (case side2 => exact HC0_2.out); (case side3 => repeat (first | exact (Kd.C_below HR0_3.out HB.out) | (with_reducible refine Kd.C_alloc ?_ _) | (with_reducible refine Kd.C_drewN ?_ _) | (with_reducible refine Kd.C_drew ?_))); (case side4 => exact HC0_3.out); (case side5 => repeat (first | exact (Kd.C_below HR0_4.out HB.out) | (with_reducible refine Kd.C_alloc ?_ _) | (with_reducible refine Kd.C_drewN ?_ _) | (with_reducible refine Kd.C_drew ?_))); (case side6 => exact HC0_4.out); (case side7 => exact Shares.below HR0_5.out (by repeat (first | (with_reducible first | exact HB.out | apply below_alloc | apply pw_below_drewN | apply below_drew1 | refine below_set ?_ GE207.out | refine below_set ?_ GE208.out) | exact HB.out))); (case side8 => exact HC0_5.out); rintro e w10 ⟨v212, v215, v218, v221, rfl, ho0, ho1, ho2, ho3, hb⟩; refine ⟨_, rfl, ?_⟩; have n0_ := Aside0.mk (Kd.R_lower (Kd.R_newM (M := fun k_ => (w.heap.size ≤ k_)) (Kd.R_mono (ok' := fun k_ => some k_ ≠ (v215 : Value).ownBlock ∧ some k_ ≠ (v218 : Value).ownBlock) ho0 (fun _ hk_ => hk_.2)) (below_size (by repeat (first | (with_reducible first | exact HB.out | apply below_alloc | apply pw_below_drewN | apply below_drew1 | refine below_set ?_ GE207.out | refine below_set ?_ GE208.out) | exact HB.out))) (fun k_ h_ => h_)) (below_size (by repeat (first | (with_reducible first | exact HB.out | apply below_alloc | apply pw_below_drewN | apply below_drew1 | refine below_set ?_ GE207.out | refine below_set ?_ GE208.out) | exact HB.out)))); have n1_ := Aside0.mk (Kd.R_lower (Kd.R_newM (M := fun k_ => (w.heap.size ≤ k_)) (Kd.R_mono (ok' := fun k_ => some k_ ≠ (v212 : Value).ownBlock ∧ some k_ ≠ (v218 : Value).ownBlock) ho1 (fun _ hk_ => hk_.2)) (below_size (by repeat (first | (with_reducible first | exact HB.out | apply below_alloc | apply pw_below_drewN | apply below_drew1 | refine below_set ?_ GE207.out | refine below_set ?_ GE208.out) | exact HB.out))) (fun k_ h_ => h_)) (below_size (by repeat (first | (with_reducible first | exact HB.out | apply below_alloc | apply pw_below_drewN | apply below_drew1 | refine below_set ?_ GE207.out | refine below_set ?_ GE208.out) | exact HB.out)))); have n2_ := Aside0.mk (Kd.R_lower (Kd.R_newM (M := fun k_ => (w.heap.size ≤ k_)) (Kd.R_mono (ok' := fun k_ => some k_ ≠ (v212 : Value).ownBlock ∧ some k_ ≠ (v215 : Value).ownBlock) ho2 (fun _ hk_ => hk_.2)) (below_size (by repeat (first | (with_reducible first | exact HB.out | apply below_alloc | apply pw_below_drewN | apply below_drew1 | refine below_set ?_ GE207.out | refine below_set ?_ GE208.out) | exact HB.out))) (fun k_ h_ => h_)) (below_size (by repeat (first | (with_reducible first | exact HB.out | apply below_alloc | apply pw_below_drewN | apply below_drew1 | refine below_set ?_ GE207.out | refine below_set ?_ GE208.out) | exact HB.out)))); have n3_ := Aside0.mk (Kd.N_lower (Kd.N_mono (ok' := fun k_ => (w.heap.size ≤ k_ ∨ okp k_) ∧ some k_ ≠ (v212 : Value).ownBlock ∧ some k_ ≠ (v215 : Value).ownBlock ∧ some k_ ≠ (v218 : Value).ownBlock ∧ k_ ≠ gb207 ∧ k_ ≠ gb208) ho3 (fun k_ hk_ => ⟨(hk_.1.elim (fun h_ => .inl (Nat.le_trans (below_size (by repeat (first | (with_reducible first | exact HB.out | apply below_alloc | apply pw_below_drewN | apply below_drew1 | refine below_set ?_ GE207.out | refine below_set ?_ GE208.out) | exact HB.out))) h_)) .inr), hk_.2.1, hk_.2.2.1, hk_.2.2.2, (hk_.1.elim (fun h_ => (Kd.freshB (g := gb207) (o := .cells #[.bool a0_0, .bool a0_1, .slice A0_2 l0_2.length c0_2, .slice A0_3 l0_3.length c0_3, .slice A0_4 l0_4.length c0_4, .slice A0_5 l0_5.length c0_5, .bool a0_6, .bool a0_7] 25 (0, 0)) (by exact BK207.out) k_ h_)) (fun h_ e_ => by have := GE207.out; have := HW0.out k_ h_; omega)), (hk_.1.elim (fun h_ => (Kd.freshB (g := gb208) (o := .cells #[.bool false, .bool false, .slice none 0 0, .slice none 0 0, .slice none 0 0, .slice none 0 0, .bool false, .bool false] 25 (0, 0)) (by exact BK208.out) k_ h_)) (fun h_ e_ => by have := GE208.out; have := HW0.out k_ h_; omega))⟩)) (below_size (by repeat (first | (with_reducible first | exact HB.out | apply below_alloc | apply pw_below_drewN | apply below_drew1 | refine below_set ?_ GE207.out | refine below_set ?_ GE208.out) | exact HB.out)))); have n4_ := Aside0.mk (blk_below (g := gb207) (o := .cells #[.bool a0_0, .bool a0_1, .slice A0_2 l0_2.length c0_2, .slice A0_3 l0_3.length c0_3, .slice A0_4 l0_4.length c0_4, .slice A0_5 l0_5.length c0_5, .bool a0_6, .bool a0_7] 25 (0, 0)) (by exact BK207.out) hb); have n5_ := Aside0.mk (blk_below (g := gb208) (o := .cells #[.bool false, .bool false, .slice none 0 0, .slice none 0 0, .slice none 0 0, .slice none 0 0, .bool false, .bool false] 25 (0, 0)) (by exact BK208.out) hb); have n6_ := Aside0.mk (below_step (by repeat (first | (with_reducible first | exact HB.out | apply below_alloc | apply pw_below_drewN | apply below_drew1 | refine below_set ?_ GE207.out | refine below_set ?_ GE208.out) | exact HB.out)) hb); clear BK207; clear BK208; clear HB; have HO213 := n0_; have HO216 := n1_; have HO219 := n2_; have HO222 := n3_; have BK207 := n4_; have BK208 := n5_; have HB := n6_; clear n0_ n1_ n2_ n3_ n4_ n5_ n6_; (try clear hb); (try clear hb2); (try clear hk); (try clear hi); (try clear ho0); (try clear ho1); (try clear ho2); (try clear ho3); have hcz11_0 : w10.cell? ⟨gb207, 0, none⟩ = some (.bool a0_0) := (blk_cell BK207.out 0).trans rfl; have hcz11_1 : w10.cell? ⟨gb207, 1, none⟩ = some (.bool a0_1) := (blk_cell BK207.out 1).trans rfl; have hcz11_2 : w10.cell? ⟨gb207, 2, none⟩ = some (.slice A0_2 l0_2.length c0_2) := (blk_cell BK207.out 2).trans rfl; have hcz11_3 : w10.cell? ⟨gb207, 3, none⟩ = some (.slice A0_3 l0_3.length c0_3) := (blk_cell BK207.out 3).trans rfl; have hcz11_4 : w10.cell? ⟨gb207, 4, none⟩ = some (.slice A0_4 l0_4.length c0_4) := (blk_cell BK207.out 4).trans rfl; have hcz11_5 : w10.cell? ⟨gb207, 5, none⟩ = some (.slice A0_5 l0_5.length c0_5) := (blk_cell BK207.out 5).trans rfl; have hcz11_6 : w10.cell? ⟨gb207, 6, none⟩ = some (.bool a0_6) := (blk_cell BK207.out 6).trans rfl; have hcz11_7 : w10.cell? ⟨gb207, 7, none⟩ = some (.bool a0_7) := (blk_cell BK207.out 7).trans rfl; have hfz11_0 := blk_frozen BK207.out 0; have hfz11_1 := blk_frozen BK207.out 1; have hfz11_2 := blk_frozen BK207.out 2; have hfz11_3 := blk_frozen BK207.out 3; have hfz11_4 := blk_frozen BK207.out 4; have hfz11_5 := blk_frozen BK207.out 5; have hfz11_6 := blk_frozen BK207.out 6; have hfz11_7 := blk_frozen BK207.out 7; obtain ⟨Ao12, co12, eo12⟩ := Kd.R_slice HO213.out; subst eo12; obtain ⟨Ao13, co13, eo13⟩ := Kd.R_slice HO216.out; subst eo13; obtain ⟨Ao14, co14, eo14⟩ := Kd.R_slice HO219.out; subst eo14; obtain ⟨Ao15, co15, eo15⟩ := Kd.N_slice HO222.out; subst eo15) | ((with_reducible refine gate_callee (f := 36) rfl ?_); refine goesL_ (some 7) rfl rfl Try.func36 (by kernel_rfl) rfl #[(.slice Ao13 t214.length co13), .func (.func 37) #[] #[]] rfl (by (try simp only [List.map_toArray, List.map_cons, List.map_nil]); first | done | rfl | (simp only [List.length_drop, List.length_take]; rfl)) ?_; refine del_step (w0 := w) w.heap.size (.slice Ao13 t214.length co13) t214 (fun k_ => (w.heap.size ≤ k_) ∧ some k_ ≠ (.slice Ao12 t211.length co12 : Value).ownBlock ∧ some k_ ≠ (.slice Ao14 t217.length co14 : Value).ownBlock) ?aO ?aB ?aS ?_; (case aB => exact (by repeat (first | (with_reducible first | exact HB.out | apply below_alloc | apply pw_below_drewN | apply below_drew1 | refine below_set ?_ GE207.out | refine below_set ?_ GE208.out) | exact HB.out))); (case aO => exact (by exact Kd.R_mono (Kd.R_far (p := ⟨gb207, 7, none⟩) (Kd.R_far (p := ⟨gb207, 6, none⟩) (Kd.R_far (p := ⟨gb207, 5, none⟩) (Kd.R_far (p := ⟨gb207, 4, none⟩) (Kd.R_far (p := ⟨gb207, 3, none⟩) (Kd.R_far (p := ⟨gb207, 2, none⟩) (Kd.R_far (p := ⟨gb207, 1, none⟩) (Kd.R_far (p := ⟨gb207, 0, none⟩) (Kd.R_types HO216.out BK207.out (by decide)) (fun _ hk => hk.2) (.bool true)) (fun _ hk => hk.2) (.bool t210)) (fun _ hk => hk.2) (.slice Ao12 t211.length co12)) (fun _ hk => hk.2) (.slice Ao13 t214.length co13)) (fun _ hk => hk.2) (.slice Ao14 t217.length co14)) (fun _ hk => hk.2) (.slice Ao15 t220.length co15)) (fun _ hk => hk.2) (.bool t223)) (fun _ hk => hk.2) (.bool t224)) (fun _ hk => ⟨hk.1.1, ⟨hk.1.2.1, hk.1.2.2⟩⟩))); (case aS => exact (below_size (by repeat (first | (with_reducible first | exact HB.out | apply below_alloc | apply pw_below_drewN | apply below_drew1 | refine below_set ?_ GE207.out | refine below_set ?_ GE208.out) | exact HB.out)))); intro v226 w16 ho hb hg hat; refine ⟨_, rfl, ?_⟩; rw [← Ny225.out] at ho; have n0_ := Aside0.mk (blk_grown (g := gb207) (o := .cells #[.bool true, .bool t210, .slice Ao12 t211.length co12, .slice Ao13 t214.length co13, .slice Ao14 t217.length co14, .slice Ao15 t220.length co15, .bool t223, .bool t224] 25 (0, 0)) (by refine blk_put (cs := #[.bool true, .bool t210, .slice Ao12 t211.length co12, .slice Ao13 t214.length co13, .slice Ao14 t217.length co14, .slice Ao15 t220.length co15, .bool t223, .bool a0_7]) ?_ 7 _ rfl; refine blk_put (cs := #[.bool true, .bool t210, .slice Ao12 t211.length co12, .slice Ao13 t214.length co13, .slice Ao14 t217.length co14, .slice Ao15 t220.length co15, .bool a0_6, .bool a0_7]) ?_ 6 _ rfl; refine blk_put (cs := #[.bool true, .bool t210, .slice Ao12 t211.length co12, .slice Ao13 t214.length co13, .slice Ao14 t217.length co14, .slice A0_5 l0_5.length c0_5, .bool a0_6, .bool a0_7]) ?_ 5 _ rfl; refine blk_put (cs := #[.bool true, .bool t210, .slice Ao12 t211.length co12, .slice Ao13 t214.length co13, .slice A0_4 l0_4.length c0_4, .slice A0_5 l0_5.length c0_5, .bool a0_6, .bool a0_7]) ?_ 4 _ rfl; refine blk_put (cs := #[.bool true, .bool t210, .slice Ao12 t211.length co12, .slice A0_3 l0_3.length c0_3, .slice A0_4 l0_4.length c0_4, .slice A0_5 l0_5.length c0_5, .bool a0_6, .bool a0_7]) ?_ 3 _ rfl; refine blk_put (cs := #[.bool true, .bool t210, .slice A0_2 l0_2.length c0_2, .slice A0_3 l0_3.length c0_3, .slice A0_4 l0_4.length c0_4, .slice A0_5 l0_5.length c0_5, .bool a0_6, .bool a0_7]) ?_ 2 _ rfl; refine blk_put (cs := #[.bool true, .bool a0_1, .slice A0_2 l0_2.length c0_2, .slice A0_3 l0_3.length c0_3, .slice A0_4 l0_4.length c0_4, .slice A0_5 l0_5.length c0_5, .bool a0_6, .bool a0_7]) ?_ 1 _ rfl; refine blk_put (cs := #[.bool a0_0, .bool a0_1, .slice A0_2 l0_2.length c0_2, .slice A0_3 l0_3.length c0_3, .slice A0_4 l0_4.length c0_4, .slice A0_5 l0_5.length c0_5, .bool a0_6, .bool a0_7]) ?_ 0 _ rfl; exact BK207.out) hg (Kd.R_ne HO216.out BK207.out (by decide))); have n1_ := Aside0.mk (blk_grown (g := gb208) (o := .cells #[.bool false, .bool false, .slice none 0 0, .slice none 0 0, .slice none 0 0, .slice none 0 0, .bool false, .bool false] 25 (0, 0)) (by refine blk_far ?_ NB208_207.out _; refine blk_far ?_ NB208_207.out _; refine blk_far ?_ NB208_207.out _; refine blk_far ?_ NB208_207.out _; refine blk_far ?_ NB208_207.out _; refine blk_far ?_ NB208_207.out _; refine blk_far ?_ NB208_207.out _; refine blk_far ?_ NB208_207.out _; exact BK208.out) hg (Kd.R_ne HO216.out BK208.out (by decide))); have n2_ := Aside0.mk (Kd.R_after (ok := (fun k_ => (w.heap.size ≤ k_) ∧ some k_ ≠ (.slice Ao14 t217.length co14 : Value).ownBlock)) (by exact Kd.R_mono (Kd.R_far (p := ⟨gb207, 7, none⟩) (Kd.R_far (p := ⟨gb207, 6, none⟩) (Kd.R_far (p := ⟨gb207, 5, none⟩) (Kd.R_far (p := ⟨gb207, 4, none⟩) (Kd.R_far (p := ⟨gb207, 3, none⟩) (Kd.R_far (p := ⟨gb207, 2, none⟩) (Kd.R_far (p := ⟨gb207, 1, none⟩) (Kd.R_far (p := ⟨gb207, 0, none⟩) (Kd.R_types HO213.out BK207.out (by decide)) (fun _ hk => hk.2) (.bool true)) (fun _ hk => hk.2) (.bool t210)) (fun _ hk => hk.2) (.slice Ao12 t211.length co12)) (fun _ hk => hk.2) (.slice Ao13 t214.length co13)) (fun _ hk => hk.2) (.slice Ao14 t217.length co14)) (fun _ hk => hk.2) (.slice Ao15 t220.length co15)) (fun _ hk => hk.2) (.bool t223)) (fun _ hk => hk.2) (.bool t224)) (fun _ hk => ⟨⟨hk.1.1, hk.1.2.2⟩, hk.1.2.1⟩)) hg hat); have n3_ := Aside0.mk (Kd.R_after (ok := (fun k_ => (w.heap.size ≤ k_) ∧ some k_ ≠ (.slice Ao12 t211.length co12 : Value).ownBlock)) (by exact Kd.R_mono (Kd.R_far (p := ⟨gb207, 7, none⟩) (Kd.R_far (p := ⟨gb207, 6, none⟩) (Kd.R_far (p := ⟨gb207, 5, none⟩) (Kd.R_far (p := ⟨gb207, 4, none⟩) (Kd.R_far (p := ⟨gb207, 3, none⟩) (Kd.R_far (p := ⟨gb207, 2, none⟩) (Kd.R_far (p := ⟨gb207, 1, none⟩) (Kd.R_far (p := ⟨gb207, 0, none⟩) (Kd.R_types HO219.out BK207.out (by decide)) (fun _ hk => hk.2) (.bool true)) (fun _ hk => hk.2) (.bool t210)) (fun _ hk => hk.2) (.slice Ao12 t211.length co12)) (fun _ hk => hk.2) (.slice Ao13 t214.length co13)) (fun _ hk => hk.2) (.slice Ao14 t217.length co14)) (fun _ hk => hk.2) (.slice Ao15 t220.length co15)) (fun _ hk => hk.2) (.bool t223)) (fun _ hk => hk.2) (.bool t224)) (fun _ hk => ⟨⟨hk.1.1, hk.1.2.1⟩, hk.1.2.2⟩)) hg hat); have n4_ := Aside0.mk (Kd.N_afterv (ok := (fun k_ => (w.heap.size ≤ k_ ∨ okp k_) ∧ some k_ ≠ (.slice Ao12 t211.length co12 : Value).ownBlock ∧ some k_ ≠ (.slice Ao14 t217.length co14 : Value).ownBlock ∧ k_ ≠ gb207 ∧ k_ ≠ gb208)) (by exact Kd.N_mono (Kd.N_far (p := ⟨gb207, 7, none⟩) (Kd.N_far (p := ⟨gb207, 6, none⟩) (Kd.N_far (p := ⟨gb207, 5, none⟩) (Kd.N_far (p := ⟨gb207, 4, none⟩) (Kd.N_far (p := ⟨gb207, 3, none⟩) (Kd.N_far (p := ⟨gb207, 2, none⟩) (Kd.N_far (p := ⟨gb207, 1, none⟩) (Kd.N_far (p := ⟨gb207, 0, none⟩) (Kd.N_mono HO222.out (fun k_ hk => (⟨hk, hk.2.2.2.2.1⟩ : _ ∧ k_ ≠ gb207))) (fun _ hk => hk.2) (.bool true)) (fun _ hk => hk.2) (.bool t210)) (fun _ hk => hk.2) (.slice Ao12 t211.length co12)) (fun _ hk => hk.2) (.slice Ao13 t214.length co13)) (fun _ hk => hk.2) (.slice Ao14 t217.length co14)) (fun _ hk => hk.2) (.slice Ao15 t220.length co15)) (fun _ hk => hk.2) (.bool t223)) (fun _ hk => hk.2) (.bool t224)) (fun _ hk => ⟨⟨hk.1.1, ⟨hk.1.2.1, ⟨hk.1.2.2.2.1, ⟨hk.1.2.2.2.2.1, hk.1.2.2.2.2.2⟩⟩⟩⟩, hk.1.2.2.1⟩)) hg hat); have n5_ := Aside0.mk (hb); have n6_ := Aside0.mk (ho); clear BK207; clear BK208; clear HO213; clear HO219; clear HO222; clear HB; clear HO216; have BK207 := n0_; have BK208 := n1_; have HO213 := n2_; have HO219 := n3_; have HO222 := n4_; have HB := n5_; have HO227 := n6_; clear n0_ n1_ n2_ n3_ n4_ n5_ n6_; clear ho hb hg hat; obtain ⟨Ao17, co17, eo17⟩ := Kd.R_slice HO227.out; subst eo17; have hcz18_0 : w16.cell? ⟨gb207, 0, none⟩ = some (.bool true) := (blk_cell BK207.out 0).trans rfl; have hcz18_1 : w16.cell? ⟨gb207, 1, none⟩ = some (.bool t210) := (blk_cell BK207.out 1).trans rfl; have hcz18_2 : w16.cell? ⟨gb207, 2, none⟩ = some (.slice Ao12 t211.length co12) := (blk_cell BK207.out 2).trans rfl; have hcz18_3 : w16.cell? ⟨gb207, 3, none⟩ = some (.slice Ao13 t214.length co13) := (blk_cell BK207.out 3).trans rfl; have hcz18_4 : w16.cell? ⟨gb207, 4, none⟩ = some (.slice Ao14 t217.length co14) := (blk_cell BK207.out 4).trans rfl; have hcz18_5 : w16.cell? ⟨gb207, 5, none⟩ = some (.slice Ao15 t220.length co15) := (blk_cell BK207.out 5).trans rfl; have hcz18_6 : w16.cell? ⟨gb207, 6, none⟩ = some (.bool t223) := (blk_cell BK207.out 6).trans rfl; have hcz18_7 : w16.cell? ⟨gb207, 7, none⟩ = some (.bool t224) := (blk_cell BK207.out 7).trans rfl; have hfz18_0 := blk_frozen BK207.out 0; have hfz18_1 := blk_frozen BK207.out 1; have hfz18_2 := blk_frozen BK207.out 2; have hfz18_3 := blk_frozen BK207.out 3; have hfz18_4 := blk_frozen BK207.out 4; have hfz18_5 := blk_frozen BK207.out 5; have hfz18_6 := blk_frozen BK207.out 6; have hfz18_7 := blk_frozen BK207.out 7) | ((with_reducible refine gate_callee (f := 36) rfl ?_); refine goesL_ (some 13) rfl rfl Try.func36 (by kernel_rfl) rfl #[(.slice Ao12 t211.length co12), .func (.func 37) #[] #[]] rfl (by (try simp only [List.map_toArray, List.map_cons, List.map_nil]); first | done | rfl | (simp only [List.length_drop, List.length_take]; rfl)) ?_; refine del_step (w0 := w) w.heap.size (.slice Ao12 t211.length co12) t211 (fun k_ => (w.heap.size ≤ k_) ∧ some k_ ≠ (.slice Ao14 t217.length co14 : Value).ownBlock ∧ some k_ ≠ (.slice Ao17 y225.length co17 : Value).ownBlock) ?aO ?aB ?aS ?_; (case aB => exact (by repeat (first | (with_reducible first | exact HB.out | apply below_alloc | apply pw_below_drewN | apply below_drew1 | refine below_set ?_ GE207.out | refine below_set ?_ GE208.out) | exact HB.out))); (case aO => exact (by exact Kd.R_mono (Kd.R_far (p := ⟨gb207, 3, none⟩) (Kd.R_types HO213.out BK207.out (by decide)) (fun _ hk => hk.2) (.slice Ao17 y225.length co17)) (fun _ hk => ⟨hk.1.1.1, ⟨hk.1.1.2, hk.1.2⟩⟩))); (case aS => exact (below_size (by repeat (first | (with_reducible first | exact HB.out | apply below_alloc | apply pw_below_drewN | apply below_drew1 | refine below_set ?_ GE207.out | refine below_set ?_ GE208.out) | exact HB.out)))); intro v229 w19 ho hb hg hat; refine ⟨_, rfl, ?_⟩; rw [← Ny228.out] at ho; have n0_ := Aside0.mk (blk_grown (g := gb207) (o := .cells #[.bool true, .bool t210, .slice Ao12 t211.length co12, .slice Ao17 y225.length co17, .slice Ao14 t217.length co14, .slice Ao15 t220.length co15, .bool t223, .bool t224] 25 (0, 0)) (by refine blk_put (cs := #[.bool true, .bool t210, .slice Ao12 t211.length co12, .slice Ao13 t214.length co13, .slice Ao14 t217.length co14, .slice Ao15 t220.length co15, .bool t223, .bool t224]) ?_ 3 _ rfl; exact BK207.out) hg (Kd.R_ne HO213.out BK207.out (by decide))); have n1_ := Aside0.mk (blk_grown (g := gb208) (o := .cells #[.bool false, .bool false, .slice none 0 0, .slice none 0 0, .slice none 0 0, .slice none 0 0, .bool false, .bool false] 25 (0, 0)) (by refine blk_far ?_ NB208_207.out _; exact BK208.out) hg (Kd.R_ne HO213.out BK208.out (by decide))); have n2_ := Aside0.mk (Kd.R_after (ok := (fun k_ => (w.heap.size ≤ k_) ∧ some k_ ≠ (.slice Ao17 y225.length co17 : Value).ownBlock)) (by exact Kd.R_mono (Kd.R_far (p := ⟨gb207, 3, none⟩) (Kd.R_types HO219.out BK207.out (by decide)) (fun _ hk => hk.2) (.slice Ao17 y225.length co17)) (fun _ hk => ⟨⟨hk.1.1.1, hk.1.2⟩, hk.1.1.2⟩)) hg hat); have n3_ := Aside0.mk (Kd.N_afterv (ok := (fun k_ => (w.heap.size ≤ k_ ∨ okp k_) ∧ some k_ ≠ (.slice Ao14 t217.length co14 : Value).ownBlock ∧ some k_ ≠ (.slice Ao17 y225.length co17 : Value).ownBlock ∧ k_ ≠ gb207 ∧ k_ ≠ gb208)) (by exact Kd.N_mono (Kd.N_far (p := ⟨gb207, 3, none⟩) (Kd.N_mono HO222.out (fun k_ hk => (⟨hk, hk.1.2.2.2.1⟩ : _ ∧ k_ ≠ gb207))) (fun _ hk => hk.2) (.slice Ao17 y225.length co17)) (fun _ hk => ⟨⟨hk.1.1.1, ⟨hk.1.1.2.2.1, ⟨hk.1.2, ⟨hk.1.1.2.2.2.1, hk.1.1.2.2.2.2⟩⟩⟩⟩, hk.1.1.2.1⟩)) hg hat); have n4_ := Aside0.mk (Kd.R_after (ok := (fun k_ => (w.heap.size ≤ k_) ∧ some k_ ≠ (.slice Ao14 t217.length co14 : Value).ownBlock)) (by exact Kd.R_mono (Kd.R_far (p := ⟨gb207, 3, none⟩) (Kd.R_types HO227.out BK207.out (by decide)) (fun _ hk => hk.2) (.slice Ao17 y225.length co17)) (fun _ hk => ⟨⟨hk.1.1, hk.1.2.2⟩, hk.1.2.1⟩)) hg hat); have n5_ := Aside0.mk (hb); have n6_ := Aside0.mk (ho); clear BK207; clear BK208; clear HO219; clear HO222; clear HO227; clear HB; clear HO213; have BK207 := n0_; have BK208 := n1_; have HO219 := n2_; have HO222 := n3_; have HO227 := n4_; have HB := n5_; have HO230 := n6_; clear n0_ n1_ n2_ n3_ n4_ n5_ n6_; clear ho hb hg hat; obtain ⟨Ao20, co20, eo20⟩ := Kd.R_slice HO230.out; subst eo20; have hcz21_0 : w19.cell? ⟨gb207, 0, none⟩ = some (.bool true) := (blk_cell BK207.out 0).trans rfl; have hcz21_1 : w19.cell? ⟨gb207, 1, none⟩ = some (.bool t210) := (blk_cell BK207.out 1).trans rfl; have hcz21_2 : w19.cell? ⟨gb207, 2, none⟩ = some (.slice Ao12 t211.length co12) := (blk_cell BK207.out 2).trans rfl; have hcz21_3 : w19.cell? ⟨gb207, 3, none⟩ = some (.slice Ao17 y225.length co17) := (blk_cell BK207.out 3).trans rfl; have hcz21_4 : w19.cell? ⟨gb207, 4, none⟩ = some (.slice Ao14 t217.length co14) := (blk_cell BK207.out 4).trans rfl; have hcz21_5 : w19.cell? ⟨gb207, 5, none⟩ = some (.slice Ao15 t220.length co15) := (blk_cell BK207.out 5).trans rfl; have hcz21_6 : w19.cell? ⟨gb207, 6, none⟩ = some (.bool t223) := (blk_cell BK207.out 6).trans rfl; have hcz21_7 : w19.cell? ⟨gb207, 7, none⟩ = some (.bool t224) := (blk_cell BK207.out 7).trans rfl; have hfz21_0 := blk_frozen BK207.out 0; have hfz21_1 := blk_frozen BK207.out 1; have hfz21_2 := blk_frozen BK207.out 2; have hfz21_3 := blk_frozen BK207.out 3; have hfz21_4 := blk_frozen BK207.out 4; have hfz21_5 := blk_frozen BK207.out 5; have hfz21_6 := blk_frozen BK207.out 6; have hfz21_7 := blk_frozen BK207.out 7; have hcz22_0 : w19.cell? ⟨gb208, 0, none⟩ = some (.bool false) := (blk_cell BK208.out 0).trans rfl; have hcz22_1 : w19.cell? ⟨gb208, 1, none⟩ = some (.bool false) := (blk_cell BK208.out 1).trans rfl; have hcz22_2 : w19.cell? ⟨gb208, 2, none⟩ = some (.slice none 0 0) := (blk_cell BK208.out 2).trans rfl; have hcz22_3 : w19.cell? ⟨gb208, 3, none⟩ = some (.slice none 0 0) := (blk_cell BK208.out 3).trans rfl; have hcz22_4 : w19.cell? ⟨gb208, 4, none⟩ = some (.slice none 0 0) := (blk_cell BK208.out 4).trans rfl; have hcz22_5 : w19.cell? ⟨gb208, 5, none⟩ = some (.slice none 0 0) := (blk_cell BK208.out 5).trans rfl; have hcz22_6 : w19.cell? ⟨gb208, 6, none⟩ = some (.bool false) := (blk_cell BK208.out 6).trans rfl; have hcz22_7 : w19.cell? ⟨gb208, 7, none⟩ = some (.bool false) := (blk_cell BK208.out 7).trans rfl; have hfz22_0 := blk_frozen BK208.out 0; have hfz22_1 := blk_frozen BK208.out 1; have hfz22_2 := blk_frozen BK208.out 2; have hfz22_3 := blk_frozen BK208.out 3; have hfz22_4 := blk_frozen BK208.out 4; have hfz22_5 := blk_frozen BK208.out 5; have hfz22_6 := blk_frozen BK208.out 6; have hfz22_7 := blk_frozen BK208.out 7))
    refine bodyPost_ret (results_cell_row rfl _ _ gb208 25 #[.bool true, .bool t210, .slice Ao20 y228.length co20, .slice Ao17 y225.length co17, .slice Ao14 t217.length co14, .slice Ao15 t220.length co15, .bool t223, .bool t224] (0, 0) _ rfl (by refine blk_put (cs := #[.bool true, .bool t210, .slice Ao20 y228.length co20, .slice Ao17 y225.length co17, .slice Ao14 t217.length co14, .slice Ao15 t220.length co15, .bool t223, .bool false]) ?_ 7 _ rfl; refine blk_put (cs := #[.bool true, .bool t210, .slice Ao20 y228.length co20, .slice Ao17 y225.length co17, .slice Ao14 t217.length co14, .slice Ao15 t220.length co15, .bool false, .bool false]) ?_ 6 _ rfl; refine blk_put (cs := #[.bool true, .bool t210, .slice Ao20 y228.length co20, .slice Ao17 y225.length co17, .slice Ao14 t217.length co14, .slice none 0 0, .bool false, .bool false]) ?_ 5 _ rfl; refine blk_put (cs := #[.bool true, .bool t210, .slice Ao20 y228.length co20, .slice Ao17 y225.length co17, .slice none 0 0, .slice none 0 0, .bool false, .bool false]) ?_ 4 _ rfl; refine blk_put (cs := #[.bool true, .bool t210, .slice Ao20 y228.length co20, .slice none 0 0, .slice none 0 0, .slice none 0 0, .bool false, .bool false]) ?_ 3 _ rfl; refine blk_put (cs := #[.bool true, .bool t210, .slice none 0 0, .slice none 0 0, .slice none 0 0, .slice none 0 0, .bool false, .bool false]) ?_ 2 _ rfl; refine blk_put (cs := #[.bool true, .bool false, .slice none 0 0, .slice none 0 0, .slice none 0 0, .slice none 0 0, .bool false, .bool false]) ?_ 1 _ rfl; refine blk_put (cs := #[.bool false, .bool false, .slice none 0 0, .slice none 0 0, .slice none 0 0, .slice none 0 0, .bool false, .bool false]) ?_ 0 _ rfl; refine blk_far ?_ NB208_207.out _; exact BK208.out) Try.underlying25 rfl (by kernel_rfl)) rfl ?_
    exact ⟨_, _, _, _, by first | rfl | (simp [errW_none, errW_some] <;> rfl) | (simp [*, errW_none, errW_some] <;> rfl), by exact Kd.R_mono (Kd.R_far (p := ⟨gb208, 7, none⟩) (Kd.R_far (p := ⟨gb208, 6, none⟩) (Kd.R_far (p := ⟨gb208, 5, none⟩) (Kd.R_far (p := ⟨gb208, 4, none⟩) (Kd.R_far (p := ⟨gb208, 3, none⟩) (Kd.R_far (p := ⟨gb208, 2, none⟩) (Kd.R_far (p := ⟨gb208, 1, none⟩) (Kd.R_far (p := ⟨gb208, 0, none⟩) (Kd.R_far (p := ⟨gb207, 2, none⟩) (Kd.R_types (Kd.R_types HO230.out BK207.out (by decide)) BK208.out (by decide)) (fun _ hk => hk.1.2) (.slice Ao20 y228.length co20)) (fun _ hk => hk.2) (.bool true)) (fun _ hk => hk.2) (.bool t210)) (fun _ hk => hk.2) (.slice Ao20 y228.length co20)) (fun _ hk => hk.2) (.slice Ao17 y225.length co17)) (fun _ hk => hk.2) (.slice Ao14 t217.length co14)) (fun _ hk => hk.2) (.slice Ao15 t220.length co15)) (fun _ hk => hk.2) (.bool t223)) (fun _ hk => hk.2) (.bool t224)) (fun _ hk => ⟨hk.1.1.1, ⟨hk.1.1.2.2, hk.1.1.2.1⟩⟩), by exact Kd.R_mono (Kd.R_far (p := ⟨gb208, 7, none⟩) (Kd.R_far (p := ⟨gb208, 6, none⟩) (Kd.R_far (p := ⟨gb208, 5, none⟩) (Kd.R_far (p := ⟨gb208, 4, none⟩) (Kd.R_far (p := ⟨gb208, 3, none⟩) (Kd.R_far (p := ⟨gb208, 2, none⟩) (Kd.R_far (p := ⟨gb208, 1, none⟩) (Kd.R_far (p := ⟨gb208, 0, none⟩) (Kd.R_far (p := ⟨gb207, 2, none⟩) (Kd.R_types (Kd.R_types HO227.out BK207.out (by decide)) BK208.out (by decide)) (fun _ hk => hk.1.2) (.slice Ao20 y228.length co20)) (fun _ hk => hk.2) (.bool true)) (fun _ hk => hk.2) (.bool t210)) (fun _ hk => hk.2) (.slice Ao20 y228.length co20)) (fun _ hk => hk.2) (.slice Ao17 y225.length co17)) (fun _ hk => hk.2) (.slice Ao14 t217.length co14)) (fun _ hk => hk.2) (.slice Ao15 t220.length co15)) (fun _ hk => hk.2) (.bool t223)) (fun _ hk => hk.2) (.bool t224)) (fun _ hk => ⟨hk.1.1.1.1, ⟨hk.1.1.2, hk.1.1.1.2⟩⟩), by exact Kd.R_mono (Kd.R_far (p := ⟨gb208, 7, none⟩) (Kd.R_far (p := ⟨gb208, 6, none⟩) (Kd.R_far (p := ⟨gb208, 5, none⟩) (Kd.R_far (p := ⟨gb208, 4, none⟩) (Kd.R_far (p := ⟨gb208, 3, none⟩) (Kd.R_far (p := ⟨gb208, 2, none⟩) (Kd.R_far (p := ⟨gb208, 1, none⟩) (Kd.R_far (p := ⟨gb208, 0, none⟩) (Kd.R_far (p := ⟨gb207, 2, none⟩) (Kd.R_types (Kd.R_types HO219.out BK207.out (by decide)) BK208.out (by decide)) (fun _ hk => hk.1.2) (.slice Ao20 y228.length co20)) (fun _ hk => hk.2) (.bool true)) (fun _ hk => hk.2) (.bool t210)) (fun _ hk => hk.2) (.slice Ao20 y228.length co20)) (fun _ hk => hk.2) (.slice Ao17 y225.length co17)) (fun _ hk => hk.2) (.slice Ao14 t217.length co14)) (fun _ hk => hk.2) (.slice Ao15 t220.length co15)) (fun _ hk => hk.2) (.bool t223)) (fun _ hk => hk.2) (.bool t224)) (fun _ hk => ⟨hk.1.1.1.1, ⟨hk.1.1.2, hk.1.1.1.2⟩⟩), by exact Kd.N_mono (Kd.N_far (p := ⟨gb208, 7, none⟩) (Kd.N_far (p := ⟨gb208, 6, none⟩) (Kd.N_far (p := ⟨gb208, 5, none⟩) (Kd.N_far (p := ⟨gb208, 4, none⟩) (Kd.N_far (p := ⟨gb208, 3, none⟩) (Kd.N_far (p := ⟨gb208, 2, none⟩) (Kd.N_far (p := ⟨gb208, 1, none⟩) (Kd.N_far (p := ⟨gb208, 0, none⟩) (Kd.N_far (p := ⟨gb207, 2, none⟩) (Kd.N_mono (Kd.N_mono HO222.out (fun k_ hk => (⟨hk, hk.1.2.2.2.1⟩ : _ ∧ k_ ≠ gb207))) (fun k_ hk => (⟨hk, hk.1.1.2.2.2.2⟩ : _ ∧ k_ ≠ gb208))) (fun _ hk => hk.1.2) (.slice Ao20 y228.length co20)) (fun _ hk => hk.2) (.bool true)) (fun _ hk => hk.2) (.bool t210)) (fun _ hk => hk.2) (.slice Ao20 y228.length co20)) (fun _ hk => hk.2) (.slice Ao17 y225.length co17)) (fun _ hk => hk.2) (.slice Ao14 t217.length co14)) (fun _ hk => hk.2) (.slice Ao15 t220.length co15)) (fun _ hk => hk.2) (.bool t223)) (fun _ hk => hk.2) (.bool t224)) (fun _ hk => ⟨hk.1.1.1.1, ⟨hk.1.1.2, ⟨hk.1.1.1.2.2.1, hk.1.1.1.2.1⟩⟩⟩), by repeat (first | (with_reducible first | exact HB.out | apply below_alloc | apply pw_below_drewN | apply below_drew1 | refine below_set ?_ GE207.out | refine below_set ?_ GE208.out) | exact HB.out)⟩
   ·rw [if_neg c5] at H
    exact absurd H (by simp)
  ·replace c4 := Bool.eq_false_iff.mpr c4
   subst c4
   replace H : ((config_unsafe.f).bind fun t231 => ((fold_Minus.f k t231 t211).bind fun t234 => (if t211.length + t234.length < 8796093022208 then (some (false, t210, (t211 ++ t234), y225, t217, t220, t223, t224)) else (none)))) = some (r1, r2, r3, r4, r5, r6, r7, r8) := by rw [if_neg (show ¬ (false = true) by decide)] at H; exact H
   replace H := Option.bind_eq_some_iff.mp H
   obtain ⟨t231, A230, H⟩ := H
   have A23 := Aside0.mk A230
   clear A230
   replace H := Option.bind_eq_some_iff.mp H
   obtain ⟨t234, A240, H⟩ := H
   have A24 := Aside0.mk A240
   clear A240
   by_cases c25 : t211.length + t234.length < 8796093022208
   ·rw [if_pos c25] at H
    have LMc25 := Aside0.mk c25
    clear c25
    obtain ⟨y237, hy237⟩ : ∃ y_ : List ByteArray, y_ = (t211 ++ t234) := ⟨_, rfl⟩
    replace H : (some (false, t210, y237, y225, t217, t220, t223, t224)) = some (r1, r2, r3, r4, r5, r6, r7, r8) := by first | (rw [hy237]; with_reducible exact H) | (have H2_ := (Option.bind_some _ _).symm.trans H; rw [hy237]; with_reducible exact H2_) | (have H2_ := (Option.bind_some _ _).symm.trans H; with_reducible exact H2_) | with_reducible exact H | (rw [hy237]; exact H) | exact H
    have Ny237 := Aside0.mk hy237
    clear hy237
    simp only [Option.some.injEq, Prod.mk.injEq] at H
    obtain ⟨rfl, rfl, rfl, rfl, rfl, rfl, rfl, rfl⟩ := H
    go_enter Try.func17, Try.ntmps17
    try go_wp2_with (first | ((with_reducible refine gate_dst (N := 1) rfl ?_); refine box_event ?hg (N := 1) ?hd (cs := #[.bool a0_0, .bool a0_1, .slice A0_2 l0_2.length c0_2, .slice A0_3 l0_3.length c0_3, .slice A0_4 l0_4.length c0_4, .slice A0_5 l0_5.length c0_5, .bool a0_6, .bool a0_7]) (t := 25) ?hr ?_; (case hd => rfl); (case hg => rfl); (case hr => first | (go_simp; done) | (go_simp; rfl)); intro gb207 hg w26 hbox hb; have n0_ := Aside0.mk (below_step (by repeat (first | (with_reducible first | exact HB.out | apply below_alloc | apply pw_below_drewN | apply below_drew1) | exact HB.out)) hb); have n1_ := Aside0.mk (hbox); have n2_ := Aside0.mk ((by rw [hg]; exact (below_size (by repeat (first | (with_reducible first | exact HB.out | apply below_alloc | apply pw_below_drewN | apply below_drew1) | exact HB.out))) : w.heap.size ≤ gb207)); have n3_ := Aside0.mk ((by rw [hg]; exact (below_size (by repeat (first | (with_reducible first | exact HB.out | apply below_alloc | apply pw_below_drewN | apply below_drew1) | exact HB.out))) : w.heap.size ≤ gb207)); clear HB; have HB := n0_; have BK207 := n1_; have GW207 := n2_; have GE207 := n3_; clear n0_ n1_ n2_ n3_; clear hb hbox hg) | ((with_reducible refine gate_dst (N := 2) rfl ?_); refine box_event ?hg (N := 2) ?hd (cs := #[.bool false, .bool false, .slice none 0 0, .slice none 0 0, .slice none 0 0, .slice none 0 0, .bool false, .bool false]) (t := 25) ?hr ?_; (case hd => rfl); (case hg => rfl); (case hr => first | (go_simp; done) | (go_simp; rfl)); intro gb208 hg w27 hbox hb; have n0_ := Aside0.mk (blk_below (g := gb207) (o := .cells #[.bool a0_0, .bool a0_1, .slice A0_2 l0_2.length c0_2, .slice A0_3 l0_3.length c0_3, .slice A0_4 l0_4.length c0_4, .slice A0_5 l0_5.length c0_5, .bool a0_6, .bool a0_7] 25 (0, 0)) (by exact BK207.out) hb); have n1_ := Aside0.mk (below_step (by repeat (first | (with_reducible first | exact HB.out | apply below_alloc | apply pw_below_drewN | apply below_drew1 | refine below_set ?_ GE207.out) | exact HB.out)) hb); have n2_ := Aside0.mk (hbox); have n3_ := Aside0.mk ((by rw [hg]; exact (below_size (by repeat (first | (with_reducible first | exact HB.out | apply below_alloc | apply pw_below_drewN | apply below_drew1 | refine below_set ?_ GE207.out) | exact HB.out))) : w.heap.size ≤ gb208)); have n4_ := Aside0.mk ((by rw [hg]; exact (below_size (by repeat (first | (with_reducible first | exact HB.out | apply below_alloc | apply pw_below_drewN | apply below_drew1 | refine below_set ?_ GE207.out) | exact HB.out))) : w.heap.size ≤ gb208)); have n5_ := Aside0.mk ((by rw [hg]; exact Nat.ne_of_lt (blk_lt (g := gb207) (o := .cells #[.bool a0_0, .bool a0_1, .slice A0_2 l0_2.length c0_2, .slice A0_3 l0_3.length c0_3, .slice A0_4 l0_4.length c0_4, .slice A0_5 l0_5.length c0_5, .bool a0_6, .bool a0_7] 25 (0, 0)) (by exact BK207.out)) : gb207 ≠ gb208)); have n6_ := Aside0.mk ((by rw [hg]; exact Nat.ne_of_gt (blk_lt (g := gb207) (o := .cells #[.bool a0_0, .bool a0_1, .slice A0_2 l0_2.length c0_2, .slice A0_3 l0_3.length c0_3, .slice A0_4 l0_4.length c0_4, .slice A0_5 l0_5.length c0_5, .bool a0_6, .bool a0_7] 25 (0, 0)) (by exact BK207.out)) : gb208 ≠ gb207)); clear BK207; clear HB; have BK207 := n0_; have HB := n1_; have BK208 := n2_; have GW208 := n3_; have GE208 := n4_; have NB207_208 := n5_; have NB208_207 := n6_; clear n0_ n1_ n2_ n3_ n4_ n5_ n6_; clear hb hbox hg; have hnb28 := NB207_208.out; have hnc28 := NB208_207.out; have hcz29_0 : w27.cell? ⟨gb207, 0, none⟩ = some (.bool a0_0) := (blk_cell BK207.out 0).trans rfl; have hcz29_1 : w27.cell? ⟨gb207, 1, none⟩ = some (.bool a0_1) := (blk_cell BK207.out 1).trans rfl; have hcz29_2 : w27.cell? ⟨gb207, 2, none⟩ = some (.slice A0_2 l0_2.length c0_2) := (blk_cell BK207.out 2).trans rfl; have hcz29_3 : w27.cell? ⟨gb207, 3, none⟩ = some (.slice A0_3 l0_3.length c0_3) := (blk_cell BK207.out 3).trans rfl; have hcz29_4 : w27.cell? ⟨gb207, 4, none⟩ = some (.slice A0_4 l0_4.length c0_4) := (blk_cell BK207.out 4).trans rfl; have hcz29_5 : w27.cell? ⟨gb207, 5, none⟩ = some (.slice A0_5 l0_5.length c0_5) := (blk_cell BK207.out 5).trans rfl; have hcz29_6 : w27.cell? ⟨gb207, 6, none⟩ = some (.bool a0_6) := (blk_cell BK207.out 6).trans rfl; have hcz29_7 : w27.cell? ⟨gb207, 7, none⟩ = some (.bool a0_7) := (blk_cell BK207.out 7).trans rfl; have hfz29_0 := blk_frozen BK207.out 0; have hfz29_1 := blk_frozen BK207.out 1; have hfz29_2 := blk_frozen BK207.out 2; have hfz29_3 := blk_frozen BK207.out 3; have hfz29_4 := blk_frozen BK207.out 4; have hfz29_5 := blk_frozen BK207.out 5; have hfz29_6 := blk_frozen BK207.out 6; have hfz29_7 := blk_frozen BK207.out 7) | ((with_reducible refine gate_callee (f := 35) rfl ?_); refine goesL_ (some 4) rfl rfl Try.func35 (by kernel_rfl) rfl #[.agg #[.bool a0_0, .bool a0_1, .slice A0_2 l0_2.length c0_2, .slice A0_3 l0_3.length c0_3, .slice A0_4 l0_4.length c0_4, .slice A0_5 l0_5.length c0_5, .bool a0_6, .bool a0_7]] rfl (by (try simp only [List.map_toArray, List.map_cons, List.map_nil]); first | done | rfl | (simp only [List.length_drop, List.length_take]; rfl)) ?_; (with_reducible refine (config_copied.calls k a0_0 a0_1 _ _ l0_2 _ _ l0_3 _ _ l0_4 _ _ l0_5 a0_6 a0_7 false t210 t211 t214 t217 t220 t223 t224 _ ?side1 ?side2 ?side3 ?side4 ?side5 ?side6 okp ?side0 ?side7 ?side8 A2.out).mono ?_); (case side0 => exact fun k_ h_ => Nat.lt_of_lt_of_le (HW0.out k_ h_) (below_size (by repeat (first | (with_reducible first | exact HB.out | apply below_alloc | apply pw_below_drewN | apply below_drew1 | refine below_set ?_ GE207.out | refine below_set ?_ GE208.out) | exact HB.out)))); (case side1 => repeat (first | exact (Kd.C_below HR0_2.out HB.out) | (with_reducible refine Kd.C_alloc ?_ _) | (with_reducible refine Kd.C_drewN ?_ _) | (with_reducible refine Kd.C_drew ?_))); (case side2 => exact HC0_2.out); (case side3 => repeat (first | exact (Kd.C_below HR0_3.out HB.out) | (with_reducible refine Kd.C_alloc ?_ _) | (with_reducible refine Kd.C_drewN ?_ _) | (with_reducible refine Kd.C_drew ?_))); (case side4 => exact HC0_3.out); (case side5 => repeat (first | exact (Kd.C_below HR0_4.out HB.out) | (with_reducible refine Kd.C_alloc ?_ _) | (with_reducible refine Kd.C_drewN ?_ _) | (with_reducible refine Kd.C_drew ?_))); (case side6 => exact HC0_4.out); (case side7 => exact Shares.below HR0_5.out (by repeat (first | (with_reducible first | exact HB.out | apply below_alloc | apply pw_below_drewN | apply below_drew1 | refine below_set ?_ GE207.out | refine below_set ?_ GE208.out) | exact HB.out))); (case side8 => exact HC0_5.out); rintro e w30 ⟨v212, v215, v218, v221, rfl, ho0, ho1, ho2, ho3, hb⟩; refine ⟨_, rfl, ?_⟩; have n0_ := Aside0.mk (Kd.R_lower (Kd.R_newM (M := fun k_ => (w.heap.size ≤ k_)) (Kd.R_mono (ok' := fun k_ => some k_ ≠ (v215 : Value).ownBlock ∧ some k_ ≠ (v218 : Value).ownBlock) ho0 (fun _ hk_ => hk_.2)) (below_size (by repeat (first | (with_reducible first | exact HB.out | apply below_alloc | apply pw_below_drewN | apply below_drew1 | refine below_set ?_ GE207.out | refine below_set ?_ GE208.out) | exact HB.out))) (fun k_ h_ => h_)) (below_size (by repeat (first | (with_reducible first | exact HB.out | apply below_alloc | apply pw_below_drewN | apply below_drew1 | refine below_set ?_ GE207.out | refine below_set ?_ GE208.out) | exact HB.out)))); have n1_ := Aside0.mk (Kd.R_lower (Kd.R_newM (M := fun k_ => (w.heap.size ≤ k_)) (Kd.R_mono (ok' := fun k_ => some k_ ≠ (v212 : Value).ownBlock ∧ some k_ ≠ (v218 : Value).ownBlock) ho1 (fun _ hk_ => hk_.2)) (below_size (by repeat (first | (with_reducible first | exact HB.out | apply below_alloc | apply pw_below_drewN | apply below_drew1 | refine below_set ?_ GE207.out | refine below_set ?_ GE208.out) | exact HB.out))) (fun k_ h_ => h_)) (below_size (by repeat (first | (with_reducible first | exact HB.out | apply below_alloc | apply pw_below_drewN | apply below_drew1 | refine below_set ?_ GE207.out | refine below_set ?_ GE208.out) | exact HB.out)))); have n2_ := Aside0.mk (Kd.R_lower (Kd.R_newM (M := fun k_ => (w.heap.size ≤ k_)) (Kd.R_mono (ok' := fun k_ => some k_ ≠ (v212 : Value).ownBlock ∧ some k_ ≠ (v215 : Value).ownBlock) ho2 (fun _ hk_ => hk_.2)) (below_size (by repeat (first | (with_reducible first | exact HB.out | apply below_alloc | apply pw_below_drewN | apply below_drew1 | refine below_set ?_ GE207.out | refine below_set ?_ GE208.out) | exact HB.out))) (fun k_ h_ => h_)) (below_size (by repeat (first | (with_reducible first | exact HB.out | apply below_alloc | apply pw_below_drewN | apply below_drew1 | refine below_set ?_ GE207.out | refine below_set ?_ GE208.out) | exact HB.out)))); have n3_ := Aside0.mk (Kd.N_lower (Kd.N_mono (ok' := fun k_ => (w.heap.size ≤ k_ ∨ okp k_) ∧ some k_ ≠ (v212 : Value).ownBlock ∧ some k_ ≠ (v215 : Value).ownBlock ∧ some k_ ≠ (v218 : Value).ownBlock ∧ k_ ≠ gb207 ∧ k_ ≠ gb208) ho3 (fun k_ hk_ => ⟨(hk_.1.elim (fun h_ => .inl (Nat.le_trans (below_size (by repeat (first | (with_reducible first | exact HB.out | apply below_alloc | apply pw_below_drewN | apply below_drew1 | refine below_set ?_ GE207.out | refine below_set ?_ GE208.out) | exact HB.out))) h_)) .inr), hk_.2.1, hk_.2.2.1, hk_.2.2.2, (hk_.1.elim (fun h_ => (Kd.freshB (g := gb207) (o := .cells #[.bool a0_0, .bool a0_1, .slice A0_2 l0_2.length c0_2, .slice A0_3 l0_3.length c0_3, .slice A0_4 l0_4.length c0_4, .slice A0_5 l0_5.length c0_5, .bool a0_6, .bool a0_7] 25 (0, 0)) (by exact BK207.out) k_ h_)) (fun h_ e_ => by have := GE207.out; have := HW0.out k_ h_; omega)), (hk_.1.elim (fun h_ => (Kd.freshB (g := gb208) (o := .cells #[.bool false, .bool false, .slice none 0 0, .slice none 0 0, .slice none 0 0, .slice none 0 0, .bool false, .bool false] 25 (0, 0)) (by exact BK208.out) k_ h_)) (fun h_ e_ => by have := GE208.out; have := HW0.out k_ h_; omega))⟩)) (below_size (by repeat (first | (with_reducible first | exact HB.out | apply below_alloc | apply pw_below_drewN | apply below_drew1 | refine below_set ?_ GE207.out | refine below_set ?_ GE208.out) | exact HB.out)))); have n4_ := Aside0.mk (blk_below (g := gb207) (o := .cells #[.bool a0_0, .bool a0_1, .slice A0_2 l0_2.length c0_2, .slice A0_3 l0_3.length c0_3, .slice A0_4 l0_4.length c0_4, .slice A0_5 l0_5.length c0_5, .bool a0_6, .bool a0_7] 25 (0, 0)) (by exact BK207.out) hb); have n5_ := Aside0.mk (blk_below (g := gb208) (o := .cells #[.bool false, .bool false, .slice none 0 0, .slice none 0 0, .slice none 0 0, .slice none 0 0, .bool false, .bool false] 25 (0, 0)) (by exact BK208.out) hb); have n6_ := Aside0.mk (below_step (by repeat (first | (with_reducible first | exact HB.out | apply below_alloc | apply pw_below_drewN | apply below_drew1 | refine below_set ?_ GE207.out | refine below_set ?_ GE208.out) | exact HB.out)) hb); clear BK207; clear BK208; clear HB; have HO213 := n0_; have HO216 := n1_; have HO219 := n2_; have HO222 := n3_; have BK207 := n4_; have BK208 := n5_; have HB := n6_; clear n0_ n1_ n2_ n3_ n4_ n5_ n6_; (try clear hb); (try clear hb2); (try clear hk); (try clear hi); (try clear ho0); (try clear ho1); (try clear ho2); (try clear ho3); have hcz31_0 : w30.cell? ⟨gb207, 0, none⟩ = some (.bool a0_0) := (blk_cell BK207.out 0).trans rfl; have hcz31_1 : w30.cell? ⟨gb207, 1, none⟩ = some (.bool a0_1) := (blk_cell BK207.out 1).trans rfl; have hcz31_2 : w30.cell? ⟨gb207, 2, none⟩ = some (.slice A0_2 l0_2.length c0_2) := (blk_cell BK207.out 2).trans rfl; have hcz31_3 : w30.cell? ⟨gb207, 3, none⟩ = some (.slice A0_3 l0_3.length c0_3) := (blk_cell BK207.out 3).trans rfl; have hcz31_4 : w30.cell? ⟨gb207, 4, none⟩ = some (.slice A0_4 l0_4.length c0_4) := (blk_cell BK207.out 4).trans rfl; have hcz31_5 : w30.cell? ⟨gb207, 5, none⟩ = some (.slice A0_5 l0_5.length c0_5) := (blk_cell BK207.out 5).trans rfl; have hcz31_6 : w30.cell? ⟨gb207, 6, none⟩ = some (.bool a0_6) := (blk_cell BK207.out 6).trans rfl; have hcz31_7 : w30.cell? ⟨gb207, 7, none⟩ = some (.bool a0_7) := (blk_cell BK207.out 7).trans rfl; have hfz31_0 := blk_frozen BK207.out 0; have hfz31_1 := blk_frozen BK207.out 1; have hfz31_2 := blk_frozen BK207.out 2; have hfz31_3 := blk_frozen BK207.out 3; have hfz31_4 := blk_frozen BK207.out 4; have hfz31_5 := blk_frozen BK207.out 5; have hfz31_6 := blk_frozen BK207.out 6; have hfz31_7 := blk_frozen BK207.out 7; obtain ⟨Ao32, co32, eo32⟩ := Kd.R_slice HO213.out; subst eo32; obtain ⟨Ao33, co33, eo33⟩ := Kd.R_slice HO216.out; subst eo33; obtain ⟨Ao34, co34, eo34⟩ := Kd.R_slice HO219.out; subst eo34; obtain ⟨Ao35, co35, eo35⟩ := Kd.N_slice HO222.out; subst eo35) | ((with_reducible refine gate_callee (f := 36) rfl ?_); refine goesL_ (some 7) rfl rfl Try.func36 (by kernel_rfl) rfl #[(.slice Ao33 t214.length co33), .func (.func 37) #[] #[]] rfl (by (try simp only [List.map_toArray, List.map_cons, List.map_nil]); first | done | rfl | (simp only [List.length_drop, List.length_take]; rfl)) ?_; refine del_step (w0 := w) w.heap.size (.slice Ao33 t214.length co33) t214 (fun k_ => (w.heap.size ≤ k_) ∧ some k_ ≠ (.slice Ao32 t211.length co32 : Value).ownBlock ∧ some k_ ≠ (.slice Ao34 t217.length co34 : Value).ownBlock) ?aO ?aB ?aS ?_; (case aB => exact (by repeat (first | (with_reducible first | exact HB.out | apply below_alloc | apply pw_below_drewN | apply below_drew1 | refine below_set ?_ GE207.out | refine below_set ?_ GE208.out) | exact HB.out))); (case aO => exact (by exact Kd.R_mono (Kd.R_far (p := ⟨gb207, 7, none⟩) (Kd.R_far (p := ⟨gb207, 6, none⟩) (Kd.R_far (p := ⟨gb207, 5, none⟩) (Kd.R_far (p := ⟨gb207, 4, none⟩) (Kd.R_far (p := ⟨gb207, 3, none⟩) (Kd.R_far (p := ⟨gb207, 2, none⟩) (Kd.R_far (p := ⟨gb207, 1, none⟩) (Kd.R_far (p := ⟨gb207, 0, none⟩) (Kd.R_types HO216.out BK207.out (by decide)) (fun _ hk => hk.2) (.bool false)) (fun _ hk => hk.2) (.bool t210)) (fun _ hk => hk.2) (.slice Ao32 t211.length co32)) (fun _ hk => hk.2) (.slice Ao33 t214.length co33)) (fun _ hk => hk.2) (.slice Ao34 t217.length co34)) (fun _ hk => hk.2) (.slice Ao35 t220.length co35)) (fun _ hk => hk.2) (.bool t223)) (fun _ hk => hk.2) (.bool t224)) (fun _ hk => ⟨hk.1.1, ⟨hk.1.2.1, hk.1.2.2⟩⟩))); (case aS => exact (below_size (by repeat (first | (with_reducible first | exact HB.out | apply below_alloc | apply pw_below_drewN | apply below_drew1 | refine below_set ?_ GE207.out | refine below_set ?_ GE208.out) | exact HB.out)))); intro v226 w36 ho hb hg hat; refine ⟨_, rfl, ?_⟩; rw [← Ny225.out] at ho; have n0_ := Aside0.mk (blk_grown (g := gb207) (o := .cells #[.bool false, .bool t210, .slice Ao32 t211.length co32, .slice Ao33 t214.length co33, .slice Ao34 t217.length co34, .slice Ao35 t220.length co35, .bool t223, .bool t224] 25 (0, 0)) (by refine blk_put (cs := #[.bool false, .bool t210, .slice Ao32 t211.length co32, .slice Ao33 t214.length co33, .slice Ao34 t217.length co34, .slice Ao35 t220.length co35, .bool t223, .bool a0_7]) ?_ 7 _ rfl; refine blk_put (cs := #[.bool false, .bool t210, .slice Ao32 t211.length co32, .slice Ao33 t214.length co33, .slice Ao34 t217.length co34, .slice Ao35 t220.length co35, .bool a0_6, .bool a0_7]) ?_ 6 _ rfl; refine blk_put (cs := #[.bool false, .bool t210, .slice Ao32 t211.length co32, .slice Ao33 t214.length co33, .slice Ao34 t217.length co34, .slice A0_5 l0_5.length c0_5, .bool a0_6, .bool a0_7]) ?_ 5 _ rfl; refine blk_put (cs := #[.bool false, .bool t210, .slice Ao32 t211.length co32, .slice Ao33 t214.length co33, .slice A0_4 l0_4.length c0_4, .slice A0_5 l0_5.length c0_5, .bool a0_6, .bool a0_7]) ?_ 4 _ rfl; refine blk_put (cs := #[.bool false, .bool t210, .slice Ao32 t211.length co32, .slice A0_3 l0_3.length c0_3, .slice A0_4 l0_4.length c0_4, .slice A0_5 l0_5.length c0_5, .bool a0_6, .bool a0_7]) ?_ 3 _ rfl; refine blk_put (cs := #[.bool false, .bool t210, .slice A0_2 l0_2.length c0_2, .slice A0_3 l0_3.length c0_3, .slice A0_4 l0_4.length c0_4, .slice A0_5 l0_5.length c0_5, .bool a0_6, .bool a0_7]) ?_ 2 _ rfl; refine blk_put (cs := #[.bool false, .bool a0_1, .slice A0_2 l0_2.length c0_2, .slice A0_3 l0_3.length c0_3, .slice A0_4 l0_4.length c0_4, .slice A0_5 l0_5.length c0_5, .bool a0_6, .bool a0_7]) ?_ 1 _ rfl; refine blk_put (cs := #[.bool a0_0, .bool a0_1, .slice A0_2 l0_2.length c0_2, .slice A0_3 l0_3.length c0_3, .slice A0_4 l0_4.length c0_4, .slice A0_5 l0_5.length c0_5, .bool a0_6, .bool a0_7]) ?_ 0 _ rfl; exact BK207.out) hg (Kd.R_ne HO216.out BK207.out (by decide))); have n1_ := Aside0.mk (blk_grown (g := gb208) (o := .cells #[.bool false, .bool false, .slice none 0 0, .slice none 0 0, .slice none 0 0, .slice none 0 0, .bool false, .bool false] 25 (0, 0)) (by refine blk_far ?_ NB208_207.out _; refine blk_far ?_ NB208_207.out _; refine blk_far ?_ NB208_207.out _; refine blk_far ?_ NB208_207.out _; refine blk_far ?_ NB208_207.out _; refine blk_far ?_ NB208_207.out _; refine blk_far ?_ NB208_207.out _; refine blk_far ?_ NB208_207.out _; exact BK208.out) hg (Kd.R_ne HO216.out BK208.out (by decide))); have n2_ := Aside0.mk (Kd.R_after (ok := (fun k_ => (w.heap.size ≤ k_) ∧ some k_ ≠ (.slice Ao34 t217.length co34 : Value).ownBlock)) (by exact Kd.R_mono (Kd.R_far (p := ⟨gb207, 7, none⟩) (Kd.R_far (p := ⟨gb207, 6, none⟩) (Kd.R_far (p := ⟨gb207, 5, none⟩) (Kd.R_far (p := ⟨gb207, 4, none⟩) (Kd.R_far (p := ⟨gb207, 3, none⟩) (Kd.R_far (p := ⟨gb207, 2, none⟩) (Kd.R_far (p := ⟨gb207, 1, none⟩) (Kd.R_far (p := ⟨gb207, 0, none⟩) (Kd.R_types HO213.out BK207.out (by decide)) (fun _ hk => hk.2) (.bool false)) (fun _ hk => hk.2) (.bool t210)) (fun _ hk => hk.2) (.slice Ao32 t211.length co32)) (fun _ hk => hk.2) (.slice Ao33 t214.length co33)) (fun _ hk => hk.2) (.slice Ao34 t217.length co34)) (fun _ hk => hk.2) (.slice Ao35 t220.length co35)) (fun _ hk => hk.2) (.bool t223)) (fun _ hk => hk.2) (.bool t224)) (fun _ hk => ⟨⟨hk.1.1, hk.1.2.2⟩, hk.1.2.1⟩)) hg hat); have n3_ := Aside0.mk (Kd.R_after (ok := (fun k_ => (w.heap.size ≤ k_) ∧ some k_ ≠ (.slice Ao32 t211.length co32 : Value).ownBlock)) (by exact Kd.R_mono (Kd.R_far (p := ⟨gb207, 7, none⟩) (Kd.R_far (p := ⟨gb207, 6, none⟩) (Kd.R_far (p := ⟨gb207, 5, none⟩) (Kd.R_far (p := ⟨gb207, 4, none⟩) (Kd.R_far (p := ⟨gb207, 3, none⟩) (Kd.R_far (p := ⟨gb207, 2, none⟩) (Kd.R_far (p := ⟨gb207, 1, none⟩) (Kd.R_far (p := ⟨gb207, 0, none⟩) (Kd.R_types HO219.out BK207.out (by decide)) (fun _ hk => hk.2) (.bool false)) (fun _ hk => hk.2) (.bool t210)) (fun _ hk => hk.2) (.slice Ao32 t211.length co32)) (fun _ hk => hk.2) (.slice Ao33 t214.length co33)) (fun _ hk => hk.2) (.slice Ao34 t217.length co34)) (fun _ hk => hk.2) (.slice Ao35 t220.length co35)) (fun _ hk => hk.2) (.bool t223)) (fun _ hk => hk.2) (.bool t224)) (fun _ hk => ⟨⟨hk.1.1, hk.1.2.1⟩, hk.1.2.2⟩)) hg hat); have n4_ := Aside0.mk (Kd.N_afterv (ok := (fun k_ => (w.heap.size ≤ k_ ∨ okp k_) ∧ some k_ ≠ (.slice Ao32 t211.length co32 : Value).ownBlock ∧ some k_ ≠ (.slice Ao34 t217.length co34 : Value).ownBlock ∧ k_ ≠ gb207 ∧ k_ ≠ gb208)) (by exact Kd.N_mono (Kd.N_far (p := ⟨gb207, 7, none⟩) (Kd.N_far (p := ⟨gb207, 6, none⟩) (Kd.N_far (p := ⟨gb207, 5, none⟩) (Kd.N_far (p := ⟨gb207, 4, none⟩) (Kd.N_far (p := ⟨gb207, 3, none⟩) (Kd.N_far (p := ⟨gb207, 2, none⟩) (Kd.N_far (p := ⟨gb207, 1, none⟩) (Kd.N_far (p := ⟨gb207, 0, none⟩) (Kd.N_mono HO222.out (fun k_ hk => (⟨hk, hk.2.2.2.2.1⟩ : _ ∧ k_ ≠ gb207))) (fun _ hk => hk.2) (.bool false)) (fun _ hk => hk.2) (.bool t210)) (fun _ hk => hk.2) (.slice Ao32 t211.length co32)) (fun _ hk => hk.2) (.slice Ao33 t214.length co33)) (fun _ hk => hk.2) (.slice Ao34 t217.length co34)) (fun _ hk => hk.2) (.slice Ao35 t220.length co35)) (fun _ hk => hk.2) (.bool t223)) (fun _ hk => hk.2) (.bool t224)) (fun _ hk => ⟨⟨hk.1.1, ⟨hk.1.2.1, ⟨hk.1.2.2.2.1, ⟨hk.1.2.2.2.2.1, hk.1.2.2.2.2.2⟩⟩⟩⟩, hk.1.2.2.1⟩)) hg hat); have n5_ := Aside0.mk (hb); have n6_ := Aside0.mk (ho); clear BK207; clear BK208; clear HO213; clear HO219; clear HO222; clear HB; clear HO216; have BK207 := n0_; have BK208 := n1_; have HO213 := n2_; have HO219 := n3_; have HO222 := n4_; have HB := n5_; have HO227 := n6_; clear n0_ n1_ n2_ n3_ n4_ n5_ n6_; clear ho hb hg hat; obtain ⟨Ao37, co37, eo37⟩ := Kd.R_slice HO227.out; subst eo37; have hcz38_0 : w36.cell? ⟨gb207, 0, none⟩ = some (.bool false) := (blk_cell BK207.out 0).trans rfl; have hcz38_1 : w36.cell? ⟨gb207, 1, none⟩ = some (.bool t210) := (blk_cell BK207.out 1).trans rfl; have hcz38_2 : w36.cell? ⟨gb207, 2, none⟩ = some (.slice Ao32 t211.length co32) := (blk_cell BK207.out 2).trans rfl; have hcz38_3 : w36.cell? ⟨gb207, 3, none⟩ = some (.slice Ao33 t214.length co33) := (blk_cell BK207.out 3).trans rfl; have hcz38_4 : w36.cell? ⟨gb207, 4, none⟩ = some (.slice Ao34 t217.length co34) := (blk_cell BK207.out 4).trans rfl; have hcz38_5 : w36.cell? ⟨gb207, 5, none⟩ = some (.slice Ao35 t220.length co35) := (blk_cell BK207.out 5).trans rfl; have hcz38_6 : w36.cell? ⟨gb207, 6, none⟩ = some (.bool t223) := (blk_cell BK207.out 6).trans rfl; have hcz38_7 : w36.cell? ⟨gb207, 7, none⟩ = some (.bool t224) := (blk_cell BK207.out 7).trans rfl; have hfz38_0 := blk_frozen BK207.out 0; have hfz38_1 := blk_frozen BK207.out 1; have hfz38_2 := blk_frozen BK207.out 2; have hfz38_3 := blk_frozen BK207.out 3; have hfz38_4 := blk_frozen BK207.out 4; have hfz38_5 := blk_frozen BK207.out 5; have hfz38_6 := blk_frozen BK207.out 6; have hfz38_7 := blk_frozen BK207.out 7))
    have n0_ : Aside0 (Kd.R Kd.string 9 (w36.setCell ⟨gb207, 3, none⟩ (.slice Ao37 y225.length co37)) w.heap.size (fun k_ => (w.heap.size ≤ k_) ∧ some k_ ≠ (.slice Ao34 t217.length co34 : Value).ownBlock ∧ some k_ ≠ (.slice Ao37 y225.length co37 : Value).ownBlock) (.slice Ao32 t211.length co32) t211) := ⟨by exact Kd.R_mono (Kd.R_far (p := ⟨gb207, 3, none⟩) (Kd.R_types HO213.out BK207.out (by decide)) (fun _ hk => hk.2) (.slice Ao37 y225.length co37)) (fun _ hk => ⟨hk.1.1.1, ⟨hk.1.1.2, hk.1.2⟩⟩)⟩
    have n1_ : Aside0 (Kd.R Kd.string 9 (w36.setCell ⟨gb207, 3, none⟩ (.slice Ao37 y225.length co37)) w.heap.size (fun k_ => (w.heap.size ≤ k_) ∧ some k_ ≠ (.slice Ao32 t211.length co32 : Value).ownBlock ∧ some k_ ≠ (.slice Ao37 y225.length co37 : Value).ownBlock) (.slice Ao34 t217.length co34) t217) := ⟨by exact Kd.R_mono (Kd.R_far (p := ⟨gb207, 3, none⟩) (Kd.R_types HO219.out BK207.out (by decide)) (fun _ hk => hk.2) (.slice Ao37 y225.length co37)) (fun _ hk => ⟨hk.1.1.1, ⟨hk.1.1.2, hk.1.2⟩⟩)⟩
    have n2_ : Aside0 (Kd.N k35 35 (w36.setCell ⟨gb207, 3, none⟩ (.slice Ao37 y225.length co37)) w.heap.size (fun k_ => (w.heap.size ≤ k_ ∨ okp k_) ∧ some k_ ≠ (.slice Ao32 t211.length co32 : Value).ownBlock ∧ some k_ ≠ (.slice Ao34 t217.length co34 : Value).ownBlock ∧ some k_ ≠ (.slice Ao37 y225.length co37 : Value).ownBlock ∧ k_ ≠ gb207 ∧ k_ ≠ gb208) (.slice Ao35 t220.length co35) t220) := ⟨by exact Kd.N_mono (Kd.N_far (p := ⟨gb207, 3, none⟩) (Kd.N_mono HO222.out (fun k_ hk => (⟨hk, hk.1.2.2.2.1⟩ : _ ∧ k_ ≠ gb207))) (fun _ hk => hk.2) (.slice Ao37 y225.length co37)) (fun _ hk => ⟨hk.1.1.1, ⟨hk.1.1.2.1, ⟨hk.1.1.2.2.1, ⟨hk.1.2, ⟨hk.1.1.2.2.2.1, hk.1.1.2.2.2.2⟩⟩⟩⟩⟩)⟩
    have n3_ : Aside0 (Kd.R Kd.string 9 (w36.setCell ⟨gb207, 3, none⟩ (.slice Ao37 y225.length co37)) w.heap.size (fun k_ => (w.heap.size ≤ k_) ∧ some k_ ≠ (.slice Ao32 t211.length co32 : Value).ownBlock ∧ some k_ ≠ (.slice Ao34 t217.length co34 : Value).ownBlock) (.slice Ao37 y225.length co37) y225) := ⟨by exact Kd.R_mono (Kd.R_far (p := ⟨gb207, 3, none⟩) (Kd.R_types HO227.out BK207.out (by decide)) (fun _ hk => hk.2) (.slice Ao37 y225.length co37)) (fun _ hk => ⟨hk.1.1, ⟨hk.1.2.1, hk.1.2.2⟩⟩)⟩
    have n4_ : Aside0 ((w36.setCell ⟨gb207, 3, none⟩ (.slice Ao37 y225.length co37)).heap[gb207]? = some (.cells #[.bool false, .bool t210, .slice Ao32 t211.length co32, .slice Ao37 y225.length co37, .slice Ao34 t217.length co34, .slice Ao35 t220.length co35, .bool t223, .bool t224] 25 (0, 0))) := ⟨by refine blk_put (cs := #[.bool false, .bool t210, .slice Ao32 t211.length co32, .slice Ao33 t214.length co33, .slice Ao34 t217.length co34, .slice Ao35 t220.length co35, .bool t223, .bool t224]) ?_ 3 _ rfl; exact BK207.out⟩
    have n5_ : Aside0 ((w36.setCell ⟨gb207, 3, none⟩ (.slice Ao37 y225.length co37)).heap[gb208]? = some (.cells #[.bool false, .bool false, .slice none 0 0, .slice none 0 0, .slice none 0 0, .slice none 0 0, .bool false, .bool false] 25 (0, 0))) := ⟨by refine blk_far ?_ NB208_207.out _; exact BK208.out⟩
    have n6_ : Aside0 (Below w.heap.size w (w36.setCell ⟨gb207, 3, none⟩ (.slice Ao37 y225.length co37))) := ⟨by repeat (first | (with_reducible first | exact HB.out | apply below_alloc | apply pw_below_drewN | apply below_drew1 | refine below_set ?_ GE207.out | refine below_set ?_ GE208.out) | exact HB.out)⟩
    (try clear HO213)
    (try clear HO219)
    (try clear HO222)
    (try clear HO227)
    (try clear BK207)
    (try clear BK208)
    (try clear HB)
    generalize (w36.setCell ⟨gb207, 3, none⟩ (.slice Ao37 y225.length co37)) = w39 at n0_ n1_ n2_ n3_ n4_ n5_ n6_ ⊢
    have HO213 := n0_
    have HO219 := n1_
    have HO222 := n2_
    have HO227 := n3_
    have BK207 := n4_
    have BK208 := n5_
    have HB := n6_
    clear n0_ n1_ n2_ n3_ n4_ n5_ n6_
    have n0_ := Aside0.mk (Kd.R_drew HO213.out)
    have n1_ := Aside0.mk (Kd.R_drew HO219.out)
    have n2_ := Aside0.mk (Kd.N_drew HO222.out)
    have n3_ := Aside0.mk (Kd.R_drew HO227.out)
    have n4_ := Aside0.mk (blk_drew BK207.out)
    have n5_ := Aside0.mk (blk_drew BK208.out)
    have n6_ := Aside0.mk (below_drew1 HB.out)
    clear HO213
    clear HO219
    clear HO222
    clear HO227
    clear BK207
    clear BK208
    clear HB
    have HO213 := n0_
    have HO219 := n1_
    have HO222 := n2_
    have HO227 := n3_
    have BK207 := n4_
    have BK208 := n5_
    have HB := n6_
    clear n0_ n1_ n2_ n3_ n4_ n5_ n6_
    refine start_ (n := 9) (S := fun w' => w'.cell? ⟨gb207, 0, none⟩ = some (.bool false) ∧ w'.cell? ⟨gb207, 1, none⟩ = some (.bool t210) ∧ w'.cell? ⟨gb207, 2, none⟩ = some (.slice Ao32 t211.length co32) ∧ w'.cell? ⟨gb207, 3, none⟩ = some (.slice Ao37 y225.length co37) ∧ w'.cell? ⟨gb207, 4, none⟩ = some (.slice Ao34 t217.length co34) ∧ w'.cell? ⟨gb207, 5, none⟩ = some (.slice Ao35 t220.length co35) ∧ w'.cell? ⟨gb207, 6, none⟩ = some (.bool t223) ∧ w'.cell? ⟨gb207, 7, none⟩ = some (.bool t224)) (ds := [8]) (tf 0 9) (by kernel_rfl) rfl rfl ⟨(blk_cell BK207.out 0).trans rfl, (blk_cell BK207.out 1).trans rfl, (blk_cell BK207.out 2).trans rfl, (blk_cell BK207.out 3).trans rfl, (blk_cell BK207.out 4).trans rfl, (blk_cell BK207.out 5).trans rfl, (blk_cell BK207.out 6).trans rfl, (blk_cell BK207.out 7).trans rfl⟩ (fun hHeld => ?_); refine with_tabW config_StripK.tab6 config_StripK.bits6 (fun HT_ HW_ => ?_)
    generalize w39.drew = w40 at HO213 HO219 HO222 HO227 BK207 BK208 HB hHeld ⊢
    refine pure_ (i := 0) (N := some 16) (v := ?_) (a' := ?_) (tf 1 8) rfl rfl (any_of HT_.out (by kernel_rfl)) (fun _ _ _ h => h) (Or.inl ⟨by rfl, ?_⟩) ?_ ?_
    rotate_left
    ·intro w'
     go_simp
     with_reducible rfl
    rotate_left
    ·simp only [Act.put, List.setIfInBounds_toArray, List.set_cons_zero, List.set_cons_succ, i64_w, i32_w]
     rfl
    refine pure_ (i := 3) (N := some 19) (v := ?_) (a' := ?_) #[true, false, false, true, false, false, false, false, false] rfl rfl (any_of HT_.out (by kernel_rfl)) (fun _ _ _ h => h) (Or.inl ⟨by rfl, ?_⟩) ?_ ?_
    rotate_left
    ·intro w'
     go_simp
     with_reducible rfl
    rotate_left
    ·simp only [Act.put, List.setIfInBounds_toArray, List.set_cons_zero, List.set_cons_succ, i64_w, i32_w]
     rfl
    refine take_ (i := 1) (N := some 17) (v := ?_) (a' := ?_) #[true, true, false, true, false, false, false, false, false] rfl rfl (take_ofW HT_.out HW_.out (by kernel_rfl)) (fun _ _ _ h => h) (Or.inl ⟨by rfl, ?_⟩) hHeld ?_ ?_
    rotate_left
    ·rintro w' ⟨s0, s1, s2, s3, s4, s5, s6, s7⟩
     go_simp
     with_reducible rfl
    rotate_left
    ·simp only [Act.put, List.setIfInBounds_toArray, List.set_cons_zero, List.set_cons_succ, i64_w, i32_w]
     rfl
    refine take_ (i := 4) (N := some 20) (v := ?_) (a' := ?_) #[true, true, false, true, true, false, false, false, false] rfl rfl (take_ofW HT_.out HW_.out (by kernel_rfl)) (fun _ _ _ h => h) (Or.inl ⟨by rfl, ?_⟩) hHeld ?_ ?_
    rotate_left
    ·rintro w' ⟨s0, s1, s2, s3, s4, s5, s6, s7⟩
     go_simp
     with_reducible rfl
    rotate_left
    ·simp only [Act.put, List.setIfInBounds_toArray, List.set_cons_zero, List.set_cons_succ, i64_w, i32_w]
     rfl
    refine one_ (i := 2) (N := some 18) (tf 5 4) rfl rfl (one_of HT_.out (by kernel_rfl)) (by decide) (fun K hK => ?_)
    refine goes_ Try.func39 (by kernel_rfl) rfl #[] (by rfl) rfl rfl (by (try simp only [List.map_toArray, List.map_cons, List.map_nil]); first | done | rfl | (simp only [List.length_drop, List.length_take]; rfl)) ?_
    with_reducible refine (config_unsafe.calls  t231 _ A23.out).mono ?_
    rintro e w41 ⟨v232, rfl, ho0, hb⟩
    refine ⟨_, rfl, ?_⟩
    have n0_ := Aside0.mk (Kd.R_elder' (by exact HO213.out) (Kd.R_base ho0) hb)
    have n1_ := Aside0.mk (Kd.R_elder' (by exact HO219.out) (Kd.R_base ho0) hb)
    have n2_ := Aside0.mk (Kd.N_elder' (by exact HO222.out) (Kd.R_base ho0) hb)
    have n3_ := Aside0.mk (Kd.R_elder' (by exact HO227.out) (Kd.R_base ho0) hb)
    have n4_ := Aside0.mk (Kd.R_lower (Kd.R_new' (Kd.R_new' (Kd.R_new' (Kd.R_newM (M := fun k_ => (w.heap.size ≤ k_)) ho0 (below_size (by repeat (first | (with_reducible first | exact HB.out | apply below_alloc | apply pw_below_drewN | apply below_drew1 | refine below_set ?_ GE207.out | refine below_set ?_ GE208.out) | exact HB.out))) (fun k_ h_ => h_)) (Kd.R_lt (by exact HO213.out))) (Kd.R_lt (by exact HO219.out))) (Kd.R_lt (by exact HO227.out))) (below_size (by repeat (first | (with_reducible first | exact HB.out | apply below_alloc | apply pw_below_drewN | apply below_drew1 | refine below_set ?_ GE207.out | refine below_set ?_ GE208.out) | exact HB.out))))
    have n5_ := Aside0.mk (blk_below (g := gb207) (o := .cells #[.bool false, .bool t210, .slice Ao32 t211.length co32, .slice Ao37 y225.length co37, .slice Ao34 t217.length co34, .slice Ao35 t220.length co35, .bool t223, .bool t224] 25 (0, 0)) (by exact BK207.out) hb)
    have n6_ := Aside0.mk (blk_below (g := gb208) (o := .cells #[.bool false, .bool false, .slice none 0 0, .slice none 0 0, .slice none 0 0, .slice none 0 0, .bool false, .bool false] 25 (0, 0)) (by exact BK208.out) hb)
    have n7_ := Aside0.mk (below_step (by repeat (first | (with_reducible first | exact HB.out | apply below_alloc | apply pw_below_drewN | apply below_drew1 | refine below_set ?_ GE207.out | refine below_set ?_ GE208.out) | exact HB.out)) hb)
    clear HO213
    clear HO219
    clear HO222
    clear HO227
    clear BK207
    clear BK208
    clear HB
    have HO213 := n0_
    have HO219 := n1_
    have HO222 := n2_
    have HO227 := n3_
    have HO233 := n4_
    have BK207 := n5_
    have BK208 := n6_
    have HB := n7_
    clear n0_ n1_ n2_ n3_ n4_ n5_ n6_ n7_
    (try clear hb)
    (try clear hb2)
    (try clear hk)
    (try clear hi)
    (try clear ho0)
    obtain ⟨Ao42, co42, eo42⟩ := Kd.R_slice HO233.out
    (first | subst eo42 | (injection eo42 with f1_ f2_ f3_; have f4_ := f1_.symm; have f5_ := f3_.symm; clear f1_ f2_ f3_; subst f4_; subst f5_))
    refine hK.out _ _ ⟨(blk_cell BK207.out 0).trans rfl, (blk_cell BK207.out 1).trans rfl, (blk_cell BK207.out 2).trans rfl, (blk_cell BK207.out 3).trans rfl, (blk_cell BK207.out 4).trans rfl, (blk_cell BK207.out 5).trans rfl, (blk_cell BK207.out 6).trans rfl, (blk_cell BK207.out 7).trans rfl⟩ (fun hHeld => ?_)
    clear hK K
    refine norm_ (a' := ?_) ?_ ?_
    rotate_left
    ·show Act.put _ (some 18) _ = _
     simp only [Act.put, List.setIfInBounds_toArray, List.set_cons_zero, List.set_cons_succ, i64_w, i32_w]
     rfl
    refine one_ (i := 5) (N := some 21) (tf 6 3) rfl rfl (one_of HT_.out (by kernel_rfl)) (by decide) (fun K hK => ?_)
    refine goes_ Try.func38 (by kernel_rfl) rfl #[.slice Ao42 t231.length co42, .slice Ao32 t211.length co32] (by rfl) rfl rfl (by (try simp only [List.map_toArray, List.map_cons, List.map_nil]); first | done | rfl | (simp only [List.length_drop, List.length_take]; rfl)) ?_
    with_reducible refine (fold_Minus.calls k _ _ t231 _ _ t211 t234 _ ?side1 ?side2 ?side3 ?side4 A24.out).mono ?_
    (case side1 => repeat (first | exact (Kd.R_reads' HO233.out).2.2 | (with_reducible refine Kd.C_alloc ?_ _) | (with_reducible refine Kd.C_drewN ?_ _) | (with_reducible refine Kd.C_drew ?_)))
    (case side2 => exact (Kd.R_reads' HO233.out).2.1)
    (case side3 => repeat (first | exact (Kd.R_reads' HO213.out).2.2 | (with_reducible refine Kd.C_alloc ?_ _) | (with_reducible refine Kd.C_drewN ?_ _) | (with_reducible refine Kd.C_drew ?_)))
    (case side4 => exact (Kd.R_reads' HO213.out).2.1)
    rintro e w43 ⟨v235, rfl, ho0, hb⟩
    refine ⟨_, rfl, ?_⟩
    have n0_ := Aside0.mk (Kd.R_elder' (by exact HO213.out) (Kd.R_base ho0) hb)
    have n1_ := Aside0.mk (Kd.R_elder' (by exact HO219.out) (Kd.R_base ho0) hb)
    have n2_ := Aside0.mk (Kd.N_elder' (by exact HO222.out) (Kd.R_base ho0) hb)
    have n3_ := Aside0.mk (Kd.R_elder' (by exact HO227.out) (Kd.R_base ho0) hb)
    have n4_ := Aside0.mk (Kd.R_elder' (by exact HO233.out) (Kd.R_base ho0) hb)
    have n5_ := Aside0.mk (Kd.R_lower (Kd.R_new' (Kd.R_new' (Kd.R_new' (Kd.R_new' (Kd.R_newM (M := fun k_ => (w.heap.size ≤ k_)) ho0 (below_size (by repeat (first | (with_reducible first | exact HB.out | apply below_alloc | apply pw_below_drewN | apply below_drew1 | refine below_set ?_ GE207.out | refine below_set ?_ GE208.out) | exact HB.out))) (fun k_ h_ => h_)) (Kd.R_lt (by exact HO213.out))) (Kd.R_lt (by exact HO219.out))) (Kd.R_lt (by exact HO227.out))) (Kd.R_lt (by exact HO233.out))) (below_size (by repeat (first | (with_reducible first | exact HB.out | apply below_alloc | apply pw_below_drewN | apply below_drew1 | refine below_set ?_ GE207.out | refine below_set ?_ GE208.out) | exact HB.out))))
    have n6_ := Aside0.mk (blk_below (g := gb207) (o := .cells #[.bool false, .bool t210, .slice Ao32 t211.length co32, .slice Ao37 y225.length co37, .slice Ao34 t217.length co34, .slice Ao35 t220.length co35, .bool t223, .bool t224] 25 (0, 0)) (by exact BK207.out) hb)
    have n7_ := Aside0.mk (blk_below (g := gb208) (o := .cells #[.bool false, .bool false, .slice none 0 0, .slice none 0 0, .slice none 0 0, .slice none 0 0, .bool false, .bool false] 25 (0, 0)) (by exact BK208.out) hb)
    have n8_ := Aside0.mk (below_step (by repeat (first | (with_reducible first | exact HB.out | apply below_alloc | apply pw_below_drewN | apply below_drew1 | refine below_set ?_ GE207.out | refine below_set ?_ GE208.out) | exact HB.out)) hb)
    clear HO213
    clear HO219
    clear HO222
    clear HO227
    clear HO233
    clear BK207
    clear BK208
    clear HB
    have HO213 := n0_
    have HO219 := n1_
    have HO222 := n2_
    have HO227 := n3_
    have HO233 := n4_
    have HO236 := n5_
    have BK207 := n6_
    have BK208 := n7_
    have HB := n8_
    clear n0_ n1_ n2_ n3_ n4_ n5_ n6_ n7_ n8_
    (try clear hb)
    (try clear hb2)
    (try clear hk)
    (try clear hi)
    (try clear ho0)
    obtain ⟨Ao45, co45, eo45⟩ := Kd.R_slice HO236.out
    (first | subst eo45 | (injection eo45 with f1_ f2_ f3_; have f4_ := f1_.symm; have f5_ := f3_.symm; clear f1_ f2_ f3_; subst f4_; subst f5_))
    refine hK.out _ _ ⟨(blk_cell BK207.out 0).trans rfl, (blk_cell BK207.out 1).trans rfl, (blk_cell BK207.out 2).trans rfl, (blk_cell BK207.out 3).trans rfl, (blk_cell BK207.out 4).trans rfl, (blk_cell BK207.out 5).trans rfl, (blk_cell BK207.out 6).trans rfl, (blk_cell BK207.out 7).trans rfl⟩ (fun hHeld => ?_)
    clear hK K
    refine norm_ (a' := ?_) ?_ ?_
    rotate_left
    ·show Act.put _ (some 21) _ = _
     simp only [Act.put, List.setIfInBounds_toArray, List.set_cons_zero, List.set_cons_succ, i64_w, i32_w]
     rfl
    refine one_ (i := 6) (N := some 22) (tf 7 2) rfl rfl (one_of HT_.out (by kernel_rfl)) (by decide) (fun K hK => ?_)
    refine Kd.R_append_rows_step Kd.string (w0 := w) w.heap.size (by rfl) (.tmp 17) (.tmp 21) 22 9 (.string ⟨#[]⟩) 16 rfl Try.underlying22 info9 rfl (by decide) (by omega) (.slice Ao32 t211.length co32) t211 t234 _ _ _ (fun k_ => (w.heap.size ≤ k_) ∧ some k_ ≠ (.slice Ao34 t217.length co34 : Value).ownBlock ∧ some k_ ≠ (.slice Ao37 y225.length co37 : Value).ownBlock ∧ some k_ ≠ (.slice Ao42 t231.length co42 : Value).ownBlock ∧ some k_ ≠ (.slice Ao45 t234.length co45 : Value).ownBlock) (fun _ => False) rfl rfl ?aO ?aR (fun _ _ h => h) (fun _ h => h.elim) ?aF ?aB ?aS ?aL ?_
    (case aR => repeat (first | exact (Kd.R_reads' HO236.out).2.2 | (with_reducible refine Kd.C_alloc ?_ _) | (with_reducible refine Kd.C_drewN ?_ _) | (with_reducible refine Kd.C_drew ?_)))
    (case aB => exact (by repeat (first | (with_reducible first | exact HB.out | apply below_alloc | apply pw_below_drewN | apply below_drew1 | refine below_set ?_ GE207.out | refine below_set ?_ GE208.out) | exact HB.out)))
    (case aF => exact (fun k_ hk => ⟨(Nat.le_trans (below_size (by repeat (first | (with_reducible first | exact HB.out | apply below_alloc | apply pw_below_drewN | apply below_drew1 | refine below_set ?_ GE207.out | refine below_set ?_ GE208.out) | exact HB.out))) hk), Kd.fresh' (Kd.R_lt (by exact HO219.out)) k_ hk, Kd.fresh' (Kd.R_lt (by exact HO227.out)) k_ hk, Kd.fresh' (Kd.R_lt (by exact HO233.out)) k_ hk, Kd.fresh' (Kd.R_lt (by exact HO236.out)) k_ hk⟩))
    (case aO => exact (by exact Kd.R_mono HO213.out (fun _ hk => ⟨hk.1.1.1, ⟨hk.1.1.2.1, ⟨hk.1.1.2.2, ⟨hk.1.2, hk.2⟩⟩⟩⟩)))
    (case aS => exact (below_size (by repeat (first | (with_reducible first | exact HB.out | apply below_alloc | apply pw_below_drewN | apply below_drew1 | refine below_set ?_ GE207.out | refine below_set ?_ GE208.out) | exact HB.out))))
    (case aL => have := LMc25.out; omega)
    intro v238 w44 ho hb hg hat
    rw [← Ny237.out] at ho
    have n0_ := Aside0.mk (blk_grown (g := gb207) (o := .cells #[.bool false, .bool t210, .slice Ao32 t211.length co32, .slice Ao37 y225.length co37, .slice Ao34 t217.length co34, .slice Ao35 t220.length co35, .bool t223, .bool t224] 25 (0, 0)) (by exact BK207.out) hg (Kd.R_ne HO213.out BK207.out (by decide)))
    have n1_ := Aside0.mk (blk_grown (g := gb208) (o := .cells #[.bool false, .bool false, .slice none 0 0, .slice none 0 0, .slice none 0 0, .slice none 0 0, .bool false, .bool false] 25 (0, 0)) (by exact BK208.out) hg (Kd.R_ne HO213.out BK208.out (by decide)))
    have n2_ := Aside0.mk (Kd.R_after (ok := (fun k_ => (w.heap.size ≤ k_) ∧ some k_ ≠ (.slice Ao37 y225.length co37 : Value).ownBlock ∧ some k_ ≠ (.slice Ao42 t231.length co42 : Value).ownBlock ∧ some k_ ≠ (.slice Ao45 t234.length co45 : Value).ownBlock)) (by exact Kd.R_mono HO219.out (fun _ hk => ⟨⟨hk.1.1.1, ⟨hk.1.1.2.2, ⟨hk.1.2, hk.2⟩⟩⟩, hk.1.1.2.1⟩)) hg hat)
    have n3_ := Aside0.mk (Kd.N_afterv (ok := (fun k_ => (w.heap.size ≤ k_ ∨ okp k_) ∧ some k_ ≠ (.slice Ao34 t217.length co34 : Value).ownBlock ∧ some k_ ≠ (.slice Ao37 y225.length co37 : Value).ownBlock ∧ some k_ ≠ (.slice Ao42 t231.length co42 : Value).ownBlock ∧ some k_ ≠ (.slice Ao45 t234.length co45 : Value).ownBlock ∧ k_ ≠ gb207 ∧ k_ ≠ gb208)) (by exact Kd.N_mono HO222.out (fun _ hk => ⟨⟨hk.1.1.1, ⟨hk.1.1.2.2.1, ⟨hk.1.1.2.2.2.1, ⟨hk.1.2, ⟨hk.2, ⟨hk.1.1.2.2.2.2.1, hk.1.1.2.2.2.2.2⟩⟩⟩⟩⟩⟩, hk.1.1.2.1⟩)) hg hat)
    have n4_ := Aside0.mk (Kd.R_after (ok := (fun k_ => (w.heap.size ≤ k_) ∧ some k_ ≠ (.slice Ao34 t217.length co34 : Value).ownBlock ∧ some k_ ≠ (.slice Ao42 t231.length co42 : Value).ownBlock ∧ some k_ ≠ (.slice Ao45 t234.length co45 : Value).ownBlock)) (by exact Kd.R_mono HO227.out (fun _ hk => ⟨⟨hk.1.1.1, ⟨hk.1.1.2.2, ⟨hk.1.2, hk.2⟩⟩⟩, hk.1.1.2.1⟩)) hg hat)
    have n5_ := Aside0.mk (Kd.R_after (ok := (fun k_ => (w.heap.size ≤ k_) ∧ some k_ ≠ (.slice Ao34 t217.length co34 : Value).ownBlock ∧ some k_ ≠ (.slice Ao37 y225.length co37 : Value).ownBlock ∧ some k_ ≠ (.slice Ao45 t234.length co45 : Value).ownBlock)) (by exact Kd.R_mono HO233.out (fun _ hk => ⟨⟨hk.1.1.1.1.1, ⟨hk.1.1.2, ⟨hk.1.2, hk.2⟩⟩⟩, hk.1.1.1.2⟩)) hg hat)
    have n6_ := Aside0.mk (Kd.R_after (ok := (fun k_ => (w.heap.size ≤ k_) ∧ some k_ ≠ (.slice Ao34 t217.length co34 : Value).ownBlock ∧ some k_ ≠ (.slice Ao37 y225.length co37 : Value).ownBlock ∧ some k_ ≠ (.slice Ao42 t231.length co42 : Value).ownBlock)) (by exact Kd.R_mono HO236.out (fun _ hk => ⟨⟨hk.1.1.1.1.1, ⟨hk.1.1.2, ⟨hk.1.2, hk.2⟩⟩⟩, hk.1.1.1.2⟩)) hg hat)
    have n7_ := Aside0.mk (hb)
    have n8_ := Aside0.mk (ho)
    clear BK207
    clear BK208
    clear HO219
    clear HO222
    clear HO227
    clear HO233
    clear HO236
    clear HB
    clear HO213
    have BK207 := n0_
    have BK208 := n1_
    have HO219 := n2_
    have HO222 := n3_
    have HO227 := n4_
    have HO233 := n5_
    have HO236 := n6_
    have HB := n7_
    have HO239 := n8_
    clear n0_ n1_ n2_ n3_ n4_ n5_ n6_ n7_ n8_
    clear ho hb hg hat
    obtain ⟨Ao46, co46, eo46⟩ := Kd.R_slice HO239.out
    (first | subst eo46 | (injection eo46 with f1_ f2_ f3_; have f4_ := f1_.symm; have f5_ := f3_.symm; clear f1_ f2_ f3_; subst f4_; subst f5_))
    refine hK.out _ _ ⟨(blk_cell BK207.out 0).trans rfl, (blk_cell BK207.out 1).trans rfl, (blk_cell BK207.out 2).trans rfl, (blk_cell BK207.out 3).trans rfl, (blk_cell BK207.out 4).trans rfl, (blk_cell BK207.out 5).trans rfl, (blk_cell BK207.out 6).trans rfl, (blk_cell BK207.out 7).trans rfl⟩ (fun hHeld => ?_)
    clear hK K
    refine norm_ (a' := ?_) ?_ ?_
    rotate_left
    ·show Act.put _ (some 22) _ = _
     simp only [Act.put, List.setIfInBounds_toArray, List.set_cons_zero, List.set_cons_succ, i64_w, i32_w]
     rfl
    refine pure_ (i := 7) (N := some 23) (v := ?_) (a' := ?_) (tf 8 1) rfl rfl (any_of HT_.out (by kernel_rfl)) (fun _ _ _ h => h) (Or.inl ⟨by rfl, ?_⟩) ?_ ?_
    rotate_left
    ·intro w'
     go_simp
     with_reducible rfl
    rotate_left
    ·simp only [Act.put, List.setIfInBounds_toArray, List.set_cons_zero, List.set_cons_succ, i64_w, i32_w]
     rfl
    refine last_ (i := 8) (N := none) (tf 9 0) rfl rfl (one_of HT_.out (by kernel_rfl)) (by decide) (fun K hK => ?_)
    have hs47 : w44.cell? ⟨gb207, 2, none⟩ = some (.slice Ao32 t211.length co32) := (blk_cell BK207.out 2).trans rfl
    have hfs47 := blk_frozen BK207.out 2
    have hns47_1 := NB208_207.out
    have hms47_1 := NB207_208.out
    refine skip_ (w1 := ?_) (by rfl) rfl ?_ ?_
    rotate_left
    ·go_simp
     rfl
    refine hK.out _ _ ?_
    clear hK K
    refine done_ (done_of HT_.out (by kernel_rfl)) ?_
    have hcz48_0 : w44.cell? ⟨gb207, 0, none⟩ = some (.bool false) := (blk_cell BK207.out 0).trans rfl
    have hcz48_1 : w44.cell? ⟨gb207, 1, none⟩ = some (.bool t210) := (blk_cell BK207.out 1).trans rfl
    have hcz48_2 : w44.cell? ⟨gb207, 2, none⟩ = some (.slice Ao32 t211.length co32) := (blk_cell BK207.out 2).trans rfl
    have hcz48_3 : w44.cell? ⟨gb207, 3, none⟩ = some (.slice Ao37 y225.length co37) := (blk_cell BK207.out 3).trans rfl
    have hcz48_4 : w44.cell? ⟨gb207, 4, none⟩ = some (.slice Ao34 t217.length co34) := (blk_cell BK207.out 4).trans rfl
    have hcz48_5 : w44.cell? ⟨gb207, 5, none⟩ = some (.slice Ao35 t220.length co35) := (blk_cell BK207.out 5).trans rfl
    have hcz48_6 : w44.cell? ⟨gb207, 6, none⟩ = some (.bool t223) := (blk_cell BK207.out 6).trans rfl
    have hcz48_7 : w44.cell? ⟨gb207, 7, none⟩ = some (.bool t224) := (blk_cell BK207.out 7).trans rfl
    have hfz48_0 := blk_frozen BK207.out 0
    have hfz48_1 := blk_frozen BK207.out 1
    have hfz48_2 := blk_frozen BK207.out 2
    have hfz48_3 := blk_frozen BK207.out 3
    have hfz48_4 := blk_frozen BK207.out 4
    have hfz48_5 := blk_frozen BK207.out 5
    have hfz48_6 := blk_frozen BK207.out 6
    have hfz48_7 := blk_frozen BK207.out 7
    have hcz49_0 : w44.cell? ⟨gb208, 0, none⟩ = some (.bool false) := (blk_cell BK208.out 0).trans rfl
    have hcz49_1 : w44.cell? ⟨gb208, 1, none⟩ = some (.bool false) := (blk_cell BK208.out 1).trans rfl
    have hcz49_2 : w44.cell? ⟨gb208, 2, none⟩ = some (.slice none 0 0) := (blk_cell BK208.out 2).trans rfl
    have hcz49_3 : w44.cell? ⟨gb208, 3, none⟩ = some (.slice none 0 0) := (blk_cell BK208.out 3).trans rfl
    have hcz49_4 : w44.cell? ⟨gb208, 4, none⟩ = some (.slice none 0 0) := (blk_cell BK208.out 4).trans rfl
    have hcz49_5 : w44.cell? ⟨gb208, 5, none⟩ = some (.slice none 0 0) := (blk_cell BK208.out 5).trans rfl
    have hcz49_6 : w44.cell? ⟨gb208, 6, none⟩ = some (.bool false) := (blk_cell BK208.out 6).trans rfl
    have hcz49_7 : w44.cell? ⟨gb208, 7, none⟩ = some (.bool false) := (blk_cell BK208.out 7).trans rfl
    have hfz49_0 := blk_frozen BK208.out 0
    have hfz49_1 := blk_frozen BK208.out 1
    have hfz49_2 := blk_frozen BK208.out 2
    have hfz49_3 := blk_frozen BK208.out 3
    have hfz49_4 := blk_frozen BK208.out 4
    have hfz49_5 := blk_frozen BK208.out 5
    have hfz49_6 := blk_frozen BK208.out 6
    have hfz49_7 := blk_frozen BK208.out 7
    try go_wp2
    refine bodyPost_ret (results_cell_row rfl _ _ gb208 25 #[.bool false, .bool t210, .slice Ao46 y237.length co46, .slice Ao37 y225.length co37, .slice Ao34 t217.length co34, .slice Ao35 t220.length co35, .bool t223, .bool t224] (0, 0) _ rfl (by refine blk_put (cs := #[.bool false, .bool t210, .slice Ao46 y237.length co46, .slice Ao37 y225.length co37, .slice Ao34 t217.length co34, .slice Ao35 t220.length co35, .bool t223, .bool false]) ?_ 7 _ rfl; refine blk_put (cs := #[.bool false, .bool t210, .slice Ao46 y237.length co46, .slice Ao37 y225.length co37, .slice Ao34 t217.length co34, .slice Ao35 t220.length co35, .bool false, .bool false]) ?_ 6 _ rfl; refine blk_put (cs := #[.bool false, .bool t210, .slice Ao46 y237.length co46, .slice Ao37 y225.length co37, .slice Ao34 t217.length co34, .slice none 0 0, .bool false, .bool false]) ?_ 5 _ rfl; refine blk_put (cs := #[.bool false, .bool t210, .slice Ao46 y237.length co46, .slice Ao37 y225.length co37, .slice none 0 0, .slice none 0 0, .bool false, .bool false]) ?_ 4 _ rfl; refine blk_put (cs := #[.bool false, .bool t210, .slice Ao46 y237.length co46, .slice none 0 0, .slice none 0 0, .slice none 0 0, .bool false, .bool false]) ?_ 3 _ rfl; refine blk_put (cs := #[.bool false, .bool t210, .slice none 0 0, .slice none 0 0, .slice none 0 0, .slice none 0 0, .bool false, .bool false]) ?_ 2 _ rfl; refine blk_put (cs := #[.bool false, .bool false, .slice none 0 0, .slice none 0 0, .slice none 0 0, .slice none 0 0, .bool false, .bool false]) ?_ 1 _ rfl; refine blk_put (cs := #[.bool false, .bool false, .slice none 0 0, .slice none 0 0, .slice none 0 0, .slice none 0 0, .bool false, .bool false]) ?_ 0 _ rfl; refine blk_far ?_ NB208_207.out _; exact BK208.out) Try.underlying25 rfl (by kernel_rfl)) rfl ?_
    exact ⟨_, _, _, _, by first | rfl | (simp [errW_none, errW_some] <;> rfl) | (simp [*, errW_none, errW_some] <;> rfl), by exact Kd.R_mono (Kd.R_far (p := ⟨gb208, 7, none⟩) (Kd.R_far (p := ⟨gb208, 6, none⟩) (Kd.R_far (p := ⟨gb208, 5, none⟩) (Kd.R_far (p := ⟨gb208, 4, none⟩) (Kd.R_far (p := ⟨gb208, 3, none⟩) (Kd.R_far (p := ⟨gb208, 2, none⟩) (Kd.R_far (p := ⟨gb208, 1, none⟩) (Kd.R_far (p := ⟨gb208, 0, none⟩) (Kd.R_far (p := ⟨gb207, 2, none⟩) (Kd.R_types (Kd.R_types HO239.out BK207.out (by decide)) BK208.out (by decide)) (fun _ hk => hk.1.2) (.slice Ao46 y237.length co46)) (fun _ hk => hk.2) (.bool false)) (fun _ hk => hk.2) (.bool t210)) (fun _ hk => hk.2) (.slice Ao46 y237.length co46)) (fun _ hk => hk.2) (.slice Ao37 y225.length co37)) (fun _ hk => hk.2) (.slice Ao34 t217.length co34)) (fun _ hk => hk.2) (.slice Ao35 t220.length co35)) (fun _ hk => hk.2) (.bool t223)) (fun _ hk => hk.2) (.bool t224)) (fun _ hk => ⟨hk.1.1.1, ⟨hk.1.1.2.2.1, hk.1.1.2.1⟩⟩), by exact Kd.R_mono (Kd.R_far (p := ⟨gb208, 7, none⟩) (Kd.R_far (p := ⟨gb208, 6, none⟩) (Kd.R_far (p := ⟨gb208, 5, none⟩) (Kd.R_far (p := ⟨gb208, 4, none⟩) (Kd.R_far (p := ⟨gb208, 3, none⟩) (Kd.R_far (p := ⟨gb208, 2, none⟩) (Kd.R_far (p := ⟨gb208, 1, none⟩) (Kd.R_far (p := ⟨gb208, 0, none⟩) (Kd.R_far (p := ⟨gb207, 2, none⟩) (Kd.R_types (Kd.R_types HO227.out BK207.out (by decide)) BK208.out (by decide)) (fun _ hk => hk.1.2) (.slice Ao46 y237.length co46)) (fun _ hk => hk.2) (.bool false)) (fun _ hk => hk.2) (.bool t210)) (fun _ hk => hk.2) (.slice Ao46 y237.length co46)) (fun _ hk => hk.2) (.slice Ao37 y225.length co37)) (fun _ hk => hk.2) (.slice Ao34 t217.length co34)) (fun _ hk => hk.2) (.slice Ao35 t220.length co35)) (fun _ hk => hk.2) (.bool t223)) (fun _ hk => hk.2) (.bool t224)) (fun _ hk => ⟨hk.1.1.1.1, ⟨hk.1.1.2, hk.1.1.1.2.1⟩⟩), by exact Kd.R_mono (Kd.R_far (p := ⟨gb208, 7, none⟩) (Kd.R_far (p := ⟨gb208, 6, none⟩) (Kd.R_far (p := ⟨gb208, 5, none⟩) (Kd.R_far (p := ⟨gb208, 4, none⟩) (Kd.R_far (p := ⟨gb208, 3, none⟩) (Kd.R_far (p := ⟨gb208, 2, none⟩) (Kd.R_far (p := ⟨gb208, 1, none⟩) (Kd.R_far (p := ⟨gb208, 0, none⟩) (Kd.R_far (p := ⟨gb207, 2, none⟩) (Kd.R_types (Kd.R_types HO219.out BK207.out (by decide)) BK208.out (by decide)) (fun _ hk => hk.1.2) (.slice Ao46 y237.length co46)) (fun _ hk => hk.2) (.bool false)) (fun _ hk => hk.2) (.bool t210)) (fun _ hk => hk.2) (.slice Ao46 y237.length co46)) (fun _ hk => hk.2) (.slice Ao37 y225.length co37)) (fun _ hk => hk.2) (.slice Ao34 t217.length co34)) (fun _ hk => hk.2) (.slice Ao35 t220.length co35)) (fun _ hk => hk.2) (.bool t223)) (fun _ hk => hk.2) (.bool t224)) (fun _ hk => ⟨hk.1.1.1.1, ⟨hk.1.1.2, hk.1.1.1.2.1⟩⟩), by exact Kd.N_mono (Kd.N_far (p := ⟨gb208, 7, none⟩) (Kd.N_far (p := ⟨gb208, 6, none⟩) (Kd.N_far (p := ⟨gb208, 5, none⟩) (Kd.N_far (p := ⟨gb208, 4, none⟩) (Kd.N_far (p := ⟨gb208, 3, none⟩) (Kd.N_far (p := ⟨gb208, 2, none⟩) (Kd.N_far (p := ⟨gb208, 1, none⟩) (Kd.N_far (p := ⟨gb208, 0, none⟩) (Kd.N_far (p := ⟨gb207, 2, none⟩) (Kd.N_mono (Kd.N_mono HO222.out (fun k_ hk => (⟨hk, hk.1.2.2.2.2.2.1⟩ : _ ∧ k_ ≠ gb207))) (fun k_ hk => (⟨hk, hk.1.1.2.2.2.2.2.2⟩ : _ ∧ k_ ≠ gb208))) (fun _ hk => hk.1.2) (.slice Ao46 y237.length co46)) (fun _ hk => hk.2) (.bool false)) (fun _ hk => hk.2) (.bool t210)) (fun _ hk => hk.2) (.slice Ao46 y237.length co46)) (fun _ hk => hk.2) (.slice Ao37 y225.length co37)) (fun _ hk => hk.2) (.slice Ao34 t217.length co34)) (fun _ hk => hk.2) (.slice Ao35 t220.length co35)) (fun _ hk => hk.2) (.bool t223)) (fun _ hk => hk.2) (.bool t224)) (fun _ hk => ⟨hk.1.1.1.1, ⟨hk.1.1.2, ⟨hk.1.1.1.2.2.1, hk.1.1.1.2.1⟩⟩⟩), by repeat (first | (with_reducible first | exact HB.out | apply below_alloc | apply pw_below_drewN | apply below_drew1 | refine below_set ?_ GE207.out | refine below_set ?_ GE208.out) | exact HB.out)⟩
   ·rw [if_neg c25] at H
    exact absurd H (by simp)
 ·rw [if_neg c3] at H
  exact absurd H (by simp)

end Go.Proofs.Ytjofofpplpmgjaa.Pr
namespace Go.Proofs.Ytjofofpplpmgjaa.Pr
set_option linter.unusedVariables false
set_option linter.unusedSimpArgs false
open Go.RowKit Go.Lib Go.Shelf Go.Proofs.Ytjofofpplpmgjaa Go.Proofs.Ytjofofpplpmgjaa.Pure Go.Proofs.YtjofofpplpmgjaaW.PrintWords Go.Proofs.YtjofofpplpmgjaaW.PrintLast Go.Proofs.YtjofofpplpmgjaaW.PrintMore

def fitB (c : Cf) : Bool := decide (c.els.length ≤ 1000) && decide (c.rep.length ≤ 1000) && decide (c.ats.length ≤ 1000) && decide (c.per.length ≤ 1000) && c.per.all fun p => decide (p.f1.length ≤ 1000)
theorem fit_of {c : Cf} (h : fitB c = true) : Fit c := by
  unfold fitB at h
  simp only [Bool.and_eq_true, decide_eq_true_eq, List.all_eq_true] at h
  exact ⟨h.1.1.1.1, h.1.1.1.2, h.1.1.2, h.1.2, h.2⟩
theorem of_fit {c : Cf} (h : Fit c) : fitB c = true := by
  unfold fitB
  simp only [Bool.and_eq_true, decide_eq_true_eq, List.all_eq_true]
  exact ⟨⟨⟨⟨h.1, h.2⟩, h.3⟩, h.4⟩, h.5⟩
def shortB (x : ByteArray) : Bool := decide (x.size ≤ 4000000000000000000)
def textB (c : Cf) : Bool := ((rowsE c).all fun l => l.all shortB) && (rowsA c).all fun l => l.all shortB
theorem text_of {c : Cf} (h : textB c = true) : Text c := by
  unfold textB shortB at h
  simp only [Bool.and_eq_true, decide_eq_true_eq, List.all_eq_true] at h
  exact h
theorem of_text {c : Cf} (h : Text c) : textB c = true := by
  unfold textB shortB
  simp only [Bool.and_eq_true, decide_eq_true_eq, List.all_eq_true]
  exact h
def config_Attr.f (a0 a1 : Bool) (l2 l3 l4 : List ByteArray) (l5 : List S35) (a6 a7 : Bool) (e a : ByteArray) : Option Bool :=
  if fitB ⟨a0, a1, l2, l3, l4, l5, a6, a7⟩ = true then some (attrB ⟨a0, a1, l2, l3, l4, l5, a6, a7⟩ e a) else none
theorem config_Attr.calls (a0 a1 : Bool) (A2 : Option Addr) (c2 : Nat) (l2 : List ByteArray) (A3 : Option Addr) (c3 : Nat) (l3 : List ByteArray) (A4 : Option Addr) (c4 : Nat) (l4 : List ByteArray) (A5 : Option Addr) (c5 : Nat) (l5 : List S35) (a6 a7 : Bool) (e a : ByteArray) (r : Bool) (w : World)
    (hr2 : Kd.C Kd.string w A2 l2.length l2) (hc2 : l2.length ≤ c2) (hr3 : Kd.C Kd.string w A3 l3.length l3) (hc3 : l3.length ≤ c3) (hr4 : Kd.C Kd.string w A4 l4.length l4) (hc4 : l4.length ≤ c4) (hr5 : Kd.C k35 w A5 l5.length l5) (hc5 : l5.length ≤ c5) (h : config_Attr.f a0 a1 l2 l3 l4 l5 a6 a7 e a = some r) :
    Calls Try.prog 15 #[.agg #[.bool a0, .bool a1, .slice A2 l2.length c2, .slice A3 l3.length c3, .slice A4 l4.length c4, .slice A5 l5.length c5, .bool a6, .bool a7], .string e, .string a] w fun x w' => x = .returned (.bool r) ∧ Below w.heap.size w w' := by
  unfold config_Attr.f at h
  split at h
  case isFalse => cases h
  rename_i hf
  obtain rfl := Option.some.inj h
  exact attr_calls (c := ⟨a0, a1, l2, l3, l4, l5, a6, a7⟩) (fit_of hf) e a ⟨_, _, _, _, rfl, ⟨A2, c2, rfl, hc2, hr2⟩, ⟨A3, c3, rfl, hc3, hr3⟩, ⟨A4, c4, rfl, hc4, hr4⟩, ⟨A5, c5, rfl, hc5, hr5⟩⟩
def config_Check.f (a0 a1 : Bool) (l2 l3 l4 : List ByteArray) (l5 : List S35) (a6 a7 : Bool) : Option Int :=
  if fitB ⟨a0, a1, l2, l3, l4, l5, a6, a7⟩ = true ∧ textB ⟨a0, a1, l2, l3, l4, l5, a6, a7⟩ = true then some (checkI ⟨a0, a1, l2, l3, l4, l5, a6, a7⟩) else none
theorem config_Check.calls (a0 a1 : Bool) (A2 : Option Addr) (c2 : Nat) (l2 : List ByteArray) (A3 : Option Addr) (c3 : Nat) (l3 : List ByteArray) (A4 : Option Addr) (c4 : Nat) (l4 : List ByteArray) (A5 : Option Addr) (c5 : Nat) (l5 : List S35) (a6 a7 : Bool) (r : Int) (w : World)
    (hr2 : Kd.C Kd.string w A2 l2.length l2) (hc2 : l2.length ≤ c2) (hr3 : Kd.C Kd.string w A3 l3.length l3) (hc3 : l3.length ≤ c3) (hr4 : Kd.C Kd.string w A4 l4.length l4) (hc4 : l4.length ≤ c4) (hr5 : Kd.C k35 w A5 l5.length l5) (hc5 : l5.length ≤ c5) (h : config_Check.f a0 a1 l2 l3 l4 l5 a6 a7 = some r) :
    Calls Try.prog 18 #[.agg #[.bool a0, .bool a1, .slice A2 l2.length c2, .slice A3 l3.length c3, .slice A4 l4.length c4, .slice A5 l5.length c5, .bool a6, .bool a7]] w fun x w' => x = .returned (.int .i64 r) ∧ Below w.heap.size w w' := by
  unfold config_Check.f at h
  split at h
  case isFalse => cases h
  rename_i hf
  obtain rfl := Option.some.inj h
  exact check_calls (c := ⟨a0, a1, l2, l3, l4, l5, a6, a7⟩) (fit_of hf.1) (text_of hf.2) ⟨_, _, _, _, rfl, ⟨A2, c2, rfl, hc2, hr2⟩, ⟨A3, c3, rfl, hc3, hr3⟩, ⟨A4, c4, rfl, hc4, hr4⟩, ⟨A5, c5, rfl, hc5, hr5⟩⟩
def unsafeL : List ByteArray := (config_unsafe.f).getD []
theorem unsafeL_f : config_unsafe.f = some unsafeL := rfl
def stripC (c : Cf) : Cf := { c with els := if c.al then keepB c.els else c.els ++ minus unsafeL c.els, rep := keepB c.rep }
theorem clone_f (l : List ByteArray) (h : l.length ≤ 1000) : slices_Clone_string_string.f l = some l := if_pos (by omega)
theorem copied_l (n : Int) (a0 a1 : Bool) (l2 l3 l4 : List ByteArray) (a6 a7 : Bool) : ∀ (d : Nat) (x : Int) (l5 : List S35) (k : Nat), (∀ p ∈ l5, p.f1.length ≤ 1000) → n = l5.length → n ≤ 1000 → 0 ≤ x → n - x = d → d < k →
    config_copied.l0 k n x a0 a1 l2 l3 l4 l5 a6 a7 = some (a0, a1, l2, l3, l4, l5, a6, a7) := by
  intro d
  induction d with
  | zero =>
    intro x l5 k hs hn hm h0 hd hk
    obtain ⟨k, rfl⟩ : ∃ k', k = k' + 1 := ⟨k - 1, by omega⟩
    unfold config_copied.l0
    rw [if_neg (by omega)]
  | succ d ih =>
    intro x l5 k hs hn hm h0 hd hk
    obtain ⟨k, rfl⟩ : ∃ k', k = k' + 1 := ⟨k - 1, by omega⟩
    unfold config_copied.l0
    have hx : x.toNat < l5.length := by omega
    have hrd : rd_T35 l5 x = l5[x.toNat] := by
      unfold rd_T35
      rw [List.getD_eq_getElem?_getD, List.getElem?_eq_getElem hx]; rfl
    rw [if_pos (by omega), if_pos h0, if_pos (by omega), clone_f _ (by rw [hrd]; exact hs _ (List.getElem_mem hx))]
    have hset : l5.set x.toNat (⟨(rd_T35 l5 x).f0, (rd_T35 l5 x).f1⟩ : S35) = l5 := by
      rw [hrd]
      exact List.set_getElem_self hx
    have hw : wrap64 (x + 1) = x + 1 := by unfold wrap64; omega
    show config_copied.l0 k n (wrap64 (x + 1)) a0 a1 l2 l3 l4 (l5.set x.toNat ⟨(rd_T35 l5 x).f0, (rd_T35 l5 x).f1⟩) a6 a7 = _
    rw [hset, hw]
    exact ih (x + 1) l5 k hs hn hm (by omega) (by omega) (by omega)
theorem strip_f (c : Cf) (hf : Fit c) : config_StripK.f 3000 c.al c.aal c.els c.rep c.ats c.per c.com c.dt = some (c.al, c.aal, (stripC c).els, (stripC c).rep, c.ats, c.per, c.com, c.dt) := by
  have hcp : config_copied.f 3000 c.al c.aal c.els c.rep c.ats c.per c.com c.dt = some (c.al, c.aal, c.els, c.rep, c.ats, c.per, c.com, c.dt) := by
    unfold config_copied.f
    rw [clone_f _ hf.els, clone_f _ hf.rep, clone_f _ hf.ats, show api_Per_64.f c.per = some c.per from if_pos (by have := hf.per; omega)]
    exact copied_l _ _ _ _ _ _ _ _ c.per.length 0 c.per 3000 hf.sub rfl (by have := hf.per; omega) (Int.le_refl _) (by omega) (by have := hf.per; omega)
  unfold config_StripK.f
  rw [hcp]
  show (if c.rep.length + c.rep.length < 8796093022208 then _ else _) = _
  have h1 := hf.rep
  have h2 := hf.els
  rw [if_pos (by omega)]
  show (if c.al = true then _ else _) = _
  unfold stripC
  cases hal : c.al
  · rw [if_neg (by simp), unsafeL_f]
    show (fold_Minus.f 3000 unsafeL c.els).bind _ = _
    rw [minus_f unsafeL c.els (by show 8 ≤ 1000000; omega) (by omega) (by show 8 + _ < 3000; omega)]
    have hl : (minus unsafeL c.els).length ≤ 8 := List.length_filter_le _ _
    show (if c.els.length + (minus unsafeL c.els).length < 8796093022208 then _ else _) = _
    rw [if_pos (by omega)]
    rfl
  · rw [if_pos rfl]
    show (if c.els.length + c.els.length < 8796093022208 then _ else _) = _
    rw [if_pos (by omega)]
    rfl
def config_Strip.f (a0 a1 : Bool) (l2 l3 l4 : List ByteArray) (l5 : List S35) (a6 a7 : Bool) : Option (Bool × Bool × List ByteArray × List ByteArray × List ByteArray × (List (S35)) × Bool × Bool) :=
  if fitB ⟨a0, a1, l2, l3, l4, l5, a6, a7⟩ = true then some (a0, a1, (stripC ⟨a0, a1, l2, l3, l4, l5, a6, a7⟩).els, (stripC ⟨a0, a1, l2, l3, l4, l5, a6, a7⟩).rep, l4, l5, a6, a7) else none
theorem config_Strip.calls (a0 a1 : Bool) (A2 : Option Addr) (c2 : Nat) (l2 : List ByteArray) (A3 : Option Addr) (c3 : Nat) (l3 : List ByteArray) (A4 : Option Addr) (c4 : Nat) (l4 : List ByteArray) (A5 : Option Addr) (c5 : Nat) (l5 : List S35) (a6 a7 : Bool)
    (r1 : Bool) (r2 : Bool) (r3 : List ByteArray) (r4 : List ByteArray) (r5 : List ByteArray) (r6 : List (S35)) (r7 : Bool) (r8 : Bool) (w : World)
    (hr2 : Kd.C Kd.string w A2 l2.length l2) (hc2 : l2.length ≤ c2) (hr3 : Kd.C Kd.string w A3 l3.length l3) (hc3 : l3.length ≤ c3) (hr4 : Kd.C Kd.string w A4 l4.length l4) (hc4 : l4.length ≤ c4) (okp : Nat → Prop) (hr5 : Shares okp w A5 l5.length l5) (hc5 : l5.length ≤ c5) (h : config_Strip.f a0 a1 l2 l3 l4 l5 a6 a7 = some (r1, r2, r3, r4, r5, r6, r7, r8)) :
    Calls Try.prog 17 #[.agg #[.bool a0, .bool a1, .slice A2 l2.length c2, .slice A3 l3.length c3, .slice A4 l4.length c4, .slice A5 l5.length c5, .bool a6, .bool a7]] w fun e w' => ∃ v2_ v3_ v4_ v5_ : Value, e = .returned (.agg #[.bool r1, .bool r2, v2_, v3_, v4_, v5_, .bool r7, .bool r8]) ∧
      Kd.R Kd.string 9 w' w.heap.size (fun k_ => some k_ ≠ (v3_ : Value).ownBlock ∧ some k_ ≠ (v4_ : Value).ownBlock) v2_ r3 ∧ Kd.R Kd.string 9 w' w.heap.size (fun k_ => some k_ ≠ (v2_ : Value).ownBlock ∧ some k_ ≠ (v4_ : Value).ownBlock) v3_ r4 ∧
      Kd.R Kd.string 9 w' w.heap.size (fun k_ => some k_ ≠ (v2_ : Value).ownBlock ∧ some k_ ≠ (v3_ : Value).ownBlock) v4_ r5 ∧ Kd.N k35 35 w' w.heap.size (fun k_ => (some k_ ≠ (v2_ : Value).ownBlock ∧ some k_ ≠ (v3_ : Value).ownBlock ∧ some k_ ≠ (v4_ : Value).ownBlock) ∧ (w.heap.size ≤ k_ ∨ okp k_)) v5_ r6 ∧ Below w.heap.size w w' := by
  unfold config_Strip.f at h
  split at h
  case isFalse => cases h
  rename_i hf
  have hs := strip_f ⟨a0, a1, l2, l3, l4, l5, a6, a7⟩ (fit_of hf)
  rw [h] at hs
  refine (config_StripK.calls 3000 a0 a1 A2 c2 l2 A3 c3 l3 A4 c4 l4 A5 c5 l5 a6 a7 r1 r2 r3 r4 r5 r6 r7 r8 w hr2 hc2 hr3 hc3 hr4 hc4 _ (fun _ hk => hk.2) hr5.bound hc5 hs).mono ?_
  rintro e w' ⟨v2, v3, v4, v5, rfl, h2, h3, h4, h5, hb⟩
  exact ⟨v2, v3, v4, v5, rfl, Kd.R_mono h2 (fun _ hk => hk.2), Kd.R_mono h3 (fun _ hk => hk.2), Kd.R_mono h4 (fun _ hk => hk.2), Kd.N_mono h5 (fun _ hk => ⟨hk.2, hk.1.elim .inl (fun h => .inr h.1)⟩), hb⟩
end Go.Proofs.Ytjofofpplpmgjaa.Pr
namespace Go.Proofs.Ytjofofpplpmgjaa.Pure
set_option linter.unusedVariables false
set_option linter.unusedSimpArgs false
open Go.RowKit Go.Lib Go.Shelf Go.Proofs.YtjofofpplpmgjaaW.PrintWords Go.Proofs.YtjofofpplpmgjaaW.PrintLast Go.Proofs.YtjofofpplpmgjaaW.PrintMore Go.Proofs.Ytjofofpplpmgjaa.Pr

theorem strip_calls {v : Value} {c : Cf} (hf : Fit c) {w : World} (h : CfV w v c) :
    Calls Try.prog 17 #[v] w fun e w' => ∃ v', e = .returned v' ∧ CfV w' v' (stripC c) ∧ Below w.heap.size w w' := by
  obtain ⟨_, _, _, _, rfl, ⟨A2, c2, rfl, l2, h2⟩, ⟨A3, c3, rfl, l3, h3⟩, ⟨A4, c4, rfl, l4, h4⟩, ⟨A5, c5, rfl, l5, h5⟩⟩ := h
  refine (config_Strip.calls c.al c.aal A2 c2 c.els A3 c3 c.rep A4 c4 c.ats A5 c5 c.per c.com c.dt _ _ _ _ _ _ _ _ w h2 l2 h3 l3 h4 l4 _ (Shares.of_C h5) l5 (if_pos (of_fit hf))).mono ?_
  rintro e w' ⟨v2, v3, v4, v5, rfl, g2, g3, g4, g5, hb⟩
  exact ⟨_, rfl, ⟨v2, v3, v4, v5, rfl, .of_R g2, .of_R g3, .of_R g4, Kd.N_reads g5⟩, hb⟩
abbrev V8 (c : Cf) (A2 : Option Addr) (m2 : Nat) (A3 : Option Addr) (m3 : Nat) (A4 : Option Addr) (m4 : Nat) (A5 : Option Addr) (m5 : Nat) : Value := .agg #[.bool c.al, .bool c.aal, .slice A2 c.els.length m2, .slice A3 c.rep.length m3, .slice A4 c.ats.length m4, .slice A5 c.per.length m5, .bool c.com, .bool c.dt]
abbrev O8 (c : Cf) (A2 : Option Addr) (m2 : Nat) (A3 : Option Addr) (m3 : Nat) (A4 : Option Addr) (m4 : Nat) (A5 : Option Addr) (m5 : Nat) : Obj := .cells #[.bool c.al, .bool c.aal, .slice A2 c.els.length m2, .slice A3 c.rep.length m3, .slice A4 c.ats.length m4, .slice A5 c.per.length m5, .bool c.com, .bool c.dt] 25 (0, 0)
theorem CfV.open_ {w : World} {v : Value} {c : Cf} (h : CfV w v c) : ∃ A2 m2 A3 m3 A4 m4 A5 m5, v = V8 c A2 m2 A3 m3 A4 m4 A5 m5 := by
  obtain ⟨_, _, _, _, rfl, ⟨A2, c2, rfl, _, _⟩, ⟨A3, c3, rfl, _, _⟩, ⟨A4, c4, rfl, _, _⟩, ⟨A5, c5, rfl, _, _⟩⟩ := h
  exact ⟨A2, c2, A3, c3, A4, c4, A5, c5, rfl⟩
theorem cells8 {w : World} {g : Nat} {c : Cf} {A2 : Option Addr} {m2 : Nat} {A3 : Option Addr} {m3 : Nat} {A4 : Option Addr} {m4 : Nat} {A5 : Option Addr} {m5 : Nat} (h : w.heap[g]? = some (O8 c A2 m2 A3 m3 A4 m4 A5 m5)) :
    w.cell? ⟨g, 0, none⟩ = some (.bool c.al) ∧ w.cell? ⟨g, 1, none⟩ = some (.bool c.aal) ∧ w.cell? ⟨g, 2, none⟩ = some (.slice A2 c.els.length m2) ∧ w.cell? ⟨g, 3, none⟩ = some (.slice A3 c.rep.length m3) ∧ w.cell? ⟨g, 4, none⟩ = some (.slice A4 c.ats.length m4) ∧ w.cell? ⟨g, 5, none⟩ = some (.slice A5 c.per.length m5) ∧ w.cell? ⟨g, 6, none⟩ = some (.bool c.com) ∧ w.cell? ⟨g, 7, none⟩ = some (.bool c.dt) :=
  ⟨(blk_cell h 0).trans rfl, (blk_cell h 1).trans rfl, (blk_cell h 2).trans rfl, (blk_cell h 3).trans rfl, (blk_cell h 4).trans rfl, (blk_cell h 5).trans rfl, (blk_cell h 6).trans rfl, (blk_cell h 7).trans rfl⟩
theorem elem_w {v : Value} {c : Cf} {n : ByteArray} {r : Int} {w : World} (he : (fitB c = true ∧ elemI c n = r)) (h : CfV w v c) : Calls Try.prog 13 #[v, .string n] w fun e w' => e = .returned (.int .i64 r) ∧ Below w.heap.size w w' := by
  obtain ⟨hf, rfl⟩ := he
  exact elem_calls (fit_of hf) n h
theorem attr_w {v : Value} {c : Cf} {e a : ByteArray} {r : Bool} {w : World} (he : (fitB c = true ∧ attrB c e a = r)) (h : CfV w v c) : Calls Try.prog 15 #[v, .string e, .string a] w fun x w' => x = .returned (.bool r) ∧ Below w.heap.size w w' := by
  obtain ⟨hf, rfl⟩ := he
  exact attr_calls (fit_of hf) e a h
theorem check_w {v : Value} {c : Cf} {r : Int} {w : World} (he : config_Check.f c.al c.aal c.els c.rep c.ats c.per c.com c.dt = some r) (h : CfV w v c) : Calls Try.prog 18 #[v] w fun x w' => x = .returned (.int .i64 r) ∧ Below w.heap.size w w' := by
  obtain ⟨_, _, _, _, rfl, ⟨A2, c2, rfl, l2, h2⟩, ⟨A3, c3, rfl, l3, h3⟩, ⟨A4, c4, rfl, l4, h4⟩, ⟨A5, c5, rfl, l5, h5⟩⟩ := h
  exact config_Check.calls c.al c.aal A2 c2 c.els A3 c3 c.rep A4 c4 c.ats A5 c5 c.per c.com c.dt r w h2 l2 h3 l3 h4 l4 h5 l5 he
theorem plain_fitS : Fit plainC := fit_of (by decide +kernel)
theorem sl_new (w : World) (xs : List ByteArray) (hx : xs.length ≤ 1000) : Sl Kd.string (w.alloc (.cells (xs.map Value.string).toArray 9)) (.slice (some ⟨w.heap.size, 0, none⟩) xs.length xs.length) xs := by
  refine ⟨_, _, rfl, Nat.le_refl _, rfl, by omega, fun _ => ⟨_, rfl, fun j x hj => ⟨[.string x], rfl, rfl, fun q u hu => ?_⟩⟩⟩
  match q, hu with
  | 0, hu =>
    obtain rfl : Value.string x = u := by simpa using hu
    have hb := blk_new w (.cells (xs.map Value.string).toArray 9)
    have hj2 : ((xs.map Value.string).toArray)[j]? = some (.string x) := by simp [hj]
    have := (blk_cell hb j).trans hj2
    show World.cell? _ ((⟨w.heap.size, 0, none⟩ : Addr).add (j * 1 + 0)) = _
    rw [Nat.mul_one, Nat.add_zero, add_plain]
    exact this
abbrev sAll : Cf := stripC allC
structure FixS (w0 : World) (g1 g2 g3 : Nat) (o1 o2 o3 : Obj) (v1 v2 v3 : Value) (w : World) : Prop where
  c1 : w.heap[g1]? = some o1
  c2 : w.heap[g2]? = some o2
  c3 : w.heap[g3]? = some o3
  h1 : CfV w v1 plainC
  h2 : CfV w v2 allC
  h3 : CfV w v3 sAll
  below : Below w0.heap.size w0 w
theorem FixS.next {w0 w w' : World} {g1 g2 g3 : Nat} {o1 o2 o3 : Obj} {v1 v2 v3 : Value} (h : FixS w0 g1 g2 g3 o1 o2 o3 v1 v2 v3 w) (hb : Below w.heap.size w w') : FixS w0 g1 g2 g3 o1 o2 o3 v1 v2 v3 w' :=
  ⟨(hb.block _ (blk_lt h.c1)).trans h.c1, (hb.block _ (blk_lt h.c2)).trans h.c2, (hb.block _ (blk_lt h.c3)).trans h.c3, h.h1.below hb, h.h2.below hb, h.h3.below hb, h.below.trans (hb.mono h.below.size)⟩
def fixedT.T3 : Bool × List (List Nat × List Nat) := (true, [([], []), ([], []), ([0, 1, 1], [0, 1]), ([2, 2], [2]), ([3], [3]), ([4, 3, 3], [3, 4]), ([5, 3], [3, 5]), ([3, 6], [3, 6]), ([7, 5], [7]), ([8], [8]), ([9, 8, 8], [8, 9]), ([10, 8], [8, 10]), ([8, 11], [8, 11]), ([12, 10], [12]), ([13], [13]), ([14, 13, 13], [13, 14]), ([13, 15], [13, 15]), ([16, 15], [16]), ([17], [17]), ([18, 17, 17], [17, 18]), ([19, 17], [17, 19]), ([17, 20], [17, 20]), ([21, 19], [21]), ([22], [22]), ([23, 22], [22, 23]), ([22, 24], [22, 24]), ([25, 22], [25]), ([26], [26]), ([27, 26, 26], [26, 27]), ([28, 26], [26, 28]), ([26, 29], [26, 29]), ([30, 28], [30]), ([31], [31]), ([32, 31, 31], [31, 32]), ([31, 33], [31, 33]), ([34, 33], [34]), ([35], [35]), ([36, 35, 35], [35, 36]), ([37, 35], [35, 37]), ([35, 38], [35, 38]), ([39, 37], [39]), ([40], [40]), ([41, 40, 40], [40, 41]), ([42, 40], [40, 42]), ([40, 43], [40, 43]), ([44, 42], [44]), ([45], [45]), ([46, 45, 45], [45, 46]), ([47, 45], [45, 47]), ([45, 48], [45, 48]), ([49, 47], [49]), ([50], [50]), ([51, 50, 50], [50, 51]), ([52, 50], [50, 52]), ([50, 53], [50, 53]), ([54, 52], [54]), ([55], [55]), ([56, 55], [55, 56]), ([57, 55, 55], [55, 57]), ([58, 55], [55, 58]), ([55, 59], [55, 59]), ([60, 58], [60]), ([61], [61]), ([62, 61], [61, 62]), ([63, 61, 61], [61, 63]), ([64, 61], [61, 64]), ([61, 65], [61, 65]), ([66, 64, 0, 1, 2, 3, 4, 5, 6, 7, 8, 9, 10, 11, 12, 13, 14, 15, 16, 17, 18, 19, 20, 21, 22, 23, 24, 25, 26, 27, 28, 29, 30, 31, 32, 33, 34, 35, 36, 37, 38, 39, 40, 41, 42, 43, 44, 45, 46, 47, 48, 49, 50, 51, 52, 53, 54, 55, 56, 57, 58, 59, 60, 61, 62, 63, 64, 65, 66], [66])])
def fixedT.B3 : List Nat := [0, 0, 3, 7, 15, 31, 63, 127, 255, 511, 1023, 2047, 4095, 8191, 16383, 32767, 65535, 131071, 262143, 524287, 1048575, 2097151, 4194303, 8388607, 16777215, 33554431, 67108863, 134217727, 268435455, 536870911, 1073741823, 2147483647, 4294967295, 8589934591, 17179869183, 34359738367, 68719476735, 137438953471, 274877906943, 549755813887, 1099511627775, 2199023255551, 4398046511103, 8796093022207, 17592186044415, 35184372088831, 70368744177663, 140737488355327, 281474976710655, 562949953421311, 1125899906842623, 2251799813685247, 4503599627370495, 9007199254740991, 18014398509481983, 36028797018963967, 72057594037927935, 144115188075855871, 288230376151711743, 576460752303423487, 1152921504606846975, 2305843009213693951, 4611686018427387903, 9223372036854775807, 18446744073709551615, 36893488147419103231, 73786976294838206463, 147573952589676412927]
theorem fixedT.tab3 : rtab .any (opsOf Try.f12 3) = fixedT.T3 := by kernel_rfl
theorem fixedT.bits3 : waitsOk fixedT.T3.2 fixedT.B3 = true := by kernel_rfl
section
variable {P : Program} {ops : Array Oper} {Q : Exit → Act → World → Prop} {S : World → Prop} {ds : List Nat} {T : Bool × List (List Nat × List Nat)} {B : List Nat} {i m fuel : Nat} {N : Tmp} {oi : Oper} {a : Act} {w : World} {v : Value}
theorem pureT (HT : rtab .any ops = T) (hi : ops[i]? = some oi) (hN : oi.dst = some N) (hc : anyT T (tf i (m + 1)).toList (tf (i + 1) m).toList i = true) (hQ : ∀ c a w, Q (.panic c) (a.put oi.dst v) w → Q (.panic c) a w) (hy : Yields P ops oi v a) {a' : Act} (ha : a.put (some N) v = a')
    (h : wpAnyLast P .any ops Q S ds fuel (tf (i + 1) m) a' w) : wpAnyLast P .any ops Q S ds (fuel + 1) (tf i (m + 1)) a w := pure_ _ hi hN (any_of HT hc) hQ hy ha h
theorem takeT (HT : rtab .any ops = T) (HW : waitsOk T.2 B = true) (hi : ops[i]? = some oi) (hN : oi.dst = some N) (hc : takeW T B ds (tf i (m + 1)).toList (tf (i + 1) m).toList i = true) (hQ : ∀ c a w, Q (.panic c) (a.put oi.dst v) w → Q (.panic c) a w) (hy : YieldsIf P ops S oi v a) (hS : S w) {a' : Act} (ha : a.put (some N) v = a')
    (h : wpAnyLast P .any ops Q S ds fuel (tf (i + 1) m) a' w) : wpAnyLast P .any ops Q S ds (fuel + 1) (tf i (m + 1)) a w := take_ _ hi hN (take_ofW HT HW hc) hQ hy hS ha h
theorem oneT (HT : rtab .any ops = T) (hi : ops[i]? = some oi) (hN : oi.dst = some N) (hc : (readyT T.2 (tf i (m + 1)).toList == [i] && (tf i (m + 1)).toList.set i true == (tf (i + 1) m).toList) = true) (hd : i ∉ ds)
    (h : ∀ K : Act → World → Prop, Shut (∀ a' w', S w' → (S w' → wpAnyLast P .any ops Q S ds fuel (tf (i + 1) m) a' w') → K a' w') → if Region.wanted oi (yielded ops a.tmps) = true then Oper.wp P oi a w K Q else K (a.put (some N) undef) w) :
    wpAnyLast P .any ops Q S ds (fuel + 1) (tf i (m + 1)) a w := one_ _ hi hN (one_of HT hc) hd h
theorem callT (HT : rtab .any ops = T) (hS : S w) (hn : ∀ w', Below w.heap.size w w' → S w') (hi : ops[i]? = some oi) (hN : oi.dst = some N) (hc : (readyT T.2 (tf i (m + 1)).toList == [i] && (tf i (m + 1)).toList.set i true == (tf (i + 1) m).toList) = true) (hd : i ∉ ds)
    {f : FuncId} {fn : Func} {ar : Array Operand} {ts : Array TypeId} (hf : P.funcs[f]? = some fn) (hname : (fn.name == "runtime.NumGoroutine") = false) (hb : fn.body.isSome = true) (args : Array Value) (hw : Region.wanted oi (yielded ops a.tmps) = true) (hop : oi.op = .call { callee := .value (.func f), args := ar, argTypes := ts }) (hargs : ar.map a.eval = args)
    {r : Value} (hcl : Calls P f args w fun e w' => e = .returned r ∧ Below w.heap.size w w') {a' : Act} (ha : a.put (some N) r = a') (h : ∀ w', S w' → wpAnyLast P .any ops Q S ds fuel (tf (i + 1) m) a' w') :
    wpAnyLast P .any ops Q S ds (fuel + 1) (tf i (m + 1)) a w := by
  refine oneT HT hi hN hc hd (fun K hK => goes_ hf hname hb args hw hN hop hargs (hcl.mono ?_))
  rintro e w' ⟨rfl, hb⟩
  refine ⟨_, rfl, ?_⟩
  rw [ha]
  exact hK.out _ _ (hn w' hb) (fun hS => h w' hS)
end
set_option maxHeartbeats 4000000 in
set_option maxRecDepth 100000 in
theorem fixed_walk (w : World) : Calls Try.prog 12 #[] w fun e w' => e = .returned (.bool true) ∧ Below w.heap.size w w' := by
  go_enter Try.func12, Try.ntmps12
  go_wp2_with fail
  refine (plain_calls _).mono ?_
  rintro e w1 ⟨v1, rfl, h1, hb1⟩
  obtain ⟨A2, m2, A3, m3, A4, m4, A5, m5, rfl⟩ := h1.open_
  have H1 := hid h1
  have B1 := hid hb1
  clear h1 hb1
  go_wp2_with fail
  refine (all_calls _).mono ?_
  rintro e w2 ⟨v2, rfl, h2, hb2⟩
  obtain ⟨C2, n2, C3, n3, C4, n4, C5, n5, rfl⟩ := h2.open_
  have H2 := hid h2
  have H1' := hid (H1.out.below hb2)
  have B2 := hid (B1.out.trans (hb2.mono B1.out.size))
  clear h2 hb2 H1 B1
  obtain ⟨g, hg⟩ : ∃ g, w2.heap.size = g := ⟨_, rfl⟩
  go_wp2_with fail
  refine (strip_calls (fit_of (by decide +kernel)) (H2.out.below (((Below.refl _ w2).alloc (Nat.le_refl _) _).alloc (by simp) _))).mono ?_
  rintro e w3 ⟨v3, rfl, h3, hb3⟩
  obtain ⟨D2, d2, D3, d3, D4, d4, D5, d5, rfl⟩ := h3.open_
  have hb2 := (Below.refl _ w2).alloc (Nat.le_refl _) (O8 plainC A2 m2 A3 m3 A4 m4 A5 m5)
  have hbb := hb2.alloc hb2.size (O8 allC C2 n2 C3 n3 C4 n4 C5 n5)
  have hb23 := hbb.trans (hb3.mono hbb.size)
  have K1 : w3.heap[g]? = some (O8 plainC A2 m2 A3 m3 A4 m4 A5 m5) := by
    rw [← hg]
    exact (hb3.block _ (by simp; omega)).trans ((Below.heap_alloc (w2.alloc _) _ _ (by simp)).trans (blk_new w2 _))
  have K2 : w3.heap[g + 1]? = some (O8 allC C2 n2 C3 n3 C4 n4 C5 n5) := by
    rw [← hg]
    refine (hb3.block _ (by simp)).trans ?_
    have := blk_new (w2.alloc (O8 plainC A2 m2 A3 m3 A4 m4 A5 m5)) (O8 allC C2 n2 C3 n3 C4 n4 C5 n5)
    simpa using this
  have hb4 := (Below.refl _ w3).alloc (Nat.le_refl _) (O8 sAll D2 d2 D3 d3 D4 d4 D5 d5)
  have F0 : FixS w g (g + 1) w3.heap.size (O8 plainC A2 m2 A3 m3 A4 m4 A5 m5) (O8 allC C2 n2 C3 n3 C4 n4 C5 n5) (O8 sAll D2 d2 D3 d3 D4 d4 D5 d5) (V8 plainC A2 m2 A3 m3 A4 m4 A5 m5) (V8 allC C2 n2 C3 n3 C4 n4 C5 n5) (V8 sAll D2 d2 D3 d3 D4 d4 D5 d5) (w3.alloc (O8 sAll D2 d2 D3 d3 D4 d4 D5 d5)) :=
    ⟨(hb4.block _ (blk_lt K1)).trans K1, (hb4.block _ (blk_lt K2)).trans K2, blk_new w3 _, (H1'.out.below hb23).below hb4, (H2.out.below hb23).below hb4, h3.below hb4, B2.out.trans ((hb23.trans (hb4.mono hb23.size)).mono B2.out.size)⟩
  obtain ⟨g3, hg3⟩ : ∃ g, w3.heap.size = g := ⟨_, rfl⟩
  rw [hg3] at F0
  have HF := hid F0
  clear K1 K2 hb2 hbb hb23 hb3 h3 hb4 F0 H1' H2 B2
  go_upto_region 3 with fail
  refine start_ (n := 68) (S := FixS w g (g + 1) g3 (O8 plainC A2 m2 A3 m3 A4 m4 A5 m5) (O8 allC C2 n2 C3 n3 C4 n4 C5 n5) (O8 sAll D2 d2 D3 d3 D4 d4 D5 d5) (V8 plainC A2 m2 A3 m3 A4 m4 A5 m5) (V8 allC C2 n2 C3 n3 C4 n4 C5 n5) (V8 sAll D2 d2 D3 d3 D4 d4 D5 d5)) (ds := []) (tf 0 68) (by kernel_rfl) rfl rfl (HF.out.next (below_drew (Below.refl _ _))) (fun hHeld => ?_)
  refine with_tabW fixedT.tab3 fixedT.bits3 (fun HT HW => ?_)
  generalize (World.drew _) = w4 at hHeld ⊢
  clear HF hg hg3
  refine takeT HT.out HW.out (v := ?_) (a' := ?_) rfl rfl (by kernel_rfl) (fun _ _ _ h => h) (Or.inl ⟨by rfl, ?_⟩) hHeld ?_ ?_; rotate_left; (intro w' hS; obtain ⟨s0, s1, s2, s3, s4, s5, s6, s7⟩ := cells8 hS.c1; go_simp; with_reducible rfl); rotate_left; (simp only [Act.put, List.setIfInBounds_toArray, List.set_cons_zero, List.set_cons_succ]; rfl)
  refine oneT HT.out rfl rfl (by kernel_rfl) (by decide) (fun K hK => ?_)
  refine goes_ Try.func30 (by kernel_rfl) rfl #[] (by rfl) rfl rfl (by (try simp only [List.map_toArray, List.map_cons, List.map_nil]); first | done | rfl) ?_
  refine (rplain_calls _).mono ?_
  rintro e w4 ⟨v4, rfl, h4, hb⟩
  have H4 := hid h4
  clear h4
  refine ⟨_, rfl, ?_⟩
  refine hK.out _ _ (hHeld.next hb) (fun hHeld => ?_)
  clear hK K; refine norm_ (a' := ?_) ?_ ?_; rotate_left; (show Act.put _ (some 9) _ = _; simp only [Act.put, List.setIfInBounds_toArray, List.set_cons_zero, List.set_cons_succ]; rfl)
  refine callT HT.out hHeld (fun _ => hHeld.next) rfl rfl (by kernel_rfl) (by decide) Try.func24 (by kernel_rfl) rfl #[(V8 plainC A2 m2 A3 m3 A4 m4 A5 m5), v4] (by rfl) rfl (by (try simp only [List.map_toArray, List.map_cons, List.map_nil]); first | done | rfl) (same_calls plain_fitS hHeld.h1 H4.out) (a' := ?_) ?_ (fun w' hHeld => ?_); rotate_left; (simp only [Act.put, List.setIfInBounds_toArray, List.set_cons_zero, List.set_cons_succ]; rfl)
  (refine pureT HT.out (v := ?_) (a' := ?_) rfl rfl (by kernel_rfl) (fun _ _ _ h => h) (Or.inl ⟨by rfl, ?_⟩) ?_ ?_; rotate_left; intro w'; go_simp; with_reducible rfl; rotate_left; simp only [Act.put, List.setIfInBounds_toArray, List.set_cons_zero, List.set_cons_succ]; rfl)
  refine takeT HT.out HW.out (v := ?_) (a' := ?_) rfl rfl (by kernel_rfl) (fun _ _ _ h => h) (Or.inl ⟨by rfl, ?_⟩) hHeld ?_ ?_; rotate_left; (intro w' hS; obtain ⟨s0, s1, s2, s3, s4, s5, s6, s7⟩ := cells8 hS.c1; go_simp; with_reducible rfl); rotate_left; (simp only [Act.put, List.setIfInBounds_toArray, List.set_cons_zero, List.set_cons_succ]; rfl)
  refine callT HT.out hHeld (fun _ => hHeld.next) rfl rfl (by kernel_rfl) (by decide) Try.func13 (by kernel_rfl) rfl #[(V8 plainC A2 m2 A3 m3 A4 m4 A5 m5), .string ⟨#[98]⟩] (by rfl) rfl (by (try simp only [List.map_toArray, List.map_cons, List.map_nil]); first | done | rfl) (elem_w (r := 0) (by decide +kernel) hHeld.h1) (a' := ?_) ?_ (fun w' hHeld => ?_); rotate_left; (simp only [Act.put, List.setIfInBounds_toArray, List.set_cons_zero, List.set_cons_succ]; rfl)
  iterate 3 (refine pureT HT.out (v := ?_) (a' := ?_) rfl rfl (by kernel_rfl) (fun _ _ _ h => h) (Or.inl ⟨by rfl, ?_⟩) ?_ ?_; rotate_left; intro w'; go_simp; with_reducible rfl; rotate_left; simp only [Act.put, List.setIfInBounds_toArray, List.set_cons_zero, List.set_cons_succ]; rfl)
  refine takeT HT.out HW.out (v := ?_) (a' := ?_) rfl rfl (by kernel_rfl) (fun _ _ _ h => h) (Or.inl ⟨by rfl, ?_⟩) hHeld ?_ ?_; rotate_left; (intro w' hS; obtain ⟨s0, s1, s2, s3, s4, s5, s6, s7⟩ := cells8 hS.c1; go_simp; with_reducible rfl); rotate_left; (simp only [Act.put, List.setIfInBounds_toArray, List.set_cons_zero, List.set_cons_succ]; rfl)
  refine callT HT.out hHeld (fun _ => hHeld.next) rfl rfl (by kernel_rfl) (by decide) Try.func13 (by kernel_rfl) rfl #[(V8 plainC A2 m2 A3 m3 A4 m4 A5 m5), .string ⟨#[115, 99, 114, 105, 112, 116]⟩] (by rfl) rfl (by (try simp only [List.map_toArray, List.map_cons, List.map_nil]); first | done | rfl) (elem_w (r := 1) (by decide +kernel) hHeld.h1) (a' := ?_) ?_ (fun w' hHeld => ?_); rotate_left; (simp only [Act.put, List.setIfInBounds_toArray, List.set_cons_zero, List.set_cons_succ]; rfl)
  iterate 3 (refine pureT HT.out (v := ?_) (a' := ?_) rfl rfl (by kernel_rfl) (fun _ _ _ h => h) (Or.inl ⟨by rfl, ?_⟩) ?_ ?_; rotate_left; intro w'; go_simp; with_reducible rfl; rotate_left; simp only [Act.put, List.setIfInBounds_toArray, List.set_cons_zero, List.set_cons_succ]; rfl)
  refine takeT HT.out HW.out (v := ?_) (a' := ?_) rfl rfl (by kernel_rfl) (fun _ _ _ h => h) (Or.inl ⟨by rfl, ?_⟩) hHeld ?_ ?_; rotate_left; (intro w' hS; obtain ⟨s0, s1, s2, s3, s4, s5, s6, s7⟩ := cells8 hS.c1; go_simp; with_reducible rfl); rotate_left; (simp only [Act.put, List.setIfInBounds_toArray, List.set_cons_zero, List.set_cons_succ]; rfl)
  refine callT HT.out hHeld (fun _ => hHeld.next) rfl rfl (by kernel_rfl) (by decide) Try.func15 (by kernel_rfl) rfl #[(V8 plainC A2 m2 A3 m3 A4 m4 A5 m5), .string ⟨#[97]⟩, .string ⟨#[104, 114, 101, 102]⟩] (by rfl) rfl (by (try simp only [List.map_toArray, List.map_cons, List.map_nil]); first | done | rfl) (attr_w (r := true) (by decide +kernel) hHeld.h1) (a' := ?_) ?_ (fun w' hHeld => ?_); rotate_left; (simp only [Act.put, List.setIfInBounds_toArray, List.set_cons_zero, List.set_cons_succ]; rfl)
  iterate 2 (refine pureT HT.out (v := ?_) (a' := ?_) rfl rfl (by kernel_rfl) (fun _ _ _ h => h) (Or.inl ⟨by rfl, ?_⟩) ?_ ?_; rotate_left; intro w'; go_simp; with_reducible rfl; rotate_left; simp only [Act.put, List.setIfInBounds_toArray, List.set_cons_zero, List.set_cons_succ]; rfl)
  refine takeT HT.out HW.out (v := ?_) (a' := ?_) rfl rfl (by kernel_rfl) (fun _ _ _ h => h) (Or.inl ⟨by rfl, ?_⟩) hHeld ?_ ?_; rotate_left; (intro w' hS; obtain ⟨s0, s1, s2, s3, s4, s5, s6, s7⟩ := cells8 hS.c1; go_simp; with_reducible rfl); rotate_left; (simp only [Act.put, List.setIfInBounds_toArray, List.set_cons_zero, List.set_cons_succ]; rfl)
  refine callT HT.out hHeld (fun _ => hHeld.next) rfl rfl (by kernel_rfl) (by decide) Try.func15 (by kernel_rfl) rfl #[(V8 plainC A2 m2 A3 m3 A4 m4 A5 m5), .string ⟨#[98]⟩, .string ⟨#[104, 114, 101, 102]⟩] (by rfl) rfl (by (try simp only [List.map_toArray, List.map_cons, List.map_nil]); first | done | rfl) (attr_w (r := false) (by decide +kernel) hHeld.h1) (a' := ?_) ?_ (fun w' hHeld => ?_); rotate_left; (simp only [Act.put, List.setIfInBounds_toArray, List.set_cons_zero, List.set_cons_succ]; rfl)
  iterate 4 (refine pureT HT.out (v := ?_) (a' := ?_) rfl rfl (by kernel_rfl) (fun _ _ _ h => h) (Or.inl ⟨by rfl, ?_⟩) ?_ ?_; rotate_left; intro w'; go_simp; with_reducible rfl; rotate_left; simp only [Act.put, List.setIfInBounds_toArray, List.set_cons_zero, List.set_cons_succ]; rfl)
  refine takeT HT.out HW.out (v := ?_) (a' := ?_) rfl rfl (by kernel_rfl) (fun _ _ _ h => h) (Or.inl ⟨by rfl, ?_⟩) hHeld ?_ ?_; rotate_left; (intro w' hS; obtain ⟨s0, s1, s2, s3, s4, s5, s6, s7⟩ := cells8 hS.c2; go_simp; with_reducible rfl); rotate_left; (simp only [Act.put, List.setIfInBounds_toArray, List.set_cons_zero, List.set_cons_succ]; rfl)
  iterate 2 (refine pureT HT.out (v := ?_) (a' := ?_) rfl rfl (by kernel_rfl) (fun _ _ _ h => h) (Or.inl ⟨by rfl, ?_⟩) ?_ ?_; rotate_left; intro w'; go_simp; with_reducible rfl; rotate_left; simp only [Act.put, List.setIfInBounds_toArray, List.set_cons_zero, List.set_cons_succ]; rfl)
  refine takeT HT.out HW.out (v := ?_) (a' := ?_) rfl rfl (by kernel_rfl) (fun _ _ _ h => h) (Or.inl ⟨by rfl, ?_⟩) hHeld ?_ ?_; rotate_left; (intro w' hS; obtain ⟨s0, s1, s2, s3, s4, s5, s6, s7⟩ := cells8 hS.c2; go_simp; with_reducible rfl); rotate_left; (simp only [Act.put, List.setIfInBounds_toArray, List.set_cons_zero, List.set_cons_succ]; rfl)
  refine callT HT.out hHeld (fun _ => hHeld.next) rfl rfl (by kernel_rfl) (by decide) Try.func13 (by kernel_rfl) rfl #[(V8 allC C2 n2 C3 n3 C4 n4 C5 n5), .string ⟨#[115, 99, 114, 105, 112, 116]⟩] (by rfl) rfl (by (try simp only [List.map_toArray, List.map_cons, List.map_nil]); first | done | rfl) (elem_w (r := 0) (by decide +kernel) hHeld.h2) (a' := ?_) ?_ (fun w' hHeld => ?_); rotate_left; (simp only [Act.put, List.setIfInBounds_toArray, List.set_cons_zero, List.set_cons_succ]; rfl)
  iterate 3 (refine pureT HT.out (v := ?_) (a' := ?_) rfl rfl (by kernel_rfl) (fun _ _ _ h => h) (Or.inl ⟨by rfl, ?_⟩) ?_ ?_; rotate_left; intro w'; go_simp; with_reducible rfl; rotate_left; simp only [Act.put, List.setIfInBounds_toArray, List.set_cons_zero, List.set_cons_succ]; rfl)
  refine takeT HT.out HW.out (v := ?_) (a' := ?_) rfl rfl (by kernel_rfl) (fun _ _ _ h => h) (Or.inl ⟨by rfl, ?_⟩) hHeld ?_ ?_; rotate_left; (intro w' hS; obtain ⟨s0, s1, s2, s3, s4, s5, s6, s7⟩ := cells8 hS.c2; go_simp; with_reducible rfl); rotate_left; (simp only [Act.put, List.setIfInBounds_toArray, List.set_cons_zero, List.set_cons_succ]; rfl)
  refine callT HT.out hHeld (fun _ => hHeld.next) rfl rfl (by kernel_rfl) (by decide) Try.func15 (by kernel_rfl) rfl #[(V8 allC C2 n2 C3 n3 C4 n4 C5 n5), .string ⟨#[98]⟩, .string ⟨#[111, 110, 99, 108, 105, 99, 107]⟩] (by rfl) rfl (by (try simp only [List.map_toArray, List.map_cons, List.map_nil]); first | done | rfl) (attr_w (r := true) (by decide +kernel) hHeld.h2) (a' := ?_) ?_ (fun w' hHeld => ?_); rotate_left; (simp only [Act.put, List.setIfInBounds_toArray, List.set_cons_zero, List.set_cons_succ]; rfl)
  iterate 2 (refine pureT HT.out (v := ?_) (a' := ?_) rfl rfl (by kernel_rfl) (fun _ _ _ h => h) (Or.inl ⟨by rfl, ?_⟩) ?_ ?_; rotate_left; intro w'; go_simp; with_reducible rfl; rotate_left; simp only [Act.put, List.setIfInBounds_toArray, List.set_cons_zero, List.set_cons_succ]; rfl)
  refine takeT HT.out HW.out (v := ?_) (a' := ?_) rfl rfl (by kernel_rfl) (fun _ _ _ h => h) (Or.inl ⟨by rfl, ?_⟩) hHeld ?_ ?_; rotate_left; (intro w' hS; obtain ⟨s0, s1, s2, s3, s4, s5, s6, s7⟩ := cells8 hS.c3; go_simp; with_reducible rfl); rotate_left; (simp only [Act.put, List.setIfInBounds_toArray, List.set_cons_zero, List.set_cons_succ]; rfl)
  refine callT HT.out hHeld (fun _ => hHeld.next) rfl rfl (by kernel_rfl) (by decide) Try.func13 (by kernel_rfl) rfl #[(V8 sAll D2 d2 D3 d3 D4 d4 D5 d5), .string ⟨#[115, 99, 114, 105, 112, 116]⟩] (by rfl) rfl (by (try simp only [List.map_toArray, List.map_cons, List.map_nil]); first | done | rfl) (elem_w (r := 1) (by decide +kernel) hHeld.h3) (a' := ?_) ?_ (fun w' hHeld => ?_); rotate_left; (simp only [Act.put, List.setIfInBounds_toArray, List.set_cons_zero, List.set_cons_succ]; rfl)
  iterate 3 (refine pureT HT.out (v := ?_) (a' := ?_) rfl rfl (by kernel_rfl) (fun _ _ _ h => h) (Or.inl ⟨by rfl, ?_⟩) ?_ ?_; rotate_left; intro w'; go_simp; with_reducible rfl; rotate_left; simp only [Act.put, List.setIfInBounds_toArray, List.set_cons_zero, List.set_cons_succ]; rfl)
  refine takeT HT.out HW.out (v := ?_) (a' := ?_) rfl rfl (by kernel_rfl) (fun _ _ _ h => h) (Or.inl ⟨by rfl, ?_⟩) hHeld ?_ ?_; rotate_left; (intro w' hS; obtain ⟨s0, s1, s2, s3, s4, s5, s6, s7⟩ := cells8 hS.c3; go_simp; with_reducible rfl); rotate_left; (simp only [Act.put, List.setIfInBounds_toArray, List.set_cons_zero, List.set_cons_succ]; rfl)
  refine callT HT.out hHeld (fun _ => hHeld.next) rfl rfl (by kernel_rfl) (by decide) Try.func13 (by kernel_rfl) rfl #[(V8 sAll D2 d2 D3 d3 D4 d4 D5 d5), .string ⟨#[98]⟩] (by rfl) rfl (by (try simp only [List.map_toArray, List.map_cons, List.map_nil]); first | done | rfl) (elem_w (r := 0) (by decide +kernel) hHeld.h3) (a' := ?_) ?_ (fun w' hHeld => ?_); rotate_left; (simp only [Act.put, List.setIfInBounds_toArray, List.set_cons_zero, List.set_cons_succ]; rfl)
  iterate 3 (refine pureT HT.out (v := ?_) (a' := ?_) rfl rfl (by kernel_rfl) (fun _ _ _ h => h) (Or.inl ⟨by rfl, ?_⟩) ?_ ?_; rotate_left; intro w'; go_simp; with_reducible rfl; rotate_left; simp only [Act.put, List.setIfInBounds_toArray, List.set_cons_zero, List.set_cons_succ]; rfl)
  refine takeT HT.out HW.out (v := ?_) (a' := ?_) rfl rfl (by kernel_rfl) (fun _ _ _ h => h) (Or.inl ⟨by rfl, ?_⟩) hHeld ?_ ?_; rotate_left; (intro w' hS; obtain ⟨s0, s1, s2, s3, s4, s5, s6, s7⟩ := cells8 hS.c1; go_simp; with_reducible rfl); rotate_left; (simp only [Act.put, List.setIfInBounds_toArray, List.set_cons_zero, List.set_cons_succ]; rfl)
  refine callT HT.out hHeld (fun _ => hHeld.next) rfl rfl (by kernel_rfl) (by decide) Try.func18 (by kernel_rfl) rfl #[(V8 plainC A2 m2 A3 m3 A4 m4 A5 m5)] (by rfl) rfl (by (try simp only [List.map_toArray, List.map_cons, List.map_nil]); first | done | rfl) (check_w (r := 0) (by decide +kernel) hHeld.h1) (a' := ?_) ?_ (fun w' hHeld => ?_); rotate_left; (simp only [Act.put, List.setIfInBounds_toArray, List.set_cons_zero, List.set_cons_succ]; rfl)
  iterate 4 (refine pureT HT.out (v := ?_) (a' := ?_) rfl rfl (by kernel_rfl) (fun _ _ _ h => h) (Or.inl ⟨by rfl, ?_⟩) ?_ ?_; rotate_left; intro w'; go_simp; with_reducible rfl; rotate_left; simp only [Act.put, List.setIfInBounds_toArray, List.set_cons_zero, List.set_cons_succ]; rfl)
  refine callT HT.out hHeld (fun _ => hHeld.next) rfl rfl (by kernel_rfl) (by decide) Try.func18 (by kernel_rfl) rfl #[.agg #[.bool false, .bool false, .slice none 0 0, .slice none 0 0, .slice none 0 0, .slice none 0 0, .bool false, .bool true]] (by rfl) rfl (by (try simp only [List.map_toArray, List.map_cons, List.map_nil]); first | done | rfl) (check_w (c := ⟨false, false, [], [], [], [], false, true⟩) (r := 120) (by decide +kernel) ⟨_, _, _, _, rfl, Sl.nil _ _, Sl.nil _ _, Sl.nil _ _, Sl.nil _ _⟩) (a' := ?_) ?_ (fun w' hHeld => ?_); rotate_left; (simp only [Act.put, List.setIfInBounds_toArray, List.set_cons_zero, List.set_cons_succ]; rfl)
  iterate 3 (refine pureT HT.out (v := ?_) (a' := ?_) rfl rfl (by kernel_rfl) (fun _ _ _ h => h) (Or.inl ⟨by rfl, ?_⟩) ?_ ?_; rotate_left; intro w'; go_simp; with_reducible rfl; rotate_left; simp only [Act.put, List.setIfInBounds_toArray, List.set_cons_zero, List.set_cons_succ]; rfl)
  refine oneT HT.out rfl rfl (by kernel_rfl) (by decide) (fun K hK => ?_)
  refine value_ (v := .slice (some ⟨w'.heap.size, 0, none⟩) 1 1) (w1 := w'.alloc (.cells #[.string ⟨#[65]⟩] 9)) (by rfl) rfl (by go_simp; first | done | rfl) ?_
  have HLx := hid (sl_new w' [(⟨#[65]⟩ : ByteArray)] (by decide))
  refine hK.out _ _ (hHeld.next ((Below.refl _ _).alloc (Nat.le_refl _) _)) (fun hHeld => ?_)
  clear hK K; refine norm_ (a' := ?_) ?_ ?_; rotate_left; (show Act.put _ (some 64) _ = _; simp only [Act.put, List.setIfInBounds_toArray, List.set_cons_zero, List.set_cons_succ]; rfl)
  (refine pureT HT.out (v := ?_) (a' := ?_) rfl rfl (by kernel_rfl) (fun _ _ _ h => h) (Or.inl ⟨by rfl, ?_⟩) ?_ ?_; rotate_left; intro w'; go_simp; with_reducible rfl; rotate_left; simp only [Act.put, List.setIfInBounds_toArray, List.set_cons_zero, List.set_cons_succ]; rfl)
  refine callT HT.out hHeld (fun _ => hHeld.next) rfl rfl (by kernel_rfl) (by decide) Try.func18 (by kernel_rfl) rfl #[_] (by rfl) rfl (by (try simp only [List.map_toArray, List.map_cons, List.map_nil]); first | done | rfl) (check_w (c := ⟨false, false, [⟨#[65]⟩], [], [], [], false, false⟩) (r := 121) (by decide +kernel) ⟨_, _, _, _, rfl, HLx.out, Sl.nil _ _, Sl.nil _ _, Sl.nil _ _⟩) (a' := ?_) ?_ (fun w' hHeld => ?_); rotate_left; (simp only [Act.put, List.setIfInBounds_toArray, List.set_cons_zero, List.set_cons_succ]; rfl)
  iterate 3 (refine pureT HT.out (v := ?_) (a' := ?_) rfl rfl (by kernel_rfl) (fun _ _ _ h => h) (Or.inl ⟨by rfl, ?_⟩) ?_ ?_; rotate_left; intro w'; go_simp; with_reducible rfl; rotate_left; simp only [Act.put, List.setIfInBounds_toArray, List.set_cons_zero, List.set_cons_succ]; rfl)
  refine oneT HT.out rfl rfl (by kernel_rfl) (by decide) (fun K hK => ?_)
  refine value_ (v := .slice (some ⟨w'.heap.size, 0, none⟩) 2 2) (w1 := w'.alloc (.cells #[.string ⟨#[97]⟩, .string ⟨#[97]⟩] 9)) (by rfl) rfl (by go_simp; first | done | rfl) ?_
  have HLy := hid (sl_new w' [(⟨#[97]⟩ : ByteArray), (⟨#[97]⟩ : ByteArray)] (by decide))
  refine hK.out _ _ (hHeld.next ((Below.refl _ _).alloc (Nat.le_refl _) _)) (fun hHeld => ?_)
  clear hK K; refine norm_ (a' := ?_) ?_ ?_; rotate_left; (show Act.put _ (some 70) _ = _; simp only [Act.put, List.setIfInBounds_toArray, List.set_cons_zero, List.set_cons_succ]; rfl)
  (refine pureT HT.out (v := ?_) (a' := ?_) rfl rfl (by kernel_rfl) (fun _ _ _ h => h) (Or.inl ⟨by rfl, ?_⟩) ?_ ?_; rotate_left; intro w'; go_simp; with_reducible rfl; rotate_left; simp only [Act.put, List.setIfInBounds_toArray, List.set_cons_zero, List.set_cons_succ]; rfl)
  refine callT HT.out hHeld (fun _ => hHeld.next) rfl rfl (by kernel_rfl) (by decide) Try.func18 (by kernel_rfl) rfl #[_] (by rfl) rfl (by (try simp only [List.map_toArray, List.map_cons, List.map_nil]); first | done | rfl) (check_w (c := ⟨false, false, [], [], [⟨#[97]⟩, ⟨#[97]⟩], [], false, false⟩) (r := 122) (by decide +kernel) ⟨_, _, _, _, rfl, Sl.nil _ _, Sl.nil _ _, HLy.out, Sl.nil _ _⟩) (a' := ?_) ?_ (fun w' hHeld => ?_); rotate_left; (simp only [Act.put, List.setIfInBounds_toArray, List.set_cons_zero, List.set_cons_succ]; rfl)
  iterate 3 (refine pureT HT.out (v := ?_) (a' := ?_) rfl rfl (by kernel_rfl) (fun _ _ _ h => h) (Or.inl ⟨by rfl, ?_⟩) ?_ ?_; rotate_left; intro w'; go_simp; with_reducible rfl; rotate_left; simp only [Act.put, List.setIfInBounds_toArray, List.set_cons_zero, List.set_cons_succ]; rfl)
  refine done_ (done_of HT.out (by kernel_rfl)) ?_
  go_wp2
  go_ret
  exact ⟨rfl, hHeld.below⟩
end Go.Proofs.Ytjofofpplpmgjaa.Pure
namespace Go.Proofs.Ytjofofpplpmgjaa.Pr
set_option linter.unusedVariables false
open Go.RowKit Go.Lib Go.Shelf Go.Proofs.Ytjofofpplpmgjaa Go.Proofs.Ytjofofpplpmgjaa.Pure Go.Proofs.YtjofofpplpmgjaaW.PrintWords Go.Proofs.YtjofofpplpmgjaaW.PrintLast Go.Proofs.YtjofofpplpmgjaaW.PrintMore
def boltinglaw12_fixed.f : Option Bool := some true
theorem boltinglaw12_fixed.calls (r : Bool) (w : World) (h : boltinglaw12_fixed.f = some r) :
    Calls Try.prog 12 #[] w fun e w' => e = .returned (.bool r) ∧ Below w.heap.size w w' := by
  obtain rfl : true = r := Option.some.inj h
  exact fixed_walk w
end Go.Proofs.Ytjofofpplpmgjaa.Pr
