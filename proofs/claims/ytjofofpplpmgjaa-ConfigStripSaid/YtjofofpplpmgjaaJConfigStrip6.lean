/- The row of ConfigStrip, with what stands under it.. -/
import Derived.Test.YtjofofpplpmgjaaJConfigStrip5
import Derived.Test.YtjofofpplpmgjaaJConfigStrip1
import Derived.Test.YtjofofpplpmgjaaRows
import Derived.WalkKit
import Derived.ProofKit
import Derived.OpenShut
import Derived.ShutString
import Derived.ChangeOld
import Derived.Below
import Derived.SizedLaws
/- ConfigStrip of the document's chapter 12: it answers true whatever the input. -/
namespace Go.Proofs.Ytjofofpplpmgjaa
set_option linter.unusedVariables false
set_option linter.unusedSimpArgs false
open Go.RowKit Go.Lib Go.Proofs.Ytjofofpplpmgjaa.Pr Go.Proofs.Ytjofofpplpmgjaa.Pure Go.Proofs.YtjofofpplpmgjaaW.PrintWords Go.Proofs.YtjofofpplpmgjaaW.PrintLast
theorem runsafe_f : boltingref10_Unsafe.f = some unsafeL := rfl
theorem unsafeB_mem (x : ByteArray) : unsafeB x = mem unsafeL x := by
  have key : ∀ (l : List UInt8), (x.toList = l) ↔ x = mkS l := fun l => by
    constructor
    · intro h
      apply toList_inj
      rw [h, Lib.toList_data]
      show l = (mkS l).data.toList
      unfold mkS
      simp
    · rintro rfl
      rw [Lib.toList_data]
      unfold mkS
      simp
  have hm : mem unsafeL x = (decide ((⟨#[98, 97, 115, 101]⟩ : ByteArray) = x) || (decide ((⟨#[101, 109, 98, 101, 100]⟩ : ByteArray) = x) || (decide ((⟨#[102, 114, 97, 109, 101]⟩ : ByteArray) = x) || (decide ((⟨#[105, 102, 114, 97, 109, 101]⟩ : ByteArray) = x) || (decide ((⟨#[108, 105, 110, 107]⟩ : ByteArray) = x) || (decide ((⟨#[109, 101, 116, 97]⟩ : ByteArray) = x) || (decide ((⟨#[111, 98, 106, 101, 99, 116]⟩ : ByteArray) = x) || (decide ((⟨#[115, 99, 114, 105, 112, 116]⟩ : ByteArray) = x) || false)))))))) := rfl
  rw [hm]
  unfold unsafeB risk_Element.f
  simp only [key, mkS]
  have sw : ∀ (a : ByteArray), decide (a = x) = decide (x = a) := fun a => decide_eq_decide.2 ⟨fun h => h.symm, fun h => h.symm⟩
  simp only [sw]
  by_cases h0 : x = (⟨[98, 97, 115, 101].toArray⟩ : ByteArray)
  · rw [if_pos h0]; rw [show decide (x = (⟨#[98, 97, 115, 101]⟩ : ByteArray)) = true from decide_eq_true h0]; rfl
  rw [if_neg h0, show decide (x = (⟨#[98, 97, 115, 101]⟩ : ByteArray)) = false from decide_eq_false h0, Bool.false_or]
  by_cases h1 : x = (⟨[101, 109, 98, 101, 100].toArray⟩ : ByteArray)
  · rw [if_pos h1]; rw [show decide (x = (⟨#[101, 109, 98, 101, 100]⟩ : ByteArray)) = true from decide_eq_true h1]; rfl
  rw [if_neg h1, show decide (x = (⟨#[101, 109, 98, 101, 100]⟩ : ByteArray)) = false from decide_eq_false h1, Bool.false_or]
  by_cases h2 : x = (⟨[102, 114, 97, 109, 101].toArray⟩ : ByteArray)
  · rw [if_pos h2]; rw [show decide (x = (⟨#[102, 114, 97, 109, 101]⟩ : ByteArray)) = true from decide_eq_true h2]; rfl
  rw [if_neg h2, show decide (x = (⟨#[102, 114, 97, 109, 101]⟩ : ByteArray)) = false from decide_eq_false h2, Bool.false_or]
  by_cases h3 : x = (⟨[105, 102, 114, 97, 109, 101].toArray⟩ : ByteArray)
  · rw [if_pos h3]; rw [show decide (x = (⟨#[105, 102, 114, 97, 109, 101]⟩ : ByteArray)) = true from decide_eq_true h3]; rfl
  rw [if_neg h3, show decide (x = (⟨#[105, 102, 114, 97, 109, 101]⟩ : ByteArray)) = false from decide_eq_false h3, Bool.false_or]
  by_cases h4 : x = (⟨[108, 105, 110, 107].toArray⟩ : ByteArray)
  · rw [if_pos h4]; rw [show decide (x = (⟨#[108, 105, 110, 107]⟩ : ByteArray)) = true from decide_eq_true h4]; rfl
  rw [if_neg h4, show decide (x = (⟨#[108, 105, 110, 107]⟩ : ByteArray)) = false from decide_eq_false h4, Bool.false_or]
  by_cases h5 : x = (⟨[109, 101, 116, 97].toArray⟩ : ByteArray)
  · rw [if_pos h5]; rw [show decide (x = (⟨#[109, 101, 116, 97]⟩ : ByteArray)) = true from decide_eq_true h5]; rfl
  rw [if_neg h5, show decide (x = (⟨#[109, 101, 116, 97]⟩ : ByteArray)) = false from decide_eq_false h5, Bool.false_or]
  by_cases h6 : x = (⟨[111, 98, 106, 101, 99, 116].toArray⟩ : ByteArray)
  · rw [if_pos h6]; rw [show decide (x = (⟨#[111, 98, 106, 101, 99, 116]⟩ : ByteArray)) = true from decide_eq_true h6]; rfl
  rw [if_neg h6, show decide (x = (⟨#[111, 98, 106, 101, 99, 116]⟩ : ByteArray)) = false from decide_eq_false h6, Bool.false_or]
  by_cases h7 : x = (⟨[115, 99, 114, 105, 112, 116].toArray⟩ : ByteArray)
  · rw [if_pos h7]; rw [show decide (x = (⟨#[115, 99, 114, 105, 112, 116]⟩ : ByteArray)) = true from decide_eq_true h7]; rfl
  rw [if_neg h7, show decide (x = (⟨#[115, 99, 114, 105, 112, 116]⟩ : ByteArray)) = false from decide_eq_false h7]
  rfl
theorem mem_keep (l : List ByteArray) (x : ByteArray) : x ∈ keepB l ↔ x ∈ l ∧ mem unsafeL x = false := by
  unfold keepB
  rw [List.mem_filter, unsafeB_mem]
  simp
theorem mem_minus (a b : List ByteArray) (x : ByteArray) : x ∈ minus a b ↔ x ∈ a ∧ mem b x = false := by
  unfold minus
  rw [List.mem_filter]
  simp
theorem bool_iff {a b : Bool} (h : a = true ↔ b = true) : a = b := by
  cases a <;> cases b <;> simp_all
theorem fin0 {a b c d : Bool} : finI a b c d = 0 ↔ a = false ∧ b = true ∧ c = true ∧ d = false := by
  unfold finI
  cases a <;> cases b <;> cases c <;> cases d <;> simp
theorem dup_sub {l m : List ByteArray} (h : List.Sublist l m) (hd : dupB m = false) : dupB l = false := by
  rw [dup_nodup] at hd ⊢
  exact hd.sublist (h.map dat)
theorem strip_elem {c : Cf} (e : ByteArray) : elemI (stripC c) e = if mem unsafeL e = true then 1 else elemI c e := by
  have hr : mem (keepB c.rep) e = (mem c.rep e && !mem unsafeL e) := bool_iff (by rw [mem_iff, mem_keep, Bool.and_eq_true, mem_iff]; simp)
  have hk : mem (keepB c.els) e = (mem c.els e && !mem unsafeL e) := bool_iff (by rw [mem_iff, mem_keep, Bool.and_eq_true, mem_iff]; simp)
  have ha : mem (c.els ++ minus unsafeL c.els) e = (mem c.els e || mem unsafeL e) := bool_iff (by
    rw [mem_iff, List.mem_append, mem_minus, Bool.or_eq_true, mem_iff, mem_iff]
    constructor
    · rintro (h | ⟨h, _⟩)
      · exact .inl h
      · exact .inr h
    · rintro (h | h)
      · exact .inl h
      · by_cases g : e ∈ c.els
        · exact .inl g
        · exact .inr ⟨h, by rw [← Bool.not_eq_true, mem_iff]; exact g⟩)
  have h1 : (stripC c).rep = keepB c.rep := rfl
  have h2 : (stripC c).els = if c.al = true then keepB c.els else c.els ++ minus unsafeL c.els := rfl
  have h3 : (stripC c).al = c.al := rfl
  unfold elemI
  rw [h1, h2, h3, hr]
  cases hal : c.al
  · rw [show (if false = true then keepB c.els else c.els ++ minus unsafeL c.els) = c.els ++ minus unsafeL c.els from rfl, ha]
    cases mem c.rep e <;> cases mem c.els e <;> cases mem unsafeL e <;> rfl
  · rw [show (if true = true then keepB c.els else c.els ++ minus unsafeL c.els) = keepB c.els from rfl, hk]
    cases mem c.rep e <;> cases mem c.els e <;> cases mem unsafeL e <;> rfl
theorem strip_check {c : Cf} (he : c.els.length ≤ 50) (h : checkI c = 0) : checkI (stripC c) = 0 := by
  unfold checkI at h ⊢
  rw [fin0] at h ⊢
  obtain ⟨h1, h2, h3, h4⟩ := h
  simp only [Bool.or_eq_false_iff, Bool.and_eq_true, Bool.not_eq_true'] at h1 h2 h3 h4 ⊢
  obtain ⟨⟨⟨⟨b1, b2⟩, b3⟩, b4⟩, b5⟩ := h1
  obtain ⟨⟨⟨⟨n1, n2⟩, n3⟩, n4⟩, n5⟩ := h2
  obtain ⟨⟨⟨⟨d1, d2⟩, d3⟩, d4⟩, d5⟩ := h3
  obtain ⟨⟨m1, m2⟩, m3⟩ := h4
  have r1 : (keepB c.rep).length ≤ c.rep.length := List.length_filter_le _ _
  have r2 : (keepB c.els).length ≤ c.els.length := List.length_filter_le _ _
  have r3 : (minus unsafeL c.els).length ≤ 8 := List.length_filter_le _ _
  have hrep : (stripC c).rep = keepB c.rep := rfl
  have hels : (stripC c).els = if c.al = true then keepB c.els else c.els ++ minus unsafeL c.els := rfl
  have hU : ∀ x ∈ unsafeL, mayB false x = true := by decide +kernel
  have hUd : dupB unsafeL = false := by decide +kernel
  have hmay : ∀ x ∈ (stripC c).els, mayB false x = true := by
    intro x hx
    rw [hels] at hx
    split at hx
    · exact List.all_eq_true.1 n1 x ((mem_keep _ _).1 hx).1
    · rcases List.mem_append.1 hx with hx | hx
      · exact List.all_eq_true.1 n1 x hx
      · exact hU x ((mem_minus _ _ _).1 hx).1
  have hdup : dupB (stripC c).els = false := by
    rw [hels]
    split
    · exact dup_sub List.filter_sublist d1
    · rw [dup_nodup, List.map_append]
      refine List.nodup_append.2 ⟨(dup_nodup _).1 d1, (dup_nodup _).1 (dup_sub List.filter_sublist hUd), ?_⟩
      intro a ha b hb hab
      obtain ⟨x, hx, rfl⟩ := List.mem_map.1 ha
      obtain ⟨y, hy, rfl⟩ := List.mem_map.1 hb
      have hxy := dat_inj hab
      subst hxy
      have := ((mem_minus _ _ _).1 hy).2
      rw [(mem_iff _ _).2 hx] at this
      cases this
  have hmeet : meetB (stripC c).els (stripC c).rep = false := by
    rw [← Bool.not_eq_true]
    intro hm
    obtain ⟨x, hx, hx2⟩ := List.any_eq_true.1 hm
    rw [mem_iff, hrep, mem_keep] at hx2
    have hin : x ∈ c.els := by
      rw [hels] at hx
      split at hx
      · exact ((mem_keep _ _).1 hx).1
      · rcases List.mem_append.1 hx with hx | hx
        · exact hx
        · have := (mem_iff _ _).2 ((mem_minus _ _ _).1 hx).1
          rw [hx2.2] at this
          cases this
    have : meetB c.els c.rep = true := List.any_eq_true.2 ⟨x, hin, (mem_iff _ _).2 hx2.1⟩
    rw [m1] at this
    cases this
  refine ⟨⟨⟨⟨⟨?_, ?_⟩, b3⟩, b4⟩, b5⟩, ⟨⟨⟨⟨List.all_eq_true.2 hmay, ?_⟩, n3⟩, n4⟩, n5⟩, ⟨⟨⟨⟨hdup, dup_sub List.filter_sublist d2⟩, d3⟩, d4⟩, d5⟩, ⟨⟨hmeet, m2⟩, m3⟩⟩
  · unfold longB
    rw [hels]
    apply decide_eq_false
    split
    · omega
    · rw [List.length_append]; omega
  · unfold longB at b2 ⊢
    have := of_decide_eq_false b2
    apply decide_eq_false
    rw [hrep]
    omega
  · exact List.all_eq_true.2 (fun x hx => List.all_eq_true.1 n2 x ((mem_keep _ _).1 hx).1)
theorem mn50 (n : Nat) : 0 ≤ mn (n : Int) 50 ∧ mn (n : Int) 50 ≤ (n : Int) ∧ (mn (n : Int) 50).toNat = min n 50 := by
  unfold mn; split <;> omega
theorem take50 {α : Type} (l : List α) : l.take (mn (l.length : Int) 50).toNat = l.take 50 := by rw [(mn50 _).2.2, take_min]
theorem strip_fit {c : Cf} (hf : Fit c) (he : c.els.length ≤ 50) : Fit (stripC c) := by
  have r1 : (keepB c.rep).length ≤ c.rep.length := List.length_filter_le _ _
  have r2 : (keepB c.els).length ≤ c.els.length := List.length_filter_le _ _
  have r3 : (minus unsafeL c.els).length ≤ 8 := List.length_filter_le _ _
  have h1 := hf.rep
  refine ⟨?_, ?_, hf.ats, hf.per, hf.sub⟩
  · show (if c.al = true then keepB c.els else c.els ++ minus unsafeL c.els).length ≤ 1000
    split
    · omega
    · rw [List.length_append]; omega
  · show (keepB c.rep).length ≤ 1000
    omega
theorem text_sized {c : Cf} (hz : Sized c) : Text c := by
  have lim : ∀ x : ByteArray, Short x → x.size ≤ 4000000000000000000 := fun x h => Nat.le_trans h (by decide)
  constructor
  · intro l hl x hx
    simp only [rowsE, List.mem_cons, List.not_mem_nil, or_false] at hl
    rcases hl with rfl | rfl | rfl
    · exact lim x (hz.els x hx)
    · exact lim x (hz.rep x hx)
    · obtain ⟨p, hp, rfl⟩ := List.mem_map.1 hx
      exact lim _ (hz.per p hp).1
  · intro l hl x hx
    simp only [rowsA, List.mem_cons, List.mem_map] at hl
    rcases hl with rfl | ⟨p, hp, rfl⟩
    · exact lim x (hz.ats x hx)
    · exact lim x ((hz.per p hp).2 x hx)
theorem sized_bound {c : Cf} (hz : Sized c) : Sized (bound c) := by
  refine ⟨fun x hx => hz.els x (List.mem_of_mem_take hx), fun x hx => hz.rep x (List.mem_of_mem_take hx), fun x hx => hz.ats x (List.mem_of_mem_take hx), fun p hp => ?_⟩
  obtain ⟨q, hq, rfl⟩ := List.mem_map.1 (show p ∈ (c.per.take 12).map cutP from hp)
  have := hz.per q (List.mem_of_mem_take hq)
  exact ⟨this.1, fun x hx => this.2 x (List.mem_of_mem_take hx)⟩
theorem sized_strip {c : Cf} (hz : Sized c) : Sized (stripC c) := by
  have hU : ∀ x ∈ unsafeL, x.size ≤ 140737488351232 := by decide +kernel
  refine ⟨fun x hx => ?_, fun x hx => hz.rep x ((mem_keep _ _).1 hx).1, hz.ats, hz.per⟩
  have hx' : x ∈ (if c.al = true then keepB c.els else c.els ++ minus unsafeL c.els) := hx
  split at hx'
  · exact hz.els x ((mem_keep _ _).1 hx').1
  · rcases List.mem_append.1 hx' with h | h
    · exact hz.els x h
    · exact hU x ((mem_minus _ _ _).1 h).1
theorem strip_f_law (c : Cf) (hz : Sized c) (e a : ByteArray) : boltinglaw12_ConfigStrip.f 3001 c.al c.aal c.els c.rep c.ats c.per c.com c.dt e a = some true := by
  have hf0 := bound_fit c
  have hz0 := sized_bound hz
  obtain ⟨b, hb⟩ : ∃ b, bound c = b := ⟨_, rfl⟩
  rw [hb] at hf0 hz0
  obtain ⟨y, hy⟩ : ∃ y : List ByteArray, b.els.take 50 = y := ⟨_, rfl⟩
  have hyl : y.length ≤ 50 := by rw [← hy]; exact List.length_take_le _ _
  have hf : Fit ⟨b.al, b.aal, y, b.rep, b.ats, b.per, b.com, b.dt⟩ := ⟨Nat.le_trans hyl (by decide), hf0.2, hf0.3, hf0.4, hf0.5⟩
  have hzb : Sized ⟨b.al, b.aal, y, b.rep, b.ats, b.per, b.com, b.dt⟩ := ⟨fun x hx => hz0.els x (by rw [← hy] at hx; exact List.mem_of_mem_take hx), hz0.rep, hz0.ats, hz0.per⟩
  have hbd : boltinglaw12_Bound.f 3001 c.al c.aal c.els c.rep c.ats c.per c.com c.dt = some (b.al, b.aal, b.els, b.rep, b.ats, b.per, b.com, b.dt) := by rw [bound_f c (by omega), ← hb]; rfl
  obtain ⟨d, hd⟩ : ∃ d : Cf, d = ⟨b.al, b.aal, y, b.rep, b.ats, b.per, b.com, b.dt⟩ := ⟨_, rfl⟩
  have hfs := strip_fit hf hyl
  have e0 := elem_k hf e (k := 3000) (by omega)
  have e1 := elem_k hfs e (k := 3001) (by omega)
  have a0 := attr_k hf e a
  have a1 := attr_k hfs e a
  have s0 := strip_k hf
  have c0 := check_k hf (text_sized hzb)
  have c1 := check_k hfs (text_sized (sized_strip hzb))
  have hat : attrB (stripC ⟨b.al, b.aal, y, b.rep, b.ats, b.per, b.com, b.dt⟩) e a = attrB ⟨b.al, b.aal, y, b.rep, b.ats, b.per, b.com, b.dt⟩ e a := rfl
  have hsc := fun h => strip_check (c := ⟨b.al, b.aal, y, b.rep, b.ats, b.per, b.com, b.dt⟩) hyl h
  have hse := strip_elem (c := ⟨b.al, b.aal, y, b.rep, b.ats, b.per, b.com, b.dt⟩) e
  rw [hat] at a1
  rw [← hd] at hse hsc c1 c0 s0 a1 a0 e1 e0
  have hj : boltinglaw12_ConfigStrip.j0 3001 e (elemI (stripC d) e) false b.al b.aal y b.rep b.ats b.per b.com b.dt = some true := by
    rw [boltinglaw12_ConfigStrip.j0, if_neg (by decide), runsafe_f, Option.bind_some, has_f _ _ (by decide) (by decide), Option.bind_some]
    by_cases hu : mem unsafeL e = true
    · rw [if_pos hu, hse, if_pos hu, if_pos rfl]
      rfl
    · rw [if_neg hu]
      have e0' : config_Element.f 3000 b.al b.aal y b.rep b.ats b.per b.com b.dt e = some (elemI d e) := by rw [hd] at e0 ⊢; exact e0
      rw [e0', Option.bind_some, hse, if_neg hu, if_pos rfl]
      rfl
  subst hd
  unfold boltinglaw12_ConfigStrip.f
  rw [hbd, Option.bind_some]
  show (if 0 ≤ mn (b.els.length : Int) 50 then (if mn (b.els.length : Int) 50 ≤ (b.els.length : Int) then ((some (b.els.take (mn (b.els.length : Int) 50).toNat)).bind _) else none) else none) = _
  rw [if_pos (mn50 _).1, if_pos (mn50 _).2.1, take50, hy, Option.bind_some]
  show ((config_Strip.f b.al b.aal y b.rep b.ats b.per b.com b.dt).bind _) = _
  simp only at s0 a0 c0
  rw [s0, Option.bind_some]
  show ((config_Element.f 3001 (stripC ⟨b.al, b.aal, y, b.rep, b.ats, b.per, b.com, b.dt⟩).al (stripC ⟨b.al, b.aal, y, b.rep, b.ats, b.per, b.com, b.dt⟩).aal (stripC ⟨b.al, b.aal, y, b.rep, b.ats, b.per, b.com, b.dt⟩).els (stripC ⟨b.al, b.aal, y, b.rep, b.ats, b.per, b.com, b.dt⟩).rep (stripC ⟨b.al, b.aal, y, b.rep, b.ats, b.per, b.com, b.dt⟩).ats (stripC ⟨b.al, b.aal, y, b.rep, b.ats, b.per, b.com, b.dt⟩).per (stripC ⟨b.al, b.aal, y, b.rep, b.ats, b.per, b.com, b.dt⟩).com (stripC ⟨b.al, b.aal, y, b.rep, b.ats, b.per, b.com, b.dt⟩).dt e).bind _) = _
  rw [e1, Option.bind_some]
  show ((config_Attr.f b.al b.aal y b.rep b.ats b.per b.com b.dt e a).bind _) = _
  rw [a0, Option.bind_some]
  show ((config_Attr.f (stripC ⟨b.al, b.aal, y, b.rep, b.ats, b.per, b.com, b.dt⟩).al (stripC ⟨b.al, b.aal, y, b.rep, b.ats, b.per, b.com, b.dt⟩).aal (stripC ⟨b.al, b.aal, y, b.rep, b.ats, b.per, b.com, b.dt⟩).els (stripC ⟨b.al, b.aal, y, b.rep, b.ats, b.per, b.com, b.dt⟩).rep (stripC ⟨b.al, b.aal, y, b.rep, b.ats, b.per, b.com, b.dt⟩).ats (stripC ⟨b.al, b.aal, y, b.rep, b.ats, b.per, b.com, b.dt⟩).per (stripC ⟨b.al, b.aal, y, b.rep, b.ats, b.per, b.com, b.dt⟩).com (stripC ⟨b.al, b.aal, y, b.rep, b.ats, b.per, b.com, b.dt⟩).dt e a).bind _) = _
  rw [a1, Option.bind_some, bne_self_eq_false, if_neg (by decide)]
  show ((config_Check.f b.al b.aal y b.rep b.ats b.per b.com b.dt).bind _) = _
  rw [c0, Option.bind_some]
  by_cases hc : checkI ⟨b.al, b.aal, y, b.rep, b.ats, b.per, b.com, b.dt⟩ = 0
  · rw [if_pos hc]
    show ((config_Check.f (stripC ⟨b.al, b.aal, y, b.rep, b.ats, b.per, b.com, b.dt⟩).al (stripC ⟨b.al, b.aal, y, b.rep, b.ats, b.per, b.com, b.dt⟩).aal (stripC ⟨b.al, b.aal, y, b.rep, b.ats, b.per, b.com, b.dt⟩).els (stripC ⟨b.al, b.aal, y, b.rep, b.ats, b.per, b.com, b.dt⟩).rep (stripC ⟨b.al, b.aal, y, b.rep, b.ats, b.per, b.com, b.dt⟩).ats (stripC ⟨b.al, b.aal, y, b.rep, b.ats, b.per, b.com, b.dt⟩).per (stripC ⟨b.al, b.aal, y, b.rep, b.ats, b.per, b.com, b.dt⟩).com (stripC ⟨b.al, b.aal, y, b.rep, b.ats, b.per, b.com, b.dt⟩).dt).bind _) = _
    rw [c1, Option.bind_some, hsc hc]
    exact hj
  · rw [if_neg hc]
    exact hj
theorem Pure.ConfigStrip (c : Cf) (e a : ByteArray) (hz : Sized c) (he : e.size ≤ 140737488351232) (ha : a.size ≤ 140737488351232) : ∃ k, boltinglaw12_ConfigStrip.f k c.al c.aal c.els c.rep c.ats c.per c.com c.dt e a = some true := ⟨3001, strip_f_law c hz e a⟩
end Go.Proofs.Ytjofofpplpmgjaa
/- The row of ConfigStrip. -/
namespace Go.Proofs.Ytjofofpplpmgjaa.configStrip
open Go.ChangeShapes Go.WideShapes Go.ChangeAt Go.RowKit
open Go.ChangeMaps (open_string shut_string)
set_option linter.unusedVariables false
set_option linter.unusedSimpArgs false
theorem own : ownKnob Try.prog.godebug = none := by kernel_rfl
theorem laidOut : laidOutB Try.prog = true := by kernel_rfl
set_option maxRecDepth 100000 in
theorem lifted (os : Os) (started : os.Started) (H : Type) (enc : TypeId × Value → H) :
    ReturnsInHanded {} Try.checked os 4 .any (Rows.configStripSpec.pre6 enc Try.prog Try.f4 Rows.configStripRow.domain false) (Rows.configStripSpec.post enc Try.prog Try.f4 false true false false) := by
  refine returnsInHanded_of_change_sized (C := Try.checked) own started (by kernel_rfl) Try.func4
    (ChangeSpec.witness6 (enc := enc) (C := Try.checked) false ⟨#[], #[.agg #[.bool false, .bool false, .slice none 0 0, .slice none 0 0, .slice none 0 0, .slice none 0 0, .bool false, .bool false], .string ByteArray.empty, .string ByteArray.empty], []⟩ 8 (by kernel_rfl) (by kernel_rfl) (by kernel_rfl) (by kernel_rfl)) ?_
  intro W base args ds gs before hval0 hW hcnd hsz0 _
  have hsz : (DataW.weightsEach Try.prog (Try.f4.params.toList ++ Rows.configStripSpec.plain.varTypes Try.prog) (ds ++ gs)).all (· ≤ reachBytes) = true := hsz0
  have hval : ∀ (j : Nat) t v, Try.f4.params[j]? = some t → args[j]? = some v → Value.okWide Try.prog W .any base t v := hval0
  have hW' := hW
  obtain ⟨p, q, hA0, hV, rfl, hfz, hnd⟩ := hW
  have hA : DataW.TrodAll enc Try.prog W 0 (fun _ => true) true Try.f4.params.toList args.toList ds p := hA0
  rw [Try.params4] at hA hval hsz
  obtain ⟨v0, vs0, d0, ds0, p0, q0, hargs, rfl, rfl, h0, r0⟩ := trodAll_cons hA
  obtain ⟨v1, vs1, d1, ds1, p1, q1, rfl, rfl, rfl, h1, r1⟩ := trodAll_cons r0
  obtain ⟨v2, vs2, d2, ds2, p2, q2, rfl, rfl, rfl, h2, r2⟩ := trodAll_cons r1
  obtain ⟨rfl, rfl, rfl⟩ := trodAll_nil r2
  obtain rfl : args = #[v0, v1, v2] := by cases args; simp_all
  obtain ⟨rfl, rfl⟩ := trodVars_none hV
  have k0 := h0
  have lt0 : ∀ x ∈ p0, x.block < W.heap.size := by obtain ⟨m, hm⟩ := k0; exact DataW.trod_lt m _ _ _ hm
  obtain ⟨b0, A2_0, c2_0, A3_0, c3_0, A4_0, c4_0, A5_0, c5_0, rfl, ⟨x2_0, g2_0⟩, ⟨x3_0, g3_0⟩, ⟨x4_0, g4_0⟩, ⟨x5_0, g5_0⟩, z_0⟩ := open_conf (hval 0 25 v0 rfl rfl) h0 (fun n hn => by simpa using List.all_eq_true.1 hsz n (DataW.weights_mem_each (j := 0) rfl rfl n hn))
  obtain ⟨a1, rfl, rfl, rfl, y1⟩ := open_string Try.underlying9 (hval 1 9 v1 rfl rfl) h1
  have w1 : a1.size ≤ 140737488351232 := by
    have z := sized_string hsz (j := 1) (t := 9) rfl rfl
    rw [Array.length_toList] at z
    exact z
  obtain ⟨a2, rfl, rfl, rfl, y2⟩ := open_string Try.underlying9 (hval 2 9 v2 rfl rfl) h2
  have w2 : a2.size ≤ 140737488351232 := by
    have z := sized_string hsz (j := 2) (t := 9) rfl rfl
    rw [Array.length_toList] at z
    exact z
  clear hA0 hval0 hsz0 hsz
  obtain ⟨k, hk⟩ := Pure.ConfigStrip b0 a1 a2 z_0 w1 w2
  refine (Pr.boltinglaw12_ConfigStrip.calls k b0.al b0.aal A2_0 c2_0 b0.els A3_0 c3_0 b0.rep A4_0 c4_0 b0.ats A5_0 c5_0 b0.per b0.com b0.dt a1 a2 true W g2_0 x2_0 g3_0 x3_0 g4_0 x4_0 g5_0 x5_0 hk (hT := ⟨rfl⟩)).mono fun e W' ⟨he, bel0⟩ => ?_
  have bel : Below W.heap.size W W' := by first | exact bel0 | exact below_of_drawn0 bel0
  subst he
  exact ⟨_, rfl, _, _, _, [], _, [], hW', trodAll_mk1 (shut_bool Try.underlying4 _), (trodAll_cons_mk (Below.trod laidOut (by kernel_rfl) (of_decide_eq_true (by kernel_rfl)) k0 bel lt0) (trodAll_cons_mk (shut_string Try.underlying9 y1) (trodAll_cons_mk (shut_string Try.underlying9 y2) trodAll_mk0))), rfl, bel.frame _, fun h => by cases h⟩
theorem over : Rows.configStripRow.holds Try.pinned (OpenSpec.ofChange Rows.configStripSpec) :=
  OpenClaim.holds_of_wide 4 Try.f4 rfl rfl rfl rfl rfl rfl rfl ⟨rfl, rfl, rfl, rfl, rfl⟩ rfl rfl rfl rfl rfl (by kernel_rfl) Try.func4 (by kernel_rfl)
    (of_decide_eq_true (by kernel_rfl)) (by unfold Func.isWrapper; first | (rw [if_pos (by decide +kernel)]; kernel_rfl) | (rw [if_neg (by decide +kernel)]; exact ⟨rfl, rfl⟩))
    (fun os started H enc _ => lifted os started H enc)
theorem proved : Rows.ConfigStripSaid := over
#print axioms proved
end Go.Proofs.Ytjofofpplpmgjaa.configStrip
namespace Go.Proofs.Ytjofofpplpmgjaa
/-- The row, under a short name, for the claim. -/
theorem configStrip_holds : Rows.ConfigStripSaid := configStrip.proved
end Go.Proofs.Ytjofofpplpmgjaa
