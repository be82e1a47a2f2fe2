/- Maps keyed by a struct of two texts: their look-up and their store, whatever the order of their entries. -/
import Derived.Test.YtakhldahohooiaaBase
import Derived.Test.YtakhldahohooiaaWEqStruct
import Derived.Test.YtakhldahohooiaaWInvWords
import Derived.Maps.Keyed
namespace Go.Proofs.Ytakhldahohooiaa
set_option linter.unusedVariables false
set_option linter.unusedSimpArgs false
open Go.RowKit Go.Lib Go.ChangeMaps Go.Proofs.YtakhldahohooiaaW.PrintWords Go.Proofs.YtakhldahohooiaaW.PrintLast

/-- A place: an element's name, an attribute's. -/
def pk (a b : ByteArray) : Value := .agg #[.string a, .string b]
theorem pk_inj {a b c d : ByteArray} (h : pk a b = pk c d) : a = c ∧ b = d := by
  unfold pk at h
  simp at h
  exact h
section
variable (w : World)
theorem part_el (a b : ByteArray) : (part 9 #[.string a, .string b] 0).run Try.prog w = .ok (.string a) w := by
  simp [part, Try.isAgg9]
theorem part_at (a b : ByteArray) : (part 9 #[.string a, .string b] 1).run Try.prog w = .ok (.string b) w := by
  simp [part, Try.isAgg9]
theorem str_eq (d : Nat) (a c : ByteArray) : (Op.equalIn (d + 1) 9 (.string a) (.string c)).run Try.prog w = .ok (a == c) w := by
  simp [Op.equalIn, run_underlying Try.underlying9]
theorem pk_eq (a b c d : ByteArray) : (Op.equal 63 (pk a b) (pk c d)).run Try.prog w = .ok (a == c && b == d) w := by
  unfold Op.equal
  obtain ⟨m, hm⟩ : ∃ m, Op.maxDepth = m + 2 := ⟨_, rfl⟩
  rw [hm]
  exact eqA_of Try.underlying63 (by kernel_rfl) (eqf_cons rfl (part_el w a b) (part_el w c d) (str_eq w m a c) (eqf_last rfl (part_at w a b) (part_at w c d) (str_eq w m b d)))
theorem str_check (em : Bool) (n : Nat) (a : ByteArray) : (Instr.checkKey em (n + 1) 9 (.string a)).run Try.prog w = .ok () w := by
  simp [Instr.checkKey, run_underlying Try.underlying9]
theorem pk_check (em : Bool) (a b : ByteArray) : (Instr.checkKey em 10000 63 (pk a b)).run Try.prog w = .ok () w := by
  show (Instr.checkKey em (9998 + 1 + 1) _ _).run _ _ = _
  generalize 9998 = m
  have h0 := part_el w a b
  have h1 := part_at w a b
  have c0 := str_check w em m a
  have c1 := str_check w em m b
  unfold pk
  simp [Instr.checkKey, run_underlying Try.underlying63, Result.andThen, h0, h1, c0, c1]
open Classical in
/-- The first entry at a place. -/
noncomputable def findp (a b : ByteArray) : List MapEntry → Nat → Option (Nat × Value)
  | [], _ => none
  | e :: es, i => if e.key = pk a b then some (i, e.val) else findp a b es (i + 1)
theorem find_run (a b : ByteArray) : ∀ (es : List MapEntry) (i : Nat), (∀ e ∈ es, ∃ c d, e.key = pk c d) → (Instr.findAsking 63 (pk a b) es i).run Try.prog w = .ok (findp a b es i) w
  | [], i, _ => by simp [Instr.findAsking, findp]
  | e :: es, i, h => by
    obtain ⟨c, d, hk⟩ := h e (by simp)
    have he := pk_eq w a b c d
    have ih := find_run a b es (i + 1) (fun x hx => h x (by simp [hx]))
    unfold findp
    by_cases hc : e.key = pk a b
    · rw [if_pos hc]
      have := pk_inj (hk.symm.trans hc)
      rw [this.1, this.2] at hk he
      rw [show (a == a && b == b) = true by rw [Bool.and_eq_true]; exact ⟨(MapKept.bytes_beq a a).2 rfl, (MapKept.bytes_beq b b).2 rfl⟩] at he
      simp [Instr.findAsking, hk, he, Result.andThen]
    · rw [if_neg hc]
      have hb : (a == c && b == d) = false := by
        cases hb : (a == c && b == d) with
        | false => rfl
        | true =>
          rw [Bool.and_eq_true] at hb
          exact absurd (by rw [hk, ← (MapKept.bytes_beq _ _).1 hb.1, ← (MapKept.bytes_beq _ _).1 hb.2]) hc
      rw [hb] at he
      simp [Instr.findAsking, hk, he, Result.andThen]
      exact ih
theorem findKey_run (a b : ByteArray) (es : List MapEntry) (h : ∀ e ∈ es, ∃ c d, e.key = pk c d) : (Instr.findKey 63 (pk a b) es).run Try.prog w = .ok (findp a b es 0) w := by
  have hr := find_run w a b es 0 h
  cases es with
  | nil => simp [Instr.findKey, run_underlying Try.underlying63, Instr.findNow, findp, Result.andThen]
  | cons e t => simp [Instr.findKey, run_underlying Try.underlying63, Instr.findNow, Instr.sameNow, Result.andThen, hr]
end
/-! ### what a table holds: by what has been put in -/
/-- A row of a table: by which operation it comes, its place, its value. -/
structure Put where
  op : Nat
  el : ByteArray
  att : ByteArray
  val : Value
def Ent (L : List Put) (b : Nat → Bool) (es : Array MapEntry) : Prop :=
  (∀ e ∈ es.toList, ∃ q ∈ L, b q.op = true ∧ e.key = pk q.el q.att ∧ e.val = q.val) ∧ ∀ q ∈ L, b q.op = true → ∃ e ∈ es.toList, e.key = pk q.el q.att
/-- No two rows at one place. -/
def Apart (L : List Put) : Prop := ∀ p ∈ L, ∀ q ∈ L, p.el = q.el → p.att = q.att → p = q
theorem Ent.keys {L : List Put} {b : Nat → Bool} {es : Array MapEntry} (h : Ent L b es) : ∀ e ∈ es.toList, ∃ c d, e.key = pk c d := fun e he => by
  obtain ⟨q, _, _, hk, _⟩ := h.1 e he
  exact ⟨_, _, hk⟩
theorem Ent.start {L : List Put} {b : Nat → Bool} (h : ∀ q ∈ L, b q.op = false) : Ent L b #[] :=
  ⟨fun e he => by simp at he, fun q hq hb => by rw [h q hq] at hb; cases hb⟩
theorem Ent.push {L : List Put} {b : Nat → Bool} {es : Array MapEntry} (h : Ent L b es) {q : Put} (hq : q ∈ L) (ck : Nat) (hu : ∀ p ∈ L, p.op = q.op → p = q) : Ent L (up b q.op) (es.push ⟨pk q.el q.att, q.val, ck⟩) := by
  have hup : ∀ i, b i = true → up b q.op i = true := fun i hi => by unfold up; split <;> simp [hi]
  refine ⟨fun e he => ?_, fun p hp hb => ?_⟩
  · rw [Array.toList_push, List.mem_append, List.mem_singleton] at he
    rcases he with he | he
    · obtain ⟨p, hp, hb, h1, h2⟩ := h.1 e he
      exact ⟨p, hp, hup _ hb, h1, h2⟩
    · subst he
      exact ⟨q, hq, up_self b q.op, rfl, rfl⟩
  · by_cases e : p.op = q.op
    · obtain rfl := hu p hp e
      exact ⟨⟨pk p.el p.att, p.val, ck⟩, by rw [Array.toList_push]; simp, rfl⟩
    · rw [up_ne e] at hb
      obtain ⟨x, hx, hk⟩ := h.2 p hp hb
      exact ⟨x, by rw [Array.toList_push]; simp [hx], hk⟩
theorem findp_none {a b : ByteArray} : ∀ {es : List MapEntry} {i : Nat}, (∀ e ∈ es, e.key ≠ pk a b) → findp a b es i = Option.none
  | [], i, _ => rfl
  | e :: es, i, h => by
    unfold findp
    rw [if_neg (h e (by simp))]
    exact findp_none (fun x hx => h x (by simp [hx]))
theorem findp_some {a b : ByteArray} : ∀ {es : List MapEntry} {i : Nat}, (∃ e ∈ es, e.key = pk a b) → ∃ e ∈ es, e.key = pk a b ∧ ∃ j, findp a b es i = some (j, e.val)
  | [], i, h => by obtain ⟨e, he, _⟩ := h; simp at he
  | e :: es, i, h => by
    unfold findp
    by_cases hk : e.key = pk a b
    · exact ⟨e, by simp, hk, i, by rw [if_pos hk]⟩
    · obtain ⟨x, hx, hxk⟩ := h
      have hx' : x ∈ es := by
        rcases List.mem_cons.1 hx with e1 | e1
        · subst e1; exact absurd hxk hk
        · exact e1
      obtain ⟨y, hy, hyk, j, hj⟩ := findp_some (a := a) (b := b) (es := es) (i := i + 1) ⟨x, hx', hxk⟩
      exact ⟨y, by simp [hy], hyk, j, by rw [if_neg hk]; exact hj⟩
/-- What a table tells of a place. -/
def tell (L : List Put) (z : Value) (a b : ByteArray) : Value := match L.find? fun q => decide (q.el = a ∧ q.att = b) with
  | some q => q.val
  | none => z
theorem Ent.tells {L : List Put} {b : Nat → Bool} {es : Array MapEntry} (h : Ent L b es) (hA : Apart L) (hall : ∀ q ∈ L, b q.op = true) (x y : ByteArray) (z : Value) :
    (match findp x y es.toList 0 with | some (_, v) => v | none => z) = tell L z x y := by
  unfold tell
  cases hf : L.find? fun q => decide (q.el = x ∧ q.att = y) with
  | some q =>
    have hq := List.mem_of_find?_eq_some hf
    have hp := List.find?_some hf
    rw [decide_eq_true_eq] at hp
    obtain ⟨e, he, hk⟩ := h.2 q hq (hall q hq)
    rw [hp.1, hp.2] at hk
    obtain ⟨e', he', hk', j, hj⟩ := findp_some (i := 0) ⟨e, he, hk⟩
    rw [hj]
    obtain ⟨p, hp2, _, hpk, hpv⟩ := h.1 e' he'
    have := pk_inj (hpk.symm.trans hk')
    have : p = q := hA p hp2 q hq (by rw [this.1, hp.1]) (by rw [this.2, hp.2])
    subst this
    exact hpv
  | none =>
    rw [findp_none (fun e he hk => ?_)]
    obtain ⟨p, hp2, _, hpk, _⟩ := h.1 e he
    have hh := pk_inj (hpk.symm.trans hk)
    have := List.find?_eq_none.1 hf p hp2
    exact this (by rw [decide_eq_true_eq]; exact hh)
section
variable {w : World} {g ck : Nat} {es : Array MapEntry} {L : List Put} {b : Nat → Bool} {t e : TypeId}
theorem store_run (ht : Try.prog.underlying t = some (.map 63 e)) (hb : w.heap[g]? = some (.map es ck)) (h : Ent L b es) (hA : Apart L) {q : Put} (hq : q ∈ L) (hn : b q.op = false) :
    (Instr.mapUpdate t (.map (some g)) (pk q.el q.att) q.val).run Try.prog w = .ok () (setBlock w g (.map (es.push ⟨pk q.el q.att, q.val, ck⟩) (ck + 1))) := by
  have hf := findKey_run w q.el q.att es.toList h.keys
  rw [findp_none (fun x hx hk => by
    obtain ⟨p, hp, hpb, hpk, _⟩ := h.1 x hx
    have := pk_inj (hpk.symm.trans hk)
    have := hA p hp q hq this.1 this.2
    subst this
    rw [hn] at hpb; cases hpb)] at hf
  simp [Instr.mapUpdate, run_underlying ht, MapKept.run_getObj_map hb, pk_check w false q.el q.att, hf, MapKept.run_setObj_map _ hb, Result.andThen, setBlock]
theorem look_run (ht : Try.prog.underlying t = some (.map 63 e)) {z : Value} (hz : ∀ w, (zeroValue e).run Try.prog w = .ok z w) (hb : w.heap[g]? = some (.map es ck)) (h : Ent L b es) (hA : Apart L) (hall : ∀ q ∈ L, b q.op = true) (x y : ByteArray) :
    (Instr.lookup t (.map (some g)) (pk x y) false).run Try.prog w = .ok (tell L z x y) w := by
  have hf := findKey_run w x y es.toList h.keys
  have ht2 := h.tells hA hall x y z
  rw [← ht2]
  cases hfp : findp x y es.toList 0 with
  | none =>
    rw [hfp] at hf
    simp [Instr.lookup, run_underlying ht, MapKept.run_getObj_map hb, pk_check w es.isEmpty x y, hf, Result.andThen, hz]
  | some r =>
    rw [hfp] at hf
    simp [Instr.lookup, run_underlying ht, MapKept.run_getObj_map hb, pk_check w es.isEmpty x y, hf, Result.andThen]
end
end Go.Proofs.Ytakhldahohooiaa
