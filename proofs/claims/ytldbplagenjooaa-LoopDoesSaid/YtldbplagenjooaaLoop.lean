/- A loop of package loop in memory: the map of its tasks, the slice of its small ones: what it reads as, which blocks are its own. -/
import Derived.Test.YtldbplagenjooaaShelf
import Derived.Test.YtldbplagenjooaaWWords
import Derived.Maps.OwnSet
import Derived.Maps.OwnOps
import Derived.Maps.RangeWalk
import Derived.Maps.AppendAt
import Derived.Maps.Ext
import Derived.WalkKit
import Derived.Lib.Hide
namespace Go.Proofs.Ytldbplagenjooaa
set_option linter.unusedVariables false
set_option linter.unusedSimpArgs false
open Go.RowKit Go.Lib Go.Shelf Go.Maps Go.Proofs.YtldbplagenjooaaW.PrintWords

abbrev encS (xs : List ByteArray) : List Value := xs.map Value.string
abbrev nilS : Value := .slice none 0 0
/-- A map's element, as it is. -/
def Rv (v : Value) : Option (DataW Value × List MemPlace) := some (.held v, [])
abbrev key (k : Int) : Lit := .int .i64 k
def upd (T : Int → List ByteArray) (k : Int) (l : List ByteArray) : Int → List ByteArray := fun j => if j = k then l else T j
theorem upd_self (T : Int → List ByteArray) (k : Int) (l : List ByteArray) : upd T k l k = l := if_pos rfl
theorem upd_ne {T : Int → List ByteArray} {k j : Int} {l : List ByteArray} (h : j ≠ k) : upd T k l j = T j := if_neg h
def updV (f : Int → Value) (k : Int) (v : Value) : Int → Value := fun j => if j = k then v else f j
theorem updV_self (T : Int → Value) (k : Int) (l : Value) : updV T k l k = l := if_pos rfl
theorem updV_ne {T : Int → Value} {k j : Int} {l : Value} (h : j ≠ k) : updV T k l j = T j := if_neg h

/-- What turns: blocks that are ok, or new. -/
structure Frame (ok : Nat → Prop) (w w' : World) : Prop where
  os : w'.os = w.os
  tape : w'.tape = w.tape
  output : w'.output = w.output
  size : w.heap.size ≤ w'.heap.size
  block : ∀ i, i < w.heap.size → ¬ ok i → w'.heap[i]? = w.heap[i]?
theorem Frame.refl (ok : Nat → Prop) (w : World) : Frame ok w w := ⟨rfl, rfl, rfl, Nat.le_refl _, fun _ _ _ => rfl⟩
def Wider (ok : Nat → Prop) (w : World) : Nat → Prop := fun j => ok j ∨ w.heap.size ≤ j
theorem Frame.trans {ok : Nat → Prop} {a b c : World} (h : Frame ok a b) (k : Frame (Wider ok a) b c) : Frame ok a c :=
  ⟨k.os.trans h.os, k.tape.trans h.tape, k.output.trans h.output, Nat.le_trans h.size k.size, fun i hi hn => (k.block i (Nat.lt_of_lt_of_le hi h.size) (fun g => g.elim hn (fun g2 => by omega))).trans (h.block i hi hn)⟩
theorem Frame.mono {ok ok' : Nat → Prop} {a b : World} (h : Frame ok a b) (hk : ∀ j, ok j → ok' j) : Frame ok' a b :=
  ⟨h.os, h.tape, h.output, h.size, fun i hi hn => h.block i hi (fun g => hn (hk i g))⟩
theorem Frame.of_below {a b : World} (ok : Nat → Prop) (h : Below a.heap.size a b) : Frame ok a b := ⟨h.os, h.tape, h.output, h.size, fun i hi _ => h.block i hi⟩
theorem Frame.of_grown {ok : Nat → Prop} {a b : World} {row : Option Nat} (h : a.grownBy b row) (hr : ∀ j, row = some j → ok j ∨ a.heap.size ≤ j) : Frame ok a b :=
  ⟨h.os, h.tape, h.output, h.size, fun i hi hn => h.block i hi (fun e => (hr i e.symm).elim hn (fun g => by omega))⟩
theorem Frame.below {ok : Nat → Prop} {a b : World} (h : Frame ok a b) {B : Nat} (hB : B ≤ a.heap.size) (hk : ∀ j, ok j → B ≤ j) : Below B a b :=
  ⟨h.os, h.tape, h.output, h.size, fun i hi => h.block i (by omega) (fun g => by have := hk i g; omega)⟩

structure LoopIs (w : World) (ok : Nat → Prop) (p n b : Nat) (vS : Value) (D : DataW Value) (fn : Int → Value) (T : Int → List ByteArray) (S : List ByteArray) : Prop where
  okp : ok p
  okb : ok b
  blk : w.heap[p]? = some (.cells #[.map (some b), vS] 52 (0, 0))
  map : w.ownsMap Try.prog 3 Rv b n D
  at_ : ∀ k, D.atKey (key k) (.held nilS) = .held (fn k)
  has : ∀ k, Maps.has D (key k) = decide (T k ≠ [])
  rng : ∀ k, T k ≠ [] → 0 ≤ k ∧ k < 8
  row : ∀ k, w.ownsRow 0 9 1 (fn k) (T k).length (encS (T k))
  rok : ∀ k j, (fn k).ownBlock = some j → ok j
  apart : ∀ k k', k ≠ k' → ∀ j, (fn k).ownBlock = some j → (fn k').ownBlock = some j → False
  srow : w.ownsRow 0 9 1 vS S.length (encS S)
  sok : ∀ j, vS.ownBlock = some j → ok j
  sap : ∀ k j, vS.ownBlock = some j → (fn k).ownBlock = some j → False
def LoopAt (w : World) (ok : Nat → Prop) (p n : Nat) (T : Int → List ByteArray) (S : List ByteArray) : Prop := ∃ b vS D fn, LoopIs w ok p n b vS D fn T S

theorem map_move {w w' : World} {P : Program} {k : TypeId} {R : Value → Option (DataW Value × List MemPlace)} {b n : Nat} {D : DataW Value} (h : w.ownsMap P k R b n D) (hm : w'.heap[b]? = w.heap[b]?) : w'.ownsMap P k R b n D := by
  obtain ⟨es, clock, hb, F, hs, hD⟩ := h
  exact ⟨es, clock, hm.trans hb, F, hs, hD⟩
section
variable {w w' : World} {ok ok' : Nat → Prop} {p n b : Nat} {vS : Value} {D : DataW Value} {fn : Int → Value} {T : Int → List ByteArray} {S : List ByteArray}
theorem LoopIs.move (h : LoopIs w ok p n b vS D fn T S) (hm : ∀ j, ok j → w'.heap[j]? = w.heap[j]?) : LoopIs w' ok p n b vS D fn T S :=
  ⟨h.okp, h.okb, (hm p h.okp).trans h.blk, map_move h.map (hm b h.okb), h.at_, h.has, h.rng, fun k => own_move (h.row k) (fun j hj => hm j (h.rok k j hj)), h.rok, h.apart, own_move h.srow (fun j hj => hm j (h.sok j hj)), h.sok, h.sap⟩
theorem LoopIs.mono (h : LoopIs w ok p n b vS D fn T S) (hk : ∀ j, ok j → ok' j) : LoopIs w ok' p n b vS D fn T S :=
  ⟨hk _ h.okp, hk _ h.okb, h.blk, h.map, h.at_, h.has, h.rng, h.row, fun k j hj => hk j (h.rok k j hj), h.apart, h.srow, fun j hj => hk j (h.sok j hj), h.sap⟩
theorem LoopIs.bound (h : LoopIs w ok p n b vS D fn T S) : LoopIs w (fun j => ok j ∧ j < w.heap.size) p n b vS D fn T S :=
  ⟨⟨h.okp, blk_lt h.blk⟩, ⟨h.okb, h.map.lt⟩, h.blk, h.map, h.at_, h.has, h.rng, h.row, fun k j hj => ⟨h.rok k j hj, own_lt (h.row k) j hj⟩, h.apart, h.srow, fun j hj => ⟨h.sok j hj, own_lt h.srow j hj⟩, h.sap⟩
theorem LoopAt.mono (h : LoopAt w ok p n T S) (hk : ∀ j, ok j → ok' j) : LoopAt w ok' p n T S := by
  obtain ⟨b, vS, D, fn, h⟩ := h; exact ⟨b, vS, D, fn, h.mono hk⟩
theorem LoopAt.more {n' : Nat} (h : LoopAt w ok p n T S) (hn : n ≤ n') : LoopAt w ok p n' T S := by
  obtain ⟨b, vS, D, fn, h⟩ := h; exact ⟨b, vS, D, fn, { h with map := h.map.mono hn }⟩
theorem LoopAt.bound (h : LoopAt w ok p n T S) : LoopAt w (fun j => ok j ∧ j < w.heap.size) p n T S := by
  obtain ⟨b, vS, D, fn, h⟩ := h; exact ⟨b, vS, D, fn, h.bound⟩
theorem LoopAt.move (h : LoopAt w ok p n T S) (hm : ∀ j, ok j → j < w.heap.size → w'.heap[j]? = w.heap[j]?) : LoopAt w' ok p n T S := by
  obtain ⟨b, vS, D, fn, h⟩ := h
  exact ⟨b, vS, D, fn, (h.bound.move (fun j hj => hm j hj.1 hj.2)).mono (fun _ g => g.1)⟩
theorem LoopAt.below (h : LoopAt w ok p n T S) (hb : Below w.heap.size w w') : LoopAt w' ok p n T S := h.move (fun j _ hj => hb.block j hj)
/-- Another loop's turns leave it as it is. -/
theorem LoopAt.frame (h : LoopAt w ok p n T S) (hf : Frame ok' w w') (ha : ∀ j, ok j → j < w.heap.size → ok' j → False) : LoopAt w' ok p n T S := h.move (fun j hj hl => hf.block j hl (fun g => ha j hj hl g))
theorem LoopAt.empty (h : LoopAt w ok p n T S) (k : Int) (hk : ¬ (0 ≤ k ∧ k < 8)) : T k = [] := by
  obtain ⟨b, vS, D, fn, h⟩ := h
  exact Decidable.byContradiction fun g => hk (h.rng k g)
end
theorem law_key : Keyed Try.prog 3 := int_keyed Try.underlying3
theorem zero_row (w : World) : (zeroValue 22).run Try.prog w = .ok nilS w := by kernel_rfl
theorem info_str : (Try.prog.info? 9).map (fun i => (i.zero, i.size, i.bytes)) = some (some (.string ByteArray.empty), 1, 16) := by kernel_rfl
theorem own_len {w : World} {base n : Nat} {e : TypeId} {size : Nat} {v : Value} {xs : List Value} (h : w.ownsRow base e size v n xs) : ∃ A c, v = .slice A n c ∧ n ≤ c := by
  obtain ⟨A, c, hv⟩ := own_slice h
  subst hv
  exact ⟨A, c, rfl, own_le h⟩
/-- What stands in the map at a key, in whatever world it stands. -/
theorem look_at {w : World} {b n : Nat} {D : DataW Value} {fn : Int → Value} (h : w.ownsMap Try.prog 3 Rv b n D) (hat : ∀ k, D.atKey (key k) (.held nilS) = .held (fn k)) {k : Int} (hk : (Lit.int .i64 k).wf = true) :
    (Instr.lookup 50 (.map (some b)) (.int .i64 k) false).run Try.prog w = .ok (fn k) w := by
  obtain ⟨v, ps, hr, hv⟩ := h.lookup (t := 50) (e := 22) law_key Try.underlying50 (zero_row w) (zd := .held nilS) (zp := []) rfl (keyOf_int_mk Try.underlying3 hk)
  rw [hat] at hv
  have : v = fn k := by
    unfold Rv at hv
    injection hv with hv
    injection hv with h1 h2
    injection h1
  rw [this] at hr
  exact hr
end Go.Proofs.Ytldbplagenjooaa
