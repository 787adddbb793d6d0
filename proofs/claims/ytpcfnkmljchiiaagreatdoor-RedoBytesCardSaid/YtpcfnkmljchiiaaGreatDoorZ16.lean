/- Steps towards RBoth: Moved. -/
import Derived.Below
import Derived.Maps.RangeWalk
import Derived.Maps.OwnSet
set_option linter.unusedVariables false
set_option linter.unusedSimpArgs false
/- Which blocks an act may turn: the frame of an object that lies in several blocks. -/
namespace Go.Proofs.YtpcfnkmljchiiaaGreatDoor.Moved
open Go Go.RowKit
/-- Of the blocks that were there only those of S may have turned; the streams are as they were. -/
structure Moved (S : Nat → Prop) (w w' : World) : Prop where
  os : w'.os = w.os
  tape : w'.tape = w.tape
  output : w'.output = w.output
  size : w.heap.size ≤ w'.heap.size
  block : ∀ k, k < w.heap.size → ¬ S k → w'.heap[k]? = w.heap[k]?
variable {S T : Nat → Prop} {a b c w w' : World}
theorem Moved.refl (S : Nat → Prop) (w : World) : Moved S w w := ⟨rfl, rfl, rfl, Nat.le_refl _, fun _ _ _ => rfl⟩
theorem Moved.mono (h : Moved S w w') (hs : ∀ k, S k → T k) : Moved T w w' := ⟨h.os, h.tape, h.output, h.size, fun k hk hn => h.block k hk (fun e => hn (hs k e))⟩
/-- Two acts: the second may turn what the first might, and what is new. -/
theorem Moved.trans (h : Moved S a b) (k : Moved T b c) (ht : ∀ i, T i → S i ∨ a.heap.size ≤ i) : Moved S a c :=
  ⟨k.os.trans h.os, k.tape.trans h.tape, k.output.trans h.output, Nat.le_trans h.size k.size, fun i hi hn =>
    (k.block i (Nat.lt_of_lt_of_le hi h.size) (fun e => (ht i e).elim hn (fun e2 => absurd hi (Nat.not_lt.2 e2)))).trans (h.block i hi hn)⟩
theorem Moved.below (h : Moved S a w) (hb : Below w.heap.size w w') : Moved S a w' :=
  ⟨hb.os.trans h.os, hb.tape.trans h.tape, hb.output.trans h.output, Nat.le_trans h.size hb.size, fun i hi hn => (hb.block i (Nat.lt_of_lt_of_le hi h.size)).trans (h.block i hi hn)⟩
theorem Moved.of_below (hb : Below w.heap.size w w') : Moved S w w' := (Moved.refl S w).below hb
theorem Moved.drew (h : Moved S a w) : Moved S a w.drew := ⟨h.os, h.tape, h.output, h.size, h.block⟩
theorem Moved.alloc (h : Moved S a w) (o : Obj) : Moved S a (w.alloc o) := h.below ((Below.refl _ w).alloc (Nat.le_refl _) o)
theorem Moved.setCell (h : Moved S a w) {p : Addr} (hp : S p.block ∨ a.heap.size ≤ p.block) (u : Value) : Moved S a (w.setCell p u) :=
  ⟨h.os, h.tape, h.output, by simpa [World.setCell] using h.size, fun k hk hn =>
    (Below.heap_setCell w p u k (fun e => hp.elim (fun e2 => hn (e ▸ e2)) (fun e2 => by omega))).trans (h.block k hk hn)⟩
theorem Moved.grown {row : Option Nat} (h : Moved S a w) (hg : w.grownBy w' row) (hr : ∀ k, row = some k → S k ∨ a.heap.size ≤ k) : Moved S a w' :=
  ⟨hg.os.trans h.os, hg.tape.trans h.tape, hg.output.trans h.output, Nat.le_trans h.size hg.size, fun k hk hn =>
    (hg.block k (Nat.lt_of_lt_of_le hk h.size) (fun e => (hr k e.symm).elim hn (fun e2 => by omega))).trans (h.block k hk hn)⟩
/-- At the end: nothing below B has turned. -/
theorem Moved.toBelow {B : Nat} (h : Moved S a w) (hS : ∀ k, S k → B ≤ k) (hB : B ≤ a.heap.size) : Below B a w :=
  ⟨h.os, h.tape, h.output, h.size, fun k hk => h.block k (by omega) (fun e => by have := hS k e; omega)⟩
theorem Moved.cell {p : Addr} {v : Value} (h : Moved S w w') (hv : w.cell? p = some v) (hn : ¬ S p.block) : w'.cell? p = some v :=
  (World.cell?_of_block (w := w) (h.block p.block (World.block_lt_of_cell? w _ hv) hn)).trans hv
theorem Moved.ownsMap {H : Type} {P : Program} {k : TypeId} {R : Value → Option (DataW H × List MemPlace)} {m n : Nat} {D : DataW H} (h : Moved S w w') (hm : w.ownsMap P k R m n D) (hn : ¬ S m) : w'.ownsMap P k R m n D := by
  obtain ⟨es, clock, hb, rest⟩ := hm
  exact ⟨es, clock, (h.block m (Array.getElem?_eq_some_iff.1 hb).1 hn).trans hb, rest⟩
end Go.Proofs.YtpcfnkmljchiiaaGreatDoor.Moved
