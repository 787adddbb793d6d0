/- Steps towards RBoth: DRn, DRd, DRl, DRt. -/
import Derived.Test.YtpcfnkmljchiiaaGreatDoorZ04
import Derived.Test.YtpcfnkmljchiiaaGreatDoorZ12
import Derived.Lib.SlBytesRow
import Derived.Test.YtpcfnkmljchiiaaGreatDoorZ14
set_option linter.unusedVariables false
set_option linter.unusedSimpArgs false
section
/- The document's files: their bytes now. -/
namespace Go.Proofs.YtpcfnkmljchiiaaGreatDoor.DRn
open Go Go.RowKit Go.Maps Go.Proofs.YtpcfnkmljchiiaaGreatDoorW.PrintWords Go.Proofs.YtpcfnkmljchiiaaGreatDoorW.PrintLast DPl DAt GRef  DCrc
def kStp : Kd Chg := Kd.iso (Kd.pair (Kd.int .i64) (Kd.pair Kd.string Kd.bool)) (fun c => ((c.pos : Int), (strOfNums c.b, c.cut)))
def StpsAt (B : Nat) (W : World) (v : Value) (l : List Chg) : Prop := Kd.R kStp 147 W B (fun _ => True) v l
/-- A file of the document's disk. -/
structure RFileAt (B : Nat) (W : World) (k : Nat) (ov : Value) (f : Fil) : Prop where
  obj : W.heap[k]? = some (.cells #[.string (strOfNums f.sure), ov] 51 (0, 0))
  opn : StpsAt B W ov f.opn
end Go.Proofs.YtpcfnkmljchiiaaGreatDoor.DRn
end
section
/- The document's disk in the heap; its step. -/
namespace Go.Proofs.YtpcfnkmljchiiaaGreatDoor.DRd
open Go Go.RowKit Go.Maps Go.Proofs.YtpcfnkmljchiiaaGreatDoorW.PrintWords Go.Proofs.YtpcfnkmljchiiaaGreatDoorW.PrintLast DPl DAt  DRn
/-- The kinds of blocks that the document's disk writes. -/
def rkT (t : TypeId) : Bool := t == 47 || t == 48 || t == 51 || t == 144 || t == 147
def rk : Obj → Bool
  | .cells _ t _ => rkT t
  | _ => false
/-- A call has turned nothing but blocks of the document's kinds, from B on. -/
structure RTurn (B : Nat) (w w' : World) : Prop where
  os : w'.os = w.os
  tape : w'.tape = w.tape
  output : w'.output = w.output
  size : w.heap.size ≤ w'.heap.size
  low : ∀ k, k < B → k < w.heap.size → w'.heap[k]? = w.heap[k]?
  kind : ∀ (k : Nat) (o : Obj), w.heap[k]? = some o → rk o = false → w'.heap[k]? = some o
variable {B : Nat} {a b c w w' w1 : World}
theorem RTurn.refl (B : Nat) (w : World) : RTurn B w w := ⟨rfl, rfl, rfl, Nat.le_refl _, fun _ _ _ => rfl, fun _ _ h _ => h⟩
theorem RTurn.trans (h : RTurn B a b) (k : RTurn B b c) : RTurn B a c :=
  ⟨k.os.trans h.os, k.tape.trans h.tape, k.output.trans h.output, Nat.le_trans h.size k.size, fun i hi hs => (k.low i hi (Nat.lt_of_lt_of_le hs h.size)).trans (h.low i hi hs), fun i o ho hd => k.kind i o (h.kind i o ho hd) hd⟩
theorem RTurn.of_below (hb : Below w.heap.size w w') : RTurn B w w' :=
  ⟨hb.os, hb.tape, hb.output, hb.size, fun k _ hs => hb.block k hs, fun k o ho _ => (hb.block k (blk_lt ho)).trans ho⟩
theorem RTurn.setCell (h : RTurn B a w) {g : Nat} {cs : Array Value} {t : TypeId} {m : Nat × Nat} (hg : w.heap[g]? = some (.cells cs t m)) (ht : rkT t = true) (hB : B ≤ g) (i : Nat) (u : Value) : RTurn B a (w.setCell ⟨g, i, none⟩ u) := by
  have hk : ∀ k, k ≠ g → (w.setCell ⟨g, i, none⟩ u).heap[k]? = w.heap[k]? := fun k hk => Below.heap_setCell w ⟨g, i, none⟩ u k hk
  refine h.trans ⟨rfl, rfl, rfl, by simp [World.setCell], fun k h1 h2 => hk k (by omega), fun k o ho hd => ?_⟩
  by_cases e : k = g
  · subst e
    rw [hg] at ho
    obtain rfl := Option.some.inj ho
    exact absurd hd (by simp [rk, ht])
  · exact (hk k e).trans ho
theorem RTurn.toBelow (h : RTurn B a w) (hB : B ≤ a.heap.size) : Below B a w := ⟨h.os, h.tape, h.output, h.size, fun k hk => h.low k hk (by omega)⟩
/-- The document's struct: files, the sure names and their numbers, open steps, quota, armed, off, steps. -/
def rdO (fv nv iv ov : Value) (q ar : Int) (off : Bool) (st : Int) : Obj := .cells #[fv, nv, iv, ov, .int .i64 q, .int .i64 ar, .bool off, .int .i64 st] 47 (0, 0)
end Go.Proofs.YtpcfnkmljchiiaaGreatDoor.DRd
end
section
/- The document's disk lies in a world; its count of open steps. -/
namespace Go.Proofs.YtpcfnkmljchiiaaGreatDoor.DRl
open Go Go.RowKit Go.Maps Go.WideMaps Go.Proofs.YtpcfnkmljchiiaaGreatDoorW.PrintWords Go.Proofs.YtpcfnkmljchiiaaGreatDoorW.PrintLast DBase DPl DAt Go.Proofs.YtpcfnkmljchiiaaGreatDoor.Is DFil DRn DRd 
def RPtrsAt (B : Nat) (W : World) (v : Value) (l : List Nat) : Prop := Kd.R kPtr 48 W B (fun _ => True) v l
def REntsAt (B : Nat) (W : World) (v : Value) (l : List Ent) : Prop := Kd.R kEnt 144 W B (fun _ => True) v l
/-- A name as a text. -/
def nmS (q : List UInt8) : ByteArray := ⟨q.toArray⟩
structure RFilesAt (B : Nat) (W : World) (L : List (Nat × Value)) (fs : List Fil) : Prop where
  len : L.length = fs.length
  each : ∀ (i : Nat) (x : Nat × Value) (f : Fil), L[i]? = some x → fs[i]? = some f → RFileAt B W x.1 x.2 f
  lo : ∀ x ∈ L, B ≤ x.1
  far : ∀ (i j : Nat) (x y : Nat × Value), L[i]? = some x → L[j]? = some y → i ≠ j → Far x y
structure RLies (B : Nat) (W : World) (p : Nat) (D : Dsk) (L : List (Nat × Value)) (fv nv iv ov : Value) : Prop where
  obj : W.heap[p]? = some (rdO fv nv iv ov D.quota D.armed D.off D.steps)
  lop : B ≤ p
  names : Kd.R Kd.string 9 W B (fun _ => True) nv (D.sure.map fun q => nmS q.1)
  nums : Kd.R (Kd.int .i64) 3 W B (fun _ => True) iv (D.sure.map Prod.snd)
  ptrs : RPtrsAt B W fv (L.map Prod.fst)
  opn : REntsAt B W ov D.opn
  files : RFilesAt B W L D.files
end Go.Proofs.YtpcfnkmljchiiaaGreatDoor.DRl
end
section
/- The two disks side by side: what turns the one keeps the other. -/
namespace Go.Proofs.YtpcfnkmljchiiaaGreatDoor.DRt
open Go Go.RowKit Go.Maps Go.Proofs.YtpcfnkmljchiiaaGreatDoorW.PrintWords Go.Proofs.YtpcfnkmljchiiaaGreatDoorW.PrintLast DPl DAt DRn DRd DRl
variable {B : Bx} {p : Nat} {D : Dsk} {w w' : World}
/-- A row whose blocks are of kinds that a call keeps. -/
theorem R_turn {α : Type} {d : Kd α} {e base : Nat} {ok : Nat → Prop} {v : Value} {xs : List α} (h : d.R e w base ok v xs) (hk : ∀ (k : Nat) (o : Obj), w.heap[k]? = some o → dk o = false → w'.heap[k]? = some o) (hE : ∀ q ∈ e :: d.E, dkT q = false) : d.R e w' base ok v xs :=
  R_own2 h (fun k q cells hq hc => (hk k _ hc (hE q hq)).trans hc.symm)
end Go.Proofs.YtpcfnkmljchiiaaGreatDoor.DRt
end
