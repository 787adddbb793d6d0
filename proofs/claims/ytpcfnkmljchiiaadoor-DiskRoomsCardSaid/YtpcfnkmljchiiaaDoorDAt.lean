/- Where a disk lies in memory; what an act on disks may turn. -/
import Derived.Test.YtpcfnkmljchiiaaDoorProg
import Derived.Test.YtpcfnkmljchiiaaDoorWWords
import Derived.Test.YtpcfnkmljchiiaaDoorWLast
import Derived.Test.YtpcfnkmljchiiaaDoorDPl
import Derived.Maps.OwnSet
import Derived.Maps.RangeWalk
namespace Go.Proofs.YtpcfnkmljchiiaaDoor.DAt
open Go Go.RowKit Go.Maps Go.Proofs.YtpcfnkmljchiiaaDoorW.PrintWords Go.Proofs.YtpcfnkmljchiiaaDoor.DPl
set_option linter.unusedVariables false
/-! ### what an act may turn: blocks from B on of a disk's own kinds -/
def dkT (t : TypeId) : Bool := t == 59 || t == 66 || t == 69 || t == 65 || t == 77
def dk : Obj → Bool
  | .cells _ t _ => dkT t
  | .map _ _ => true
  | _ => false
structure Turn (B : Nat) (w w' : World) : Prop where
  os : w'.os = w.os
  tape : w'.tape = w.tape
  output : w'.output = w.output
  size : w.heap.size ≤ w'.heap.size
  low : ∀ k, k < B → k < w.heap.size → w'.heap[k]? = w.heap[k]?
  kind : ∀ (k : Nat) (o : Obj), w.heap[k]? = some o → dk o = false → w'.heap[k]? = some o
variable {B : Nat} {a b c w w' w1 : World}
theorem Turn.refl (B : Nat) (w : World) : Turn B w w := ⟨rfl, rfl, rfl, Nat.le_refl _, fun _ _ _ => rfl, fun _ _ h _ => h⟩
theorem Turn.trans (h : Turn B a b) (k : Turn B b c) : Turn B a c :=
  ⟨k.os.trans h.os, k.tape.trans h.tape, k.output.trans h.output, Nat.le_trans h.size k.size, fun i hi hs => (k.low i hi (Nat.lt_of_lt_of_le hs h.size)).trans (h.low i hi hs), fun i o ho hd => k.kind i o (h.kind i o ho hd) hd⟩
theorem Turn.of_below (hb : Below w.heap.size w w') : Turn B w w' :=
  ⟨hb.os, hb.tape, hb.output, hb.size, fun k _ hs => hb.block k hs, fun k o ho _ => (hb.block k (blk_lt ho)).trans ho⟩
theorem Turn.below (h : Turn B a w) (hb : Below w.heap.size w w') : Turn B a w' := h.trans (Turn.of_below hb)
theorem Turn.alloc (h : Turn B a w) (o : Obj) : Turn B a (w.alloc o) := h.below ((Below.refl _ w).alloc (Nat.le_refl _) o)
theorem Turn.drew (h : Turn B a w) : Turn B a w.drew := ⟨h.os, h.tape, h.output, h.size, h.low, h.kind⟩
theorem Turn.drewN (h : Turn B a w) (n : Nat) : Turn B a (w.drewN n) := ⟨h.os, h.tape, h.output, h.size, h.low, h.kind⟩
theorem Turn.setCell (h : Turn B a w) {g : Nat} {cs : Array Value} {t : TypeId} {m : Nat × Nat} (hg : w.heap[g]? = some (.cells cs t m)) (ht : dkT t = true) (hB : B ≤ g) (i : Nat) (u : Value) : Turn B a (w.setCell ⟨g, i, none⟩ u) := by
  have hk : ∀ k, k ≠ g → (w.setCell ⟨g, i, none⟩ u).heap[k]? = w.heap[k]? := fun k hk => Below.heap_setCell w ⟨g, i, none⟩ u k hk
  refine h.trans ⟨rfl, rfl, rfl, by simp [World.setCell], fun k h1 h2 => hk k (by omega), fun k o ho hd => ?_⟩
  by_cases e : k = g
  · subst e
    rw [hg] at ho
    obtain rfl := Option.some.inj ho
    exact absurd hd (by simp [dk, ht])
  · exact (hk k e).trans ho
theorem Turn.grown {row : Option Nat} (h : Turn B a w) (hg : w.grownBy w' row) (hr : ∀ k, row = some k → B ≤ k ∧ ∃ o, w.heap[k]? = some o ∧ dk o = true) : Turn B a w' := by
  refine h.trans ⟨hg.os, hg.tape, hg.output, hg.size, fun k h1 h2 => hg.block k h2 (fun e => ?_), fun k o ho hd => (hg.block k (blk_lt ho) (fun e => ?_)).trans ho⟩
  · have := (hr k e.symm).1
    omega
  · obtain ⟨o1, h1, h2⟩ := (hr k e.symm).2
    rw [ho] at h1
    obtain rfl := Option.some.inj h1
    exact absurd hd (by simp [h2])
/-- A row of a call's own that an append may have written. -/
theorem Turn.own {e : TypeId} {size n : Nat} {v : Value} {xs : List Value} (h : Turn B a w) (ho : w.ownsRow B e size v n xs) (ht : dkT e = true) (hg : w.grownBy w' v.ownBlock) : Turn B a w' :=
  h.grown hg (fun k hk => ⟨own_base ho k hk, by obtain ⟨cs, hc⟩ := own_typed ho k hk; exact ⟨_, hc, ht⟩⟩)
theorem Turn.toBelow (h : Turn B a w) (hB : B ≤ a.heap.size) : Below B a w := ⟨h.os, h.tape, h.output, h.size, fun k hk => h.low k hk (by omega)⟩
/-! ### rows of bytes, of steps -/
abbrev kb : Kd Int := Kd.int .u8
/-- Bytes that lie in a row of the program's own, or are none. -/
def BytesAt (B : Nat) (W : World) (v : Value) (l : List Int) : Prop := Kd.R kb 5 W B (fun _ => True) v l
def kChg : Kd Chg := Kd.iso (Kd.pair (Kd.int .i64) (Kd.pair (Kd.slice 5 kb) Kd.bool)) (fun c => ((c.pos : Int), (c.b, c.cut)))
def kEnt : Kd Ent := Kd.iso (Kd.pair Kd.string (Kd.pair Kd.string (Kd.int .i64))) (fun e => (e.name, (e.gone, e.file)))
def kPtr : Kd Nat := Kd.scalar (fun k => .pointer (some ⟨k, 0, none⟩)) (fun _ => rfl)
def ChgsAt (B : Nat) (W : World) (v : Value) (l : List Chg) : Prop := Kd.R kChg 77 W B (fun _ => True) v l
def EntsAt (B : Nat) (W : World) (v : Value) (l : List Ent) : Prop := Kd.R kEnt 65 W B (fun _ => True) v l
def PtrsAt (B : Nat) (W : World) (v : Value) (l : List Nat) : Prop := Kd.R kPtr 66 W B (fun _ => True) v l
theorem BytesAt.turn {v : Value} {l : List Int} (h : BytesAt B w v l) (ht : Turn B w w') : BytesAt B w' v l :=
  Kd.R_mono (Kd.R_move (Kd.R_bound h) (fun k hk => by
    obtain ⟨_, _, _, q, hq, cs, hc⟩ := hk
    have : q = 5 := by simpa [kb, Kd.int, Kd.scalar] using hq
    subst this
    rw [ht.kind k _ hc rfl, hc])) (fun _ _ => trivial)
theorem BytesAt.lower {v : Value} {l : List Int} {n : Nat} (h : Kd.R kb 5 w n (fun _ => True) v l) (hB : B ≤ n) : BytesAt B w v l := Kd.R_lower h hB
/-! ### names -/
def nmData (N : Nms) : DataW Unit := .map (N.map fun p => (Lit.string p.1, .lit (.int .i64 p.2)))
theorem nmData_ins (x : List UInt8 × Int) : ∀ N : Nms, (insN x N).map (fun p => (Lit.string p.1, (DataW.lit (.int .i64 p.2) : DataW Unit))) = DataW.insert (Lit.string x.1, .lit (.int .i64 x.2)) (N.map fun p => (Lit.string p.1, .lit (.int .i64 p.2)))
  | [] => rfl
  | y :: r => by
    unfold insN
    simp only [List.map_cons, DataW.insert]
    have e : (Lit.string x.1).before (Lit.string y.1) = before x.1 y.1 := rfl
    simp only [e]
    by_cases h : before x.1 y.1 = true
    · rw [if_pos h, if_pos h]
      rfl
    · rw [if_neg h, if_neg h, List.map_cons, nmData_ins x r]
theorem nmData_del (N : Nms) (k : List UInt8) : nmData (delN N k) = (nmData N).del (.string k) := by
  unfold nmData delN DataW.del
  simp only [List.filter_map]
  congr 1
theorem nmData_put (N : Nms) (k : List UInt8) (i : Int) : nmData (putN N k i) = (nmData N).put (.string k) (.lit (.int .i64 i)) := by
  unfold putN
  have h : nmData (insN (k, i) (delN N k)) = .map (DataW.insert (Lit.string k, .lit (.int .i64 i)) ((delN N k).map fun p => (Lit.string p.1, .lit (.int .i64 p.2)))) := by rw [nmData, nmData_ins]
  rw [h]
  have h2 := nmData_del N k
  unfold nmData DataW.del at h2
  injection h2 with h2
  unfold nmData DataW.put
  rw [h2]
theorem nmData_has (N : Nms) (k : List UInt8) : Maps.has (nmData N) (.string k) = hasN N k := by
  unfold nmData hasN
  rw [Maps.has_eq, List.any_map]
  rfl
theorem nmData_at (N : Nms) (k : List UInt8) : (nmData N).atKey (.string k) (.lit (.int .i64 0)) = .lit (.int .i64 (atN N k)) := by
  unfold nmData atN DataW.atKey
  simp only [List.find?_map]
  have e : ((fun p : Lit × DataW Unit => p.1.sameKey (Lit.string k)) ∘ fun p : List UInt8 × Int => (Lit.string p.1, (DataW.lit (.int .i64 p.2) : DataW Unit))) = fun p => p.1 == k := rfl
  rw [e]
  cases N.find? (fun p => p.1 == k) with
  | none => rfl
  | some p => rfl
theorem nmData_size (N : Nms) : Maps.size (nmData N) = N.length := by
  unfold nmData
  rw [Maps.size_eq, List.length_map]
/-- A map of names. -/
def NamesAt (W : World) (b : Nat) (N : Nms) : Prop := W.ownsMap (H := Unit) Tryd.prog 9 (plainElem Tryd.prog 3) b N.length (nmData N)
theorem names_of {n m : Nat} {N : Nms} (h : w.ownsMap (H := Unit) Tryd.prog 9 (plainElem Tryd.prog 3) m n (nmData N)) : NamesAt w m N := by
  obtain ⟨es, clock, hb, F, hs, hD⟩ := h
  refine ⟨es, clock, hb, F, ?_, hD⟩
  have h1 := congrArg Maps.size hD
  rw [nmData_size, Maps.size_eq, length_sorted] at h1
  simp at h1
  omega
theorem NamesAt.grown {m : Nat} {N : Nms} {row : Option Nat} (h : NamesAt w m N) (hg : w.grownBy w' row) (hne : some m ≠ row) : NamesAt w' m N := World.ownsMap.kept h hg hne
theorem NamesAt.below {m : Nat} {N : Nms} (h : NamesAt w m N) (hb : Below w.heap.size w w') : NamesAt w' m N := h.grown (grown_of_below hb none) (by simp)
theorem NamesAt.lt {m : Nat} {N : Nms} (h : NamesAt w m N) : m < w.heap.size := World.ownsMap.lt h
theorem NamesAt.obj {m : Nat} {N : Nms} (h : NamesAt w m N) : ∃ es c, w.heap[m]? = some (.map es c) := by
  obtain ⟨es, c, hb, _⟩ := h
  exact ⟨es, c, hb⟩
theorem NamesAt.same {m : Nat} {N : Nms} (h : NamesAt w m N) (hk : w'.heap[m]? = w.heap[m]?) : NamesAt w' m N := by
  obtain ⟨es, c, hb, r⟩ := h
  exact ⟨es, c, hk.trans hb, r⟩
theorem Turn.names {m : Nat} {N : Nms} (h : Turn B a w) (hN : NamesAt w m N) (hB : B ≤ m) (hg : w.grownBy w' (some m)) : Turn B a w' :=
  h.grown hg (fun k hk => by
    obtain rfl := Option.some.inj hk
    obtain ⟨es, c, ho⟩ := hN.obj
    exact ⟨hB, _, ho, rfl⟩)
/-! ### a file, the files, the disk -/
structure FileAt (B : Nat) (W : World) (k : Nat) (rv : Value) (f : Fil) : Prop where
  ex : ∃ nv sv, W.heap[k]? = some (.cells #[nv, sv, rv] 69 (0, 0)) ∧ BytesAt B W nv f.now ∧ BytesAt B W sv f.sure
  lo : B ≤ k
  opn : ChgsAt B W rv f.opn
/-- Two files lie apart. -/
def Far (x y : Nat × Value) : Prop := x.1 ≠ y.1 ∧ (x.2.ownBlock = none ∨ x.2.ownBlock ≠ y.2.ownBlock)
/-- The blocks that hold a file's own cells: its struct, its row of steps. -/
def Mine (x : Nat × Value) (k : Nat) : Prop := k = x.1 ∨ x.2.ownBlock = some k
structure FilesAt (B : Nat) (W : World) (L : List (Nat × Value)) (fs : List Fil) : Prop where
  len : L.length = fs.length
  each : ∀ (i : Nat) (x : Nat × Value) (f : Fil), L[i]? = some x → fs[i]? = some f → FileAt B W x.1 x.2 f
  far : ∀ (i j : Nat) (x y : Nat × Value), L[i]? = some x → L[j]? = some y → i ≠ j → Far x y
def diskO (fv : Value) (m1 m2 : Nat) (ov : Value) (q ar : Int) (off : Bool) (st : Int) : Obj := .cells #[fv, .map (some m1), .map (some m2), ov, .int .i64 q, .int .i64 ar, .bool off, .int .i64 st] 59 (0, 0)
structure Lies (B : Nat) (W : World) (p : Nat) (D : Dsk) (L : List (Nat × Value)) (m1 m2 : Nat) (fv ov : Value) : Prop where
  obj : W.heap[p]? = some (diskO fv m1 m2 ov D.quota D.armed D.off D.steps)
  lop : B ≤ p
  lo1 : B ≤ m1
  lo2 : B ≤ m2
  ne : m1 ≠ m2
  now : NamesAt W m1 D.now
  sure : NamesAt W m2 D.sure
  ptrs : PtrsAt B W fv (L.map Prod.fst)
  opn : EntsAt B W ov D.opn
  files : FilesAt B W L D.files
def DiskAt (B : Nat) (W : World) (p : Nat) (D : Dsk) : Prop := ∃ L m1 m2 fv ov, Lies B W p D L m1 m2 fv ov
end Go.Proofs.YtpcfnkmljchiiaaDoor.DAt
