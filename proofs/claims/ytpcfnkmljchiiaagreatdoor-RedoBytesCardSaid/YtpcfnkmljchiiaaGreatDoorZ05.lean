/- Steps towards RBoth: DPl, DAt, Is, DLie, DEnt, DBase. -/
import Derived.Below
import Derived.Test.YtpcfnkmljchiiaaGreatDoorProg
import Derived.Test.YtpcfnkmljchiiaaGreatDoorZ00
import Derived.Maps.OwnSet
import Derived.Maps.RangeWalk
import Derived.WalkKit
import Derived.LaidEql
import Derived.Stop.Asserts
import Derived.Stop.LaidErr
import Derived.RowKitTokens
import Derived.WalkSpells
import Derived.OwnWalkIn
import Derived.Carry
import Derived.Tactics2
import Derived.OwnWalk
import Derived.Deep.Draws
import Derived.Deep.AppendLies
import Derived.Maps.AppendAt
import Derived.Laws.BytesArg
import Derived.Laws.MakeOwn
import Derived.Laws.OwnMore
import Derived.Deep.OwnRows
import Derived.Tactics
import Derived.Lib.ConvBytes
import Derived.Laws.Slices
import Derived.KernelRfl
import Derived.RowKit3
import Derived.Deep.LoopGhost
import Derived.Deep.QuietTactic
import Derived.BigQuiet
import Derived.WideLaws
import Derived.Deep.DeepCutAuto
import Derived.Deep.CutBlock
import Derived.Deep.RegionHeld3
import Derived.Laws.Rows
import Derived.Lib.AppendStr
import Derived.ArgAppend
import Derived.Laws.IdiomCopy
import Derived.OrdersHeld
import Derived.Laws.BitsLemmas
import Derived.RowKit
import Derived.IntWalk
import Derived.Lib.SlBytesConst
import Derived.Laws.StructEq
import Derived.Deep.DrawnRows
import Derived.StillTailTactics
set_option linter.unusedVariables false
set_option linter.unusedSimpArgs false
section
/- The disk, told in plain Lean: its files, its names, its open steps; what each call makes of it. -/
namespace Go.Proofs.YtpcfnkmljchiiaaGreatDoor.DPl
/-- An open step of a file. -/
structure Chg where
  pos : Nat
  b : List Int
  cut : Bool
/-- Bytes behind a step. -/
def Chg.go (c : Chg) (l : List Int) : List Int := if c.cut = true then l.take c.pos else l.take c.pos ++ c.b ++ l.drop (min l.length (c.pos + c.b.length))
/-- A file. -/
structure Fil where
  now : List Int
  sure : List Int
  opn : List Chg
/-- An open step of names. -/
structure Ent where
  name : ByteArray
  gone : ByteArray
  file : Int
/-- Names and their files' numbers, in the order of the names. -/
abbrev Nms := List (List UInt8 × Int)
/-- Is a text before another one? -/
def before (a b : List UInt8) : Bool := Lit.before (.string a) (.string b)
def insN (x : List UInt8 × Int) : Nms → Nms
  | [] => [x]
  | y :: r => if before x.1 y.1 then x :: y :: r else y :: insN x r
def delN (N : Nms) (k : List UInt8) : Nms := N.filter fun p => !(p.1 == k)
def putN (N : Nms) (k : List UInt8) (i : Int) : Nms := insN (k, i) (delN N k)
def hasN (N : Nms) (k : List UInt8) : Bool := N.any fun p => p.1 == k
/-- A name's file; 0 where there is none. -/
def atN (N : Nms) (k : List UInt8) : Int := match N.find? (fun p => p.1 == k) with | some p => p.2 | none => 0
/-- Names behind a step. -/
def Ent.go (e : Ent) (N : Nms) : Nms := if 0 ≤ e.file then putN (delN N e.gone.data.toList) e.name.data.toList e.file else delN N e.gone.data.toList
def goAll (N : Nms) (l : List Ent) : Nms := l.foldl (fun N e => e.go N) N
def chgAll (b : List Int) (l : List Chg) : List Int := l.foldl (fun b c => c.go b) b
/-- The disk. -/
structure Dsk where
  files : List Fil
  now : Nms
  sure : Nms
  opn : List Ent
  quota : Int
  armed : Int
  off : Bool
  steps : Int
def newD (q : Int) : Dsk := ⟨[], [], [], [], q, -1, false, 0⟩
/-- Do steps fit bytes, one behind the other? -/
def fits (b : List Int) : List Chg → Prop
  | [] => True
  | c :: r => c.pos ≤ b.length ∧ fits (c.go b) r
structure Fil.Ok (f : Fil) (n : Int) : Prop where
  now : f.now = chgAll f.sure f.opn
  fits : fits f.sure f.opn
  sureL : f.sure.length ≤ 1073741824
  opnL : ∀ c ∈ f.opn, c.pos + c.b.length ≤ 1073741824
  nowL : f.now.length ≤ 1073741824
  cnt : (f.opn.length : Int) ≤ n
structure Dsk.Ok (D : Dsk) : Prop where
  nowF : ∀ p ∈ D.now, 0 ≤ p.2 ∧ p.2 < D.files.length
  sureF : ∀ p ∈ D.sure, 0 ≤ p.2 ∧ p.2 < D.files.length
  opnF : ∀ e ∈ D.opn, -1 ≤ e.file ∧ e.file < D.files.length ∧ e.name.size ≤ 24 ∧ e.gone.size ≤ 24
  nowE : D.now = goAll D.sure D.opn
  fil : ∀ f ∈ D.files, f.Ok D.steps
  quota0 : 0 ≤ D.quota
  quota1 : D.quota ≤ 1073741824
  armed0 : -1 ≤ D.armed
  armed1 : D.armed ≤ 9223372036854775807
  steps0 : 0 ≤ D.steps
  cntF : (D.files.length : Int) ≤ D.steps
  cntN : (D.sure.length : Int) + D.opn.length ≤ D.steps
theorem chg_len (c : Chg) (l : List Int) (M : Nat) (h : l.length ≤ M) (hc : c.pos + c.b.length ≤ M) : (c.go l).length ≤ M := by
  unfold Chg.go
  split
  · simp; omega
  · simp; omega
theorem len_insN (x : List UInt8 × Int) : ∀ N : Nms, (insN x N).length = N.length + 1
  | [] => rfl
  | y :: r => by
    unfold insN
    split
    · rfl
    · simp [len_insN x r]
theorem mem_insN (x : List UInt8 × Int) : ∀ (N : Nms) (p), p ∈ insN x N ↔ p = x ∨ p ∈ N
  | [], p => by simp [insN]
  | y :: r, p => by
    unfold insN
    split
    · simp
    · simp [mem_insN x r p]
      constructor <;> (intro h; rcases h with h | h | h <;> simp [h])
theorem len_delN (N : Nms) (k : List UInt8) : (delN N k).length ≤ N.length := List.length_filter_le _ _
theorem mem_delN {N : Nms} {k : List UInt8} {p} (h : p ∈ delN N k) : p ∈ N := (List.mem_filter.1 h).1
theorem len_go (e : Ent) (N : Nms) : (e.go N).length ≤ N.length + 1 := by
  unfold Ent.go
  split
  · rw [putN, len_insN]
    have h1 := len_delN (delN N e.gone.data.toList) e.name.data.toList
    have h2 := len_delN N e.gone.data.toList
    omega
  · have h2 := len_delN N e.gone.data.toList
    omega
theorem mem_go {e : Ent} {N : Nms} {p} (h : p ∈ e.go N) : p ∈ N ∨ p.2 = e.file ∧ 0 ≤ e.file := by
  unfold Ent.go at h
  split at h
  · rw [putN, mem_insN] at h
    rcases h with h | h
    · right; rw [h]; exact ⟨rfl, by assumption⟩
    · exact .inl (mem_delN (mem_delN h))
  · exact .inl (mem_delN h)
theorem goAll_snoc (N : Nms) (l : List Ent) (e : Ent) : goAll N (l ++ [e]) = e.go (goAll N l) := by simp [goAll, List.foldl_append]
theorem chgAll_snoc (b : List Int) (l : List Chg) (c : Chg) : chgAll b (l ++ [c]) = c.go (chgAll b l) := by simp [chgAll, List.foldl_append]
theorem len_goAll : ∀ (l : List Ent) (N : Nms), (goAll N l).length ≤ N.length + l.length
  | [], N => by simp [goAll]
  | e :: r, N => by
    have h1 := len_goAll r (e.go N)
    have h2 := len_go e N
    simp only [goAll, List.foldl_cons, List.length_cons] at *
    omega
theorem mem_goAll : ∀ (l : List Ent) (N : Nms) (p), p ∈ goAll N l → p ∈ N ∨ ∃ e ∈ l, p.2 = e.file ∧ 0 ≤ e.file
  | [], N, p, h => .inl h
  | e :: r, N, p, h => by
    rcases mem_goAll r (e.go N) p h with h1 | ⟨e1, h1, h2⟩
    · rcases mem_go h1 with h3 | h3
      · exact .inl h3
      · exact .inr ⟨e, by simp, h3⟩
    · exact .inr ⟨e1, by simp [h1], h2⟩
theorem fits_snoc : ∀ (l : List Chg) (b : List Int) (c : Chg), fits b (l ++ [c]) ↔ fits b l ∧ c.pos ≤ (chgAll b l).length
  | [], b, c => by simp [fits, chgAll]
  | d :: r, b, c => by
    have := fits_snoc r (d.go b) c
    simp only [List.cons_append, fits, chgAll, List.foldl_cons] at *
    rw [this, and_assoc]
/-! ### what each call answers (none: no error; else the error's number) and makes of the disk -/
/-- A step: none: the power is gone. -/
def stepD (D : Dsk) : Dsk := { D with armed := if 0 < D.armed then D.armed - 1 else D.armed, steps := D.steps + 1 }
def offD (D : Dsk) : Dsk := { D with off := true }
def addE (D : Dsk) (e : Ent) : Dsk := { D with now := e.go D.now, opn := D.opn ++ [e] }
def namedD (D : Dsk) (e : Ent) : Option Int × Dsk := if D.armed = 0 then (some 8, offD D) else (none, addE (stepD D) e)
/-- How many bytes the named files have. -/
def usedL (fs : List Fil) (N : Nms) : Nat := (N.map fun p => match fs[p.2.toNat]? with | some f => f.now.length | none => 0).sum
def usedD (D : Dsk) : Nat := usedL D.files D.now
def setF (D : Dsk) (i : Nat) (f : Fil) : Dsk := { D with files := D.files.set i f }
end Go.Proofs.YtpcfnkmljchiiaaGreatDoor.DPl
end
section
/- Where a disk lies in memory; what an act on disks may turn. -/
namespace Go.Proofs.YtpcfnkmljchiiaaGreatDoor.DAt
open Go Go.RowKit Go.Maps Go.Proofs.YtpcfnkmljchiiaaGreatDoorW.PrintWords DPl
/-! ### what an act may turn: blocks from B on of a disk's own kinds -/
def dkT (t : TypeId) : Bool := t == 87 || t == 103 || t == 108 || t == 111 || t == 114
def dk : Obj → Bool
  | .cells _ t _ => dkT t
  | .map _ _ => true
  | _ => false
structure Turn (B : Nat) (w w' : World) : Prop where
  os : w'.os = w.os
  tape : w'.tape = w.tape
  output : w'.output = w.output
  size : w.heap.size ≤ w'.heap.size
  low : ∀ k, k < B → k < w.heap.size → w'.heap[k]? = w.heap[k]?
  kind : ∀ (k : Nat) (o : Obj), w.heap[k]? = some o → dk o = false → w'.heap[k]? = some o
variable {B : Nat} {a b c w w' w1 : World}
theorem Turn.refl (B : Nat) (w : World) : Turn B w w := ⟨rfl, rfl, rfl, Nat.le_refl _, fun _ _ _ => rfl, fun _ _ h _ => h⟩
theorem Turn.trans (h : Turn B a b) (k : Turn B b c) : Turn B a c :=
  ⟨k.os.trans h.os, k.tape.trans h.tape, k.output.trans h.output, Nat.le_trans h.size k.size, fun i hi hs => (k.low i hi (Nat.lt_of_lt_of_le hs h.size)).trans (h.low i hi hs), fun i o ho hd => k.kind i o (h.kind i o ho hd) hd⟩
theorem Turn.of_below (hb : Below w.heap.size w w') : Turn B w w' :=
  ⟨hb.os, hb.tape, hb.output, hb.size, fun k _ hs => hb.block k hs, fun k o ho _ => (hb.block k (blk_lt ho)).trans ho⟩
theorem Turn.below (h : Turn B a w) (hb : Below w.heap.size w w') : Turn B a w' := h.trans (Turn.of_below hb)
theorem Turn.alloc (h : Turn B a w) (o : Obj) : Turn B a (w.alloc o) := h.below ((Below.refl _ w).alloc (Nat.le_refl _) o)
theorem Turn.drew (h : Turn B a w) : Turn B a w.drew := ⟨h.os, h.tape, h.output, h.size, h.low, h.kind⟩
theorem Turn.drewN (h : Turn B a w) (n : Nat) : Turn B a (w.drewN n) := ⟨h.os, h.tape, h.output, h.size, h.low, h.kind⟩
theorem Turn.setCell (h : Turn B a w) {g : Nat} {cs : Array Value} {t : TypeId} {m : Nat × Nat} (hg : w.heap[g]? = some (.cells cs t m)) (ht : dkT t = true) (hB : B ≤ g) (i : Nat) (u : Value) : Turn B a (w.setCell ⟨g, i, none⟩ u) := by
  have hk : ∀ k, k ≠ g → (w.setCell ⟨g, i, none⟩ u).heap[k]? = w.heap[k]? := fun k hk => Below.heap_setCell w ⟨g, i, none⟩ u k hk
  refine h.trans ⟨rfl, rfl, rfl, by simp [World.setCell], fun k h1 h2 => hk k (by omega), fun k o ho hd => ?_⟩
  by_cases e : k = g
  · subst e
    rw [hg] at ho
    obtain rfl := Option.some.inj ho
    exact absurd hd (by simp [dk, ht])
  · exact (hk k e).trans ho
theorem Turn.grown {row : Option Nat} (h : Turn B a w) (hg : w.grownBy w' row) (hr : ∀ k, row = some k → B ≤ k ∧ ∃ o, w.heap[k]? = some o ∧ dk o = true) : Turn B a w' := by
  refine h.trans ⟨hg.os, hg.tape, hg.output, hg.size, fun k h1 h2 => hg.block k h2 (fun e => ?_), fun k o ho hd => (hg.block k (blk_lt ho) (fun e => ?_)).trans ho⟩
  · have := (hr k e.symm).1
    omega
  · obtain ⟨o1, h1, h2⟩ := (hr k e.symm).2
    rw [ho] at h1
    obtain rfl := Option.some.inj h1
    exact absurd hd (by simp [h2])
/-- A row of a call's own that an append may have written. -/
theorem Turn.own {e : TypeId} {size n : Nat} {v : Value} {xs : List Value} (h : Turn B a w) (ho : w.ownsRow B e size v n xs) (ht : dkT e = true) (hg : w.grownBy w' v.ownBlock) : Turn B a w' :=
  h.grown hg (fun k hk => ⟨own_base ho k hk, by obtain ⟨cs, hc⟩ := own_typed ho k hk; exact ⟨_, hc, ht⟩⟩)
theorem Turn.toBelow (h : Turn B a w) (hB : B ≤ a.heap.size) : Below B a w := ⟨h.os, h.tape, h.output, h.size, fun k hk => h.low k hk (by omega)⟩
/-! ### rows of bytes, of steps -/
/-- From which block on a disk lies; a block that its rows of bytes are none of. -/
structure Bx where
  n : Nat
  q : Nat
instance : Coe Bx Nat := ⟨Bx.n⟩
abbrev kb : Kd Int := Kd.int .u8
/-- Bytes that lie in a row of the program's own, or are none. -/
def BytesAt (B : Bx) (W : World) (v : Value) (l : List Int) : Prop := Kd.R kb 5 W B.n (fun k => k ≠ B.q) v l
def kChg : Kd Chg := Kd.iso (Kd.pair (Kd.int .i64) (Kd.pair (Kd.slice 5 kb) Kd.bool)) (fun c => ((c.pos : Int), (c.b, c.cut)))
def kEnt : Kd Ent := Kd.iso (Kd.pair Kd.string (Kd.pair Kd.string (Kd.int .i64))) (fun e => (e.name, (e.gone, e.file)))
def kPtr : Kd Nat := Kd.scalar (fun k => .pointer (some ⟨k, 0, none⟩)) (fun _ => rfl)
def ChgsAt (B : Bx) (W : World) (v : Value) (l : List Chg) : Prop := Kd.R kChg 114 W B.n (fun k => k ≠ B.q) v l
def EntsAt (B : Nat) (W : World) (v : Value) (l : List Ent) : Prop := Kd.R kEnt 111 W B (fun _ => True) v l
def PtrsAt (B : Nat) (W : World) (v : Value) (l : List Nat) : Prop := Kd.R kPtr 103 W B (fun _ => True) v l
theorem BytesAt.turn {B : Bx} {v : Value} {l : List Int} (h : BytesAt B w v l) (ht : Turn B w w') : BytesAt B w' v l :=
  Kd.R_mono (Kd.R_move (Kd.R_bound h) (fun k hk => by
    obtain ⟨_, _, _, q, hq, cs, hc⟩ := hk
    have : q = 5 := by simpa [kb, Kd.int, Kd.scalar] using hq
    subst this
    rw [ht.kind k _ hc rfl, hc])) (fun _ hk => hk.1)
theorem BytesAt.lower {B : Bx} {v : Value} {l : List Int} {n : Nat} (h : Kd.R kb 5 w n (fun _ => True) v l) (hB : B.n ≤ n) (hq : B.q < n) : BytesAt B w v l :=
  Kd.R_mono (Kd.R_lower (Kd.R_bound h) hB) (fun k hk e => by have := hk.2.1; omega)
/-! ### names -/
def nmData (N : Nms) : DataW Unit := .map (N.map fun p => (Lit.string p.1, .lit (.int .i64 p.2)))
theorem nmData_ins (x : List UInt8 × Int) : ∀ N : Nms, (insN x N).map (fun p => (Lit.string p.1, (DataW.lit (.int .i64 p.2) : DataW Unit))) = DataW.insert (Lit.string x.1, .lit (.int .i64 x.2)) (N.map fun p => (Lit.string p.1, .lit (.int .i64 p.2)))
  | [] => rfl
  | y :: r => by
    unfold insN
    simp only [List.map_cons, DataW.insert]
    have e : (Lit.string x.1).before (Lit.string y.1) = before x.1 y.1 := rfl
    simp only [e]
    by_cases h : before x.1 y.1 = true
    · rw [if_pos h, if_pos h]
      rfl
    · rw [if_neg h, if_neg h, List.map_cons, nmData_ins x r]
theorem nmData_del (N : Nms) (k : List UInt8) : nmData (delN N k) = (nmData N).del (.string k) := by
  unfold nmData delN DataW.del
  simp only [List.filter_map]
  congr 1
theorem nmData_put (N : Nms) (k : List UInt8) (i : Int) : nmData (putN N k i) = (nmData N).put (.string k) (.lit (.int .i64 i)) := by
  unfold putN
  have h : nmData (insN (k, i) (delN N k)) = .map (DataW.insert (Lit.string k, .lit (.int .i64 i)) ((delN N k).map fun p => (Lit.string p.1, .lit (.int .i64 p.2)))) := by rw [nmData, nmData_ins]
  rw [h]
  have h2 := nmData_del N k
  unfold nmData DataW.del at h2
  injection h2 with h2
  unfold nmData DataW.put
  rw [h2]
theorem nmData_has (N : Nms) (k : List UInt8) : Maps.has (nmData N) (.string k) = hasN N k := by
  unfold nmData hasN
  rw [Maps.has_eq, List.any_map]
  rfl
theorem nmData_at (N : Nms) (k : List UInt8) : (nmData N).atKey (.string k) (.lit (.int .i64 0)) = .lit (.int .i64 (atN N k)) := by
  unfold nmData atN DataW.atKey
  simp only [List.find?_map]
  have e : ((fun p : Lit × DataW Unit => p.1.sameKey (Lit.string k)) ∘ fun p : List UInt8 × Int => (Lit.string p.1, (DataW.lit (.int .i64 p.2) : DataW Unit))) = fun p => p.1 == k := rfl
  rw [e]
  cases N.find? (fun p => p.1 == k) with
  | none => rfl
  | some p => rfl
theorem nmData_size (N : Nms) : Maps.size (nmData N) = N.length := by
  unfold nmData
  rw [Maps.size_eq, List.length_map]
/-- A map of names. -/
def NamesAt (W : World) (b : Nat) (N : Nms) : Prop := W.ownsMap (H := Unit) Tryz.prog 9 (plainElem Tryz.prog 3) b N.length (nmData N)
theorem names_of {n m : Nat} {N : Nms} (h : w.ownsMap (H := Unit) Tryz.prog 9 (plainElem Tryz.prog 3) m n (nmData N)) : NamesAt w m N := by
  obtain ⟨es, clock, hb, F, hs, hD⟩ := h
  refine ⟨es, clock, hb, F, ?_, hD⟩
  have h1 := congrArg Maps.size hD
  rw [nmData_size, Maps.size_eq, length_sorted] at h1
  simp at h1
  omega
theorem NamesAt.grown {m : Nat} {N : Nms} {row : Option Nat} (h : NamesAt w m N) (hg : w.grownBy w' row) (hne : some m ≠ row) : NamesAt w' m N := World.ownsMap.kept h hg hne
theorem NamesAt.below {m : Nat} {N : Nms} (h : NamesAt w m N) (hb : Below w.heap.size w w') : NamesAt w' m N := h.grown (grown_of_below hb none) (by simp)
theorem NamesAt.lt {m : Nat} {N : Nms} (h : NamesAt w m N) : m < w.heap.size := World.ownsMap.lt h
theorem NamesAt.obj {m : Nat} {N : Nms} (h : NamesAt w m N) : ∃ es c, w.heap[m]? = some (.map es c) := by
  obtain ⟨es, c, hb, _⟩ := h
  exact ⟨es, c, hb⟩
theorem NamesAt.same {m : Nat} {N : Nms} (h : NamesAt w m N) (hk : w'.heap[m]? = w.heap[m]?) : NamesAt w' m N := by
  obtain ⟨es, c, hb, r⟩ := h
  exact ⟨es, c, hk.trans hb, r⟩
theorem Turn.names {m : Nat} {N : Nms} (h : Turn B a w) (hN : NamesAt w m N) (hB : B ≤ m) (hg : w.grownBy w' (some m)) : Turn B a w' :=
  h.grown hg (fun k hk => by
    obtain rfl := Option.some.inj hk
    obtain ⟨es, c, ho⟩ := hN.obj
    exact ⟨hB, _, ho, rfl⟩)
/-! ### a file, the files, the disk -/
structure FileAt (B : Bx) (W : World) (k : Nat) (rv : Value) (f : Fil) : Prop where
  ex : ∃ nv sv, W.heap[k]? = some (.cells #[nv, sv, rv] 108 (0, 0)) ∧ BytesAt B W nv f.now ∧ BytesAt B W sv f.sure
  lo : B ≤ k
  opn : ChgsAt B W rv f.opn
/-- Two files lie apart. -/
def Far (x y : Nat × Value) : Prop := x.1 ≠ y.1 ∧ (x.2.ownBlock = none ∨ x.2.ownBlock ≠ y.2.ownBlock)
structure FilesAt (B : Bx) (W : World) (L : List (Nat × Value)) (fs : List Fil) : Prop where
  len : L.length = fs.length
  each : ∀ (i : Nat) (x : Nat × Value) (f : Fil), L[i]? = some x → fs[i]? = some f → FileAt B W x.1 x.2 f
  far : ∀ (i j : Nat) (x y : Nat × Value), L[i]? = some x → L[j]? = some y → i ≠ j → Far x y
def diskO (fv : Value) (m1 m2 : Nat) (ov : Value) (q ar : Int) (off : Bool) (st : Int) : Obj := .cells #[fv, .map (some m1), .map (some m2), ov, .int .i64 q, .int .i64 ar, .bool off, .int .i64 st] 87 (0, 0)
structure Lies (B : Bx) (W : World) (p : Nat) (D : Dsk) (L : List (Nat × Value)) (m1 m2 : Nat) (fv ov : Value) : Prop where
  obj : W.heap[p]? = some (diskO fv m1 m2 ov D.quota D.armed D.off D.steps)
  lop : B ≤ p
  lo1 : B ≤ m1
  lo2 : B ≤ m2
  ne : m1 ≠ m2
  now : NamesAt W m1 D.now
  sure : NamesAt W m2 D.sure
  ptrs : PtrsAt B W fv (L.map Prod.fst)
  opn : EntsAt B W ov D.opn
  files : FilesAt B W L D.files
  lt : B.q < W.heap.size
def DiskAt (B : Bx) (W : World) (p : Nat) (D : Dsk) : Prop := ∃ L m1 m2 fv ov, Lies B W p D L m1 m2 fv ov
end Go.Proofs.YtpcfnkmljchiiaaGreatDoor.DAt
end
section
/- errors.Is by its contracts, at the package's sentinels; the sentinels as the row lists them; the number of an error. -/
namespace Go.Proofs.YtpcfnkmljchiiaaGreatDoor.Is
open Go.RowKit Go.Extern.Stop Go.Stop Go.Extern
open Go.Proofs.YtpcfnkmljchiiaaGreatDoorW.PrintWords
theorem isTypeOf (v : Value) (w : World) : (Extern.ReflectliteType.typeOf #[.iface 212 v]).run Tryz.prog w = .ok (.iface 181 (.agg #[.pointer (some ⟨13, 212, none⟩)])) w := by kernel_rfl
theorem isComparable (w : World) : ((Extern.ReflectliteType.method fun t => do Rtype.noPackHeld "Comparable" t; (fun a => Value.bool a.comparable) <$> typeInfo t) #[.agg #[.pointer (some ⟨13, 212, none⟩)]]).run Tryz.prog w = .ok (.bool true) w := by kernel_rfl
theorem isMethodComparable (v : Value) (w : World) : (Go.method 346 181 v "Comparable").run Tryz.prog w = .ok (176, v) w := by kernel_rfl
theorem isComp : (Tryz.prog.info? 212).map (·.comparable) = some true := by kernel_rfl
theorem isSize : (Tryz.prog.info? 235).map (·.size) = some 1 := by kernel_rfl
theorem noIsE (v : Value) (xT : TypeId) (w : World) : (Instr.typeAssert (.iface 212 v) xT 183 true).run Tryz.prog w = .ok (.tuple #[.nilIface, .bool false]) w := run_typeAssert_lacksB Tryz.underlying183 (by kernel_rfl) (by kernel_rfl) v xT w
theorem noUnwrapE (v : Value) (xT : TypeId) (w : World) : (Instr.typeAssert (.iface 212 v) xT 186 true).run Tryz.prog w = .ok (.tuple #[.nilIface, .bool false]) w := run_typeAssert_lacksB Tryz.underlying186 (by kernel_rfl) (by kernel_rfl) v xT w
theorem noUnwrapsE (v : Value) (xT : TypeId) (w : World) : (Instr.typeAssert (.iface 212 v) xT 187 true).run Tryz.prog w = .ok (.tuple #[.nilIface, .bool false]) w := run_typeAssert_lacksB Tryz.underlying187 (by kernel_rfl) (by kernel_rfl) v xT w
/-- errors.Is(x, x), x a pointer to an errors.errorString. -/
theorem is_same (a : Addr) (w : World) :
    Calls Tryz.prog 75 #[.iface 212 (.pointer (some a)), .iface 212 (.pointer (some a))] w fun e w' => e = .returned (.bool true) ∧ w' = w := by
  obtain ⟨i, hi, hcmp⟩ := Option.map_eq_some_iff.1 isComp
  obtain ⟨j, hj, hjs⟩ := Option.map_eq_some_iff.1 isSize
  have h8 := @run_callFunc_extern Tryz.prog 117 _ Extern.ReflectliteType.typeOf Tryz.func117 (by kernel_rfl) (by kernel_rfl) (by kernel_rfl) (by kernel_rfl)
  have h32 := @run_callFunc_extern Tryz.prog 176 _ (Extern.ReflectliteType.method fun t => do Rtype.noPackHeld "Comparable" t; pure (.bool (← typeInfo t).comparable)) Tryz.func176 (by kernel_rfl) (by kernel_rfl) (by kernel_rfl) (by kernel_rfl)
  have tT := isTypeOf
  have cT := isComparable
  have mR := isMethodComparable
  have heq := run_eql_iface_ptr_same (P := Tryz.prog) w a Tryz.underlying27 Tryz.underlying212 hi hcmp hj
  go_enter Tryz.func75, Tryz.ntmps75
  go_wp2
  refine wp_loop_rounds 1 ?_
  rw [rounds_succ]
  go_wp2
  go_ret
  exact ⟨rfl, rfl⟩
/-- errors.Is(x, y), two different pointers to errors.errorString: false. -/
theorem is_other (a b : Addr) (ca cb : Array Value) (ta tb : TypeId) (w : World) (hne : a ≠ b) (ha : w.heap[a.block]? = some (.cells ca ta (0, 0))) (hb : w.heap[b.block]? = some (.cells cb tb (0, 0))) :
    Calls Tryz.prog 75 #[.iface 212 (.pointer (some a)), .iface 212 (.pointer (some b))] w fun e w' => e = .returned (.bool false) ∧ w' = w := by
  obtain ⟨i, hi, hcmp⟩ := Option.map_eq_some_iff.1 isComp
  obtain ⟨j, hj, hjs⟩ := Option.map_eq_some_iff.1 isSize
  have h8 := @run_callFunc_extern Tryz.prog 117 _ Extern.ReflectliteType.typeOf Tryz.func117 (by kernel_rfl) (by kernel_rfl) (by kernel_rfl) (by kernel_rfl)
  have h32 := @run_callFunc_extern Tryz.prog 176 _ (Extern.ReflectliteType.method fun t => do Rtype.noPackHeld "Comparable" t; pure (.bool (← typeInfo t).comparable)) Tryz.func176 (by kernel_rfl) (by kernel_rfl) (by kernel_rfl) (by kernel_rfl)
  have tT := isTypeOf
  have cT := isComparable
  have mR := isMethodComparable
  have nE := noIsE
  have uE := noUnwrapE
  have vE := noUnwrapsE
  have heq := run_eql_iface_ptr_other (P := Tryz.prog) w Tryz.underlying27 Tryz.underlying212 hi hcmp hj (by rw [hjs]; decide) hne ha hb
  go_enter Tryz.func75, Tryz.ntmps75
  go_wp2
  refine wp_loop_rounds 1 ?_
  rw [rounds_succ]
  go_wp2
  go_ret
  exact ⟨rfl, rfl⟩
/-- An error as the answer tells it: none, or the package's sentinel of that number. -/
def errV (E : Int → Addr) : Option Int → Value
  | none => .nilIface
  | some c => .iface 212 (.pointer (some (E c)))
theorem errV_none (E : Int → Addr) : errV E none = .nilIface := rfl
theorem errV_some (E : Int → Addr) (c : Int) : errV E (some c) = .iface 212 (.pointer (some (E c))) := rfl
/-- The variable of the sentinel of a number. -/
def gOf (c : Int) : Nat := if c = 1 then 0 else if c = 2 then 1 else if c = 3 then 2 else if c = 4 then 3 else if c = 5 then 4 else if c = 6 then 5 else if c = 7 then 6 else if c = 8 then 7 else if c = 9 then 8 else if c = 10 then 9 else if c = 11 then 10 else if c = 12 then 11 else if c = 13 then 12 else 0
/-- The sentinels of these numbers lie at E. -/
structure Errs (S : Int → Prop) (w : World) (E : Int → Addr) : Prop where
  var : ∀ c, S c → w.cell? ⟨gOf c, 0, none⟩ = some (.iface 212 (.pointer (some (E c))))
  row : ∀ c, S c → ∃ cs t, w.heap[(E c).block]? = some (.cells cs t (0, 0))
  ne : ∀ c d, S c → S d → c ≠ d → E c ≠ E d
theorem Errs.below {S : Int → Prop} {w w' : World} {E : Int → Addr} (h : Errs S w E) (hb : Below w.heap.size w w') : Errs S w' E := by
  have lt : ∀ (k : Nat) (o : Obj), w.heap[k]? = some o → w'.heap[k]? = w.heap[k]? := fun k o hk => hb.block k (Array.getElem?_eq_some_iff.1 hk).1
  refine ⟨fun c hc => ?_, fun c hc => ?_, h.ne⟩
  · have hv := h.var c hc
    rw [← hv]
    cases hk : w.heap[gOf c]? with
    | none => simp [World.cell?, hk] at hv
    | some o =>
      have := lt _ o hk
      simp only [World.cell?, this]
  · obtain ⟨cs, t, hr⟩ := h.row c hc
    exact ⟨cs, t, by rw [lt _ _ hr]; exact hr⟩
theorem Errs.sub {S T : Int → Prop} {w : World} {E : Int → Addr} (h : Errs S w E) (hs : ∀ c, T c → S c) : Errs T w E :=
  ⟨fun c hc => h.var c (hs c hc), fun c hc => h.row c (hs c hc), fun c d hc hd => h.ne c d (hs c hc) (hs d hd)⟩
/-! ### What the row lists -/
def sent (text : List UInt8) : DataW Unit := .iface "*errors.errorString" (.ptr (.agg [.lit (.string text)]))
theorem laid_at {P : Program} {w : World} : ∀ {r : List (String × DataW Unit)} {ps : List MemPlace} (i : Nat) {n : String} {d : DataW Unit}, DataW.LaidVars P w r ps → r[i]? = some (n, d) →
    ∃ g t cs fuel p, P.globalNamed n = some g ∧ (P.globals[g]?).map (·.type) = some t ∧ w.var? P n = some cs ∧ DataW.trod (fun _ => ()) P w 0 (fun _ => true) false fuel t cs.toList = some (d, p) ∧ List.Sublist (MemPlace.row ⟨g, 0, none⟩ cs.size ++ p) ps
  | [], _, i, _, _, _, h => by simp at h
  | x :: r, ps, 0, n, d, hl, h => by
    obtain ⟨g, t, cs, fuel, p, q, h1, h2, h3, h4, h5, rfl⟩ := hl
    simp only [List.getElem?_cons_zero, Option.some.injEq, Prod.mk.injEq] at h
    obtain ⟨rfl, rfl⟩ := h
    exact ⟨g, t, cs, fuel, p, h1, h2, h3, h4, List.sublist_append_left _ _⟩
  | x :: r, ps, i + 1, n, d, hl, h => by
    obtain ⟨g, t, cs, fuel, p, q, h1, h2, h3, h4, h5, rfl⟩ := hl
    obtain ⟨g', t', cs', fuel', p', k1, k2, k3, k4, k5⟩ := laid_at i h5 (by simpa using h)
    exact ⟨g', t', cs', fuel', p', k1, k2, k3, k4, k5.trans (List.sublist_append_right _ _)⟩
theorem laid_two {P : Program} {w : World} : ∀ {r : List (String × DataW Unit)} {ps : List MemPlace} (i j : Nat) {n m : String} {d e : DataW Unit}, i < j → DataW.LaidVars P w r ps → r[i]? = some (n, d) → r[j]? = some (m, e) →
    ∃ g t cs fuel p g' t' cs' fuel' p', P.globalNamed n = some g ∧ (P.globals[g]?).map (·.type) = some t ∧ w.var? P n = some cs ∧ DataW.trod (fun _ => ()) P w 0 (fun _ => true) false fuel t cs.toList = some (d, p) ∧
      P.globalNamed m = some g' ∧ (P.globals[g']?).map (·.type) = some t' ∧ w.var? P m = some cs' ∧ DataW.trod (fun _ => ()) P w 0 (fun _ => true) false fuel' t' cs'.toList = some (e, p') ∧ List.Sublist ((MemPlace.row ⟨g, 0, none⟩ cs.size ++ p) ++ (MemPlace.row ⟨g', 0, none⟩ cs'.size ++ p')) ps
  | [], _, i, j, _, _, _, _, _, _, h, _ => by simp at h
  | x :: r, ps, i, 0, _, _, _, _, hij, _, _, _ => absurd hij (Nat.not_lt_zero i)
  | x :: r, ps, 0, j + 1, n, m, d, e, _, hl, h, k => by
    obtain ⟨g, t, cs, fuel, p, q, h1, h2, h3, h4, h5, rfl⟩ := hl
    simp only [List.getElem?_cons_zero, Option.some.injEq, Prod.mk.injEq] at h
    obtain ⟨rfl, rfl⟩ := h
    obtain ⟨g', t', cs', fuel', p', k1, k2, k3, k4, k5⟩ := laid_at j h5 (by simpa using k)
    refine ⟨g, t, cs, fuel, p, g', t', cs', fuel', p', h1, h2, h3, h4, k1, k2, k3, k4, ?_⟩
    exact List.Sublist.append (List.Sublist.refl _) k5
  | x :: r, ps, i + 1, j + 1, n, m, d, e, hij, hl, h, k => by
    obtain ⟨g, t, cs, fuel, p, q, h1, h2, h3, h4, h5, rfl⟩ := hl
    obtain ⟨g1, t1, cs1, f1, p1, g2, t2, cs2, f2, p2, a1, a2, a3, a4, a5, a6, a7, a8, a9⟩ := laid_two i j (Nat.lt_of_succ_lt_succ hij) h5 (by simpa using h) (by simpa using k)
    exact ⟨g1, t1, cs1, f1, p1, g2, t2, cs2, f2, p2, a1, a2, a3, a4, a5, a6, a7, a8, a9.trans (List.sublist_append_right _ _)⟩
theorem typeName_err : ∀ u, Tryz.prog.typeName? 3 u = some "*errors.errorString" → u = 212 := fun u h =>
  typeName_ptr_named (nm := "errors.errorString") (by rw [show "*" ++ "errors.errorString" = "*errors.errorString" by decide]; kernel_rfl) (by kernel_rfl) (by decide) u (by rw [show "*" ++ "errors.errorString" = "*errors.errorString" by decide]; exact h)
section
variable {W : World} {r : List (String × DataW Unit)}
set_option maxRecDepth 100000 in
theorem sent_of {n : String} {text : List UInt8} {g0 g : Nat} {t : TypeId} {cs : Array Value} {fuel : Nat} {p ps : List MemPlace} (hrows : ∀ b off, MemPlace.cell b off ∈ ps →
    (∃ c t, W.heap[b]? = some (.cells c t (0, 0))) ∧ ∀ u v, W.cell? ⟨b, off, none⟩ = some (.iface u v) → Value.okWide Tryz.prog W .any 0 u v) (hg0 : Tryz.prog.globalNamed n = some g0) (ht0 : (Tryz.prog.globals[g0]?).map (·.type) = some 27)
    (hg : Tryz.prog.globalNamed n = some g) (ht : (Tryz.prog.globals[g]?).map (·.type) = some t) (hv : W.var? Tryz.prog n = some cs) (hd : DataW.trod (fun _ => ()) Tryz.prog W 0 (fun _ => true) false fuel t cs.toList = some (sent text, p)) (hs : List.Sublist (MemPlace.row ⟨g, 0, none⟩ cs.size ++ p) ps) :
    ∃ a : Addr, W.cell? ⟨g0, 0, none⟩ = some (.iface 212 (.pointer (some a))) ∧ (∃ c t, W.heap[a.block]? = some (.cells c t (0, 0))) ∧ p = MemPlace.row a 1 := by
  obtain rfl := Option.some.inj (hg0.symm.trans hg)
  obtain rfl := Option.some.inj (ht0.symm.trans ht)
  obtain ⟨l0⟩ := cs
  have ok0 : ∀ u v, l0 = [.iface u v] → Value.okWide Tryz.prog W .any 0 u v := fun u v e => by
    subst e
    exact (hrows g0 0 (hs.subset (by simp [MemPlace.row]))).2 u v (by simpa using World.var?_cell hg0 hv 0)
  obtain ⟨a0, s0, e0, hc0, hs0, hz0, hp⟩ := errorString_of_trod Tryz.underlying27 typeName_err Tryz.underlying212 Tryz.underlying235 rfl rfl Tryz.underlying9 (by kernel_rfl) (by kernel_rfl) hd ok0
  have e1 : l0 = [.iface 212 (.pointer (some a0))] := e0
  subst e1
  refine ⟨a0, ?_, ?_, hp⟩
  · have := World.var?_cell hg0 hv 0
    simpa using this
  · exact (hrows a0.block a0.off (hs.subset (by rw [hp]; simp [MemPlace.row]))).1
/-- THE SENTINELS THAT A ROW LISTS, their numbers S told by places in its list. -/
theorem errs_of_laid (h : laidMet Tryz.prog r W) (S : Int → Prop) (pos : Int → Nat) (nm : Int → String) (text : Int → List UInt8) (hpos : ∀ c, S c → r[pos c]? = some (nm c, sent (text c)))
    (hg : ∀ c, S c → Tryz.prog.globalNamed (nm c) = some (gOf c) ∧ (Tryz.prog.globals[gOf c]?).map (·.type) = some 27) (hinj : ∀ c d, S c → S d → pos c = pos d → c = d) :
    ∃ E : Int → Addr, Errs S W E := by
  obtain ⟨ps, hl, hnd, hrows⟩ := h
  have one : ∀ c : Int, ∃ a : Addr, S c → W.cell? ⟨gOf c, 0, none⟩ = some (.iface 212 (.pointer (some a))) ∧ (∃ cs t, W.heap[a.block]? = some (.cells cs t (0, 0))) := fun c => by
    by_cases hc : S c
    · obtain ⟨g, t, cs, fuel, p, h1, h2, h3, h4, h5⟩ := laid_at (pos c) hl (hpos c hc)
      obtain ⟨a, k1, k2, k3⟩ := sent_of hrows (hg c hc).1 (hg c hc).2 h1 h2 h3 h4 h5
      exact ⟨a, fun _ => ⟨k1, k2⟩⟩
    · exact ⟨⟨0, 0, none⟩, fun h => absurd h hc⟩
  obtain ⟨E, hE⟩ := Classical.axiomOfChoice one
  have lt : ∀ c d, S c → S d → pos c < pos d → E c ≠ E d := fun c d hc hd hlt => by
    obtain ⟨g1, t1, cs1, f1, p1, g2, t2, cs2, f2, p2, a1, a2, a3, a4, a5, a6, a7, a8, a9⟩ := laid_two (pos c) (pos d) hlt hl (hpos c hc) (hpos d hd)
    intro e
    obtain ⟨x1, k1, _, k3⟩ := sent_of hrows (hg c hc).1 (hg c hc).2 a1 a2 a3 a4 ((List.sublist_append_left _ _).trans a9)
    obtain ⟨x2, m1, _, m3⟩ := sent_of hrows (hg d hd).1 (hg d hd).2 a5 a6 a7 a8 ((List.sublist_append_right _ _).trans a9)
    have y1 := Option.some.inj (k1.symm.trans (hE c hc).1)
    have y2 := Option.some.inj (m1.symm.trans (hE d hd).1)
    simp only [Value.iface.injEq, Value.pointer.injEq, Option.some.injEq, true_and] at y1 y2
    have hn := hnd.sublist a9
    have hx : MemPlace.cell (E c).block (E c).off ∈ MemPlace.row ⟨g1, 0, none⟩ cs1.size ++ p1 := by rw [k3, y1]; simp [MemPlace.row]
    have hx2 : MemPlace.cell (E c).block (E c).off ∈ MemPlace.row ⟨g2, 0, none⟩ cs2.size ++ p2 := by rw [m3, y2, ← e]; simp [MemPlace.row]
    exact (List.nodup_append.1 hn).2.2 _ hx _ hx2 rfl
  refine ⟨E, fun c hc => (hE c hc).1, fun c hc => (hE c hc).2, fun c d hc hd hne => ?_⟩
  rcases Nat.lt_trichotomy (pos c) (pos d) with hl' | hl' | hl'
  · exact lt c d hc hd hl'
  · exact absurd (hinj c d hc hd hl') hne
  · exact (lt d c hd hc hl').symm
end
end Go.Proofs.YtpcfnkmljchiiaaGreatDoor.Is
end
section
/- A disk's cells, and what becomes of it where single blocks turn. -/
namespace Go.Proofs.YtpcfnkmljchiiaaGreatDoor.DAt
open Go Go.RowKit Go.Maps Go.Proofs.YtpcfnkmljchiiaaGreatDoorW.PrintWords DPl DAt Go.Proofs.YtpcfnkmljchiiaaGreatDoor.Is
variable {B : Bx} {a b c w w' w1 : World} {α : Type} {d : Kd α} {e base : Nat} {ok : Nat → Prop} {v : Value} {xs : List α}
/-! ### rows where one block has turned -/
/-- The block that may have turned is of none of these types. -/
def Not (w : World) (row : Option Nat) (qs : List Nat) : Prop := ∀ g, row = some g → ∃ o, w.heap[g]? = some o ∧ ∀ q ∈ qs, ∀ cells, o ≠ .cells cells q (0, 0)
/-- All other blocks are as they were. -/
def But (w w' : World) (row : Option Nat) : Prop := w.heap.size ≤ w'.heap.size ∧ ∀ k, k < w.heap.size → some k ≠ row → w'.heap[k]? = w.heap[k]?
theorem But.grown {row : Option Nat} (h : w.grownBy w' row) : But w w' row := ⟨h.size, h.block⟩
theorem But.setCell (w : World) (p : Addr) (u : Value) : But w (w.setCell p u) (some p.block) := ⟨by simp [World.setCell], fun k _ hne => Below.heap_setCell w p u k (fun e => hne (by rw [e]))⟩
theorem But.trans {row : Option Nat} (h : But a b row) (k : But b c row) : But a c row := ⟨Nat.le_trans h.1 k.1, fun i hi hne => (k.2 i (Nat.lt_of_lt_of_le hi h.1) hne).trans (h.2 i hi hne)⟩
theorem But.of_below {row : Option Nat} (h : Below w.heap.size w w') : But w w' row := ⟨h.size, fun k hk _ => h.block k hk⟩
theorem But.obj {row : Option Nat} {g : Nat} {o : Obj} (h : But w w' row) (ho : w.heap[g]? = some o) (hne : some g ≠ row) : w'.heap[g]? = some o := (h.2 g (blk_lt ho) hne).trans ho
theorem R_row (h : d.R e w base ok v xs) {row : Option Nat} (hk : But w w' row) (hn : Not w row (e :: d.E)) : d.R e w' base ok v xs :=
  Kd.R_mono (Kd.R_step (Kd.R_bound h) (fun k ho hl => hk.2 k hl (fun er => by
    obtain ⟨_, _, _, q, hq, cells, hc⟩ := ho
    obtain ⟨o, h1, h2⟩ := hn k er.symm
    rw [hc] at h1
    exact h2 q hq cells (Option.some.inj h1).symm))) (fun _ hk => hk.1)
theorem Not.cells {row : Option Nat} {qs : List Nat} {t : Nat} (h : ∀ g, row = some g → ∃ cs m, w.heap[g]? = some (.cells cs t m)) (ht : ∀ q ∈ qs, q ≠ t) : Not w row qs := fun g hg => by
  obtain ⟨cs, m, h1⟩ := h g hg
  exact ⟨_, h1, fun q hq cells he => by injection he with _ he _; exact ht q hq he.symm⟩
theorem Not.map {m : Nat} {qs : List Nat} {N : Nms} (h : NamesAt w m N) : Not w (some m) qs := fun g hg => by
  obtain rfl := Option.some.inj hg
  obtain ⟨es, cl, h1⟩ := h.obj
  exact ⟨_, h1, fun q hq cells he => by cases he⟩
theorem Not.own {qs : List Nat} {t : Nat} {size n base : Nat} {v : Value} {xs : List Value} (h : w.ownsRow base t size v n xs) (ht : ∀ q ∈ qs, q ≠ t) : Not w v.ownBlock qs :=
  Not.cells (t := t) (fun g hg => by obtain ⟨cs, hc⟩ := own_typed h g hg; exact ⟨cs, (0, 0), hc⟩) ht
theorem own_of (h : d.R e w base ok v xs) : ∃ inner, w.ownsRow base e d.sz v xs.length inner := Kd.R_own h
/-! ### a file, the files -/
abbrev tF : Nat := 108
abbrev tC : Nat := 114
theorem FileAt.row {k : Nat} {rv : Value} {f : Fil} (h : FileAt B w k rv f) {row : Option Nat} (hk : But w w' row) (hne : some k ≠ row) (hn : Not w row [5, tC]) : FileAt B w' k rv f := by
  obtain ⟨⟨nv, sv, ho, hn1, hs1⟩, lo, hop⟩ := h
  have n5 : Not w row (5 :: kb.E) := fun g hg => by obtain ⟨o, h1, h2⟩ := hn g hg; exact ⟨o, h1, fun q hq => h2 q (by have : q = 5 := (by simpa [kb, Kd.int, Kd.scalar] using hq); simp [this])⟩
  have n7 : Not w row (114 :: kChg.E) := fun g hg => by
    obtain ⟨o, h1, h2⟩ := hn g hg
    exact ⟨o, h1, fun q hq => h2 q (by
      simp only [kChg, Kd.iso, Kd.pair, Kd.slice, kb, Kd.int, Kd.bool, Kd.scalar, List.mem_cons, List.mem_append, List.not_mem_nil, or_false, false_or] at hq
      rcases hq with rfl | rfl
      · simp
      · simp)⟩
  exact ⟨⟨nv, sv, hk.obj ho hne, R_row hn1 hk n5, R_row hs1 hk n5⟩, lo, R_row hop hk n7⟩
theorem FilesAt.row {L : List (Nat × Value)} {fs : List Fil} (h : FilesAt B w L fs) {row : Option Nat} (hk : But w w' row) (hn : Not w row [5, tC, tF]) : FilesAt B w' L fs := by
  refine ⟨h.len, fun i x f hx hf => ?_, h.far⟩
  have h1 := h.each i x f hx hf
  refine h1.row hk (fun e => ?_) (fun g hg => ?_)
  · obtain ⟨nv, sv, ho, _, _⟩ := h1.ex
    obtain ⟨o, h2, h3⟩ := hn x.1 e.symm
    rw [ho] at h2
    exact h3 tF (by simp) _ (Option.some.inj h2).symm
  · obtain ⟨o, h2, h3⟩ := hn g hg
    exact ⟨o, h2, fun q hq => h3 q (by simp at hq ⊢; rcases hq with h | h <;> simp [h])⟩
/-! ### the disk -/
variable {p : Nat} {D : Dsk} {L : List (Nat × Value)} {m1 m2 : Nat} {fv ov : Value}
abbrev tD : Nat := 87
theorem Lies.notp (h : Lies B w p D L m1 m2 fv ov) (qs : List Nat) (hq : tD ∉ qs) : Not w (some p) qs :=
  Not.cells (t := tD) (fun g hg => by obtain rfl := Option.some.inj hg; exact ⟨_, _, h.obj⟩) (fun q hq2 e => hq (e ▸ hq2))
theorem Lies.nep (h : Lies B w p D L m1 m2 fv ov) {m : Nat} {N : Nms} (hm : NamesAt w m N) : some m ≠ some p := fun e => by
  obtain rfl := Option.some.inj e
  obtain ⟨es, cl, h1⟩ := hm.obj
  rw [h.obj] at h1
  cases h1
theorem kPtrE : kPtr.E = [] := rfl
theorem kEntE : kEnt.E = [] := rfl
/-- The struct's own numbers have turned. -/
theorem Lies.reobj (h : Lies B w p D L m1 m2 fv ov) (q ar : Int) (off : Bool) (st : Int) (ho : w'.heap[p]? = some (diskO fv m1 m2 ov q ar off st)) (hk : But w w' (some p)) :
    Lies B w' p { D with quota := q, armed := ar, off := off, steps := st } L m1 m2 fv ov :=
  ⟨ho, h.lop, h.lo1, h.lo2, h.ne, h.now.same (hk.2 _ h.now.lt (h.nep h.now)), h.sure.same (hk.2 _ h.sure.lt (h.nep h.sure)), R_row h.ptrs hk (h.notp _ (by rw [kPtrE]; decide)), R_row h.opn hk (h.notp _ (by rw [kEntE]; decide)), h.files.row hk (h.notp _ (by decide)), Nat.lt_of_lt_of_le h.lt hk.1⟩
/-- The names now have turned. -/
theorem Lies.renow (h : Lies B w p D L m1 m2 fv ov) {N : Nms} (hN : NamesAt w' m1 N) (hg : w.grownBy w' (some m1)) : Lies B w' p { D with now := N } L m1 m2 fv ov :=
  have hk := But.grown hg
  ⟨hk.obj h.obj (h.nep h.now).symm, h.lop, h.lo1, h.lo2, h.ne, hN, h.sure.same (hk.2 _ h.sure.lt (fun e => h.ne (Option.some.inj e).symm)), R_row h.ptrs hk (Not.map h.now), R_row h.opn hk (Not.map h.now), h.files.row hk (Not.map h.now), Nat.lt_of_lt_of_le h.lt hk.1⟩
theorem Lies.resure (h : Lies B w p D L m1 m2 fv ov) {N : Nms} (hN : NamesAt w' m2 N) (hg : w.grownBy w' (some m2)) : Lies B w' p { D with sure := N } L m1 m2 fv ov :=
  have hk := But.grown hg
  ⟨hk.obj h.obj (h.nep h.sure).symm, h.lop, h.lo1, h.lo2, h.ne, h.now.same (hk.2 _ h.now.lt (fun e => h.ne (Option.some.inj e))), hN, R_row h.ptrs hk (Not.map h.sure), R_row h.opn hk (Not.map h.sure), h.files.row hk (Not.map h.sure), Nat.lt_of_lt_of_le h.lt hk.1⟩
/-- What a disk stands on is as it was. -/
theorem Lies.same (h : Lies B w p D L m1 m2 fv ov) (hk : ∀ k, k < w.heap.size → w'.heap[k]? = w.heap[k]?) (hs : w.heap.size ≤ w'.heap.size) : Lies B w' p D L m1 m2 fv ov :=
  have hb : But w w' none := ⟨hs, fun k hl _ => hk k hl⟩
  have hn : ∀ qs, Not w none qs := fun qs g hg => by cases hg
  ⟨(hk _ (blk_lt h.obj)).trans h.obj, h.lop, h.lo1, h.lo2, h.ne, h.now.same (hk _ h.now.lt), h.sure.same (hk _ h.sure.lt), R_row h.ptrs hb (hn _), R_row h.opn hb (hn _), h.files.row hb (hn _), Nat.lt_of_lt_of_le h.lt hs⟩
theorem Lies.below (h : Lies B w p D L m1 m2 fv ov) (hb : Below w.heap.size w w') : Lies B w' p D L m1 m2 fv ov := h.same hb.block hb.size
theorem Lies.drew (h : Lies B w p D L m1 m2 fv ov) : Lies B w.drew p D L m1 m2 fv ov := h.same (fun _ _ => rfl) (Nat.le_refl _)
theorem DiskAt.below (h : DiskAt B w p D) (hb : Below w.heap.size w w') : DiskAt B w' p D := by
  obtain ⟨L, m1, m2, fv, ov, hl⟩ := h
  exact ⟨L, m1, m2, fv, ov, Lies.below hl hb⟩
/-- The row of names' steps has been appended to, and laid into the struct. -/
theorem Lies.reopn (h : Lies B w p D L m1 m2 fv ov) {v1 : Value} {es : List Ent} (hE : EntsAt B w1 v1 es) (hg : w.grownBy w1 ov.ownBlock) : Lies B (w1.setCell ⟨p, 3, none⟩ v1) p { D with opn := es } L m1 m2 fv v1 := by
  have hk := But.grown hg
  obtain ⟨inner, ho⟩ := own_of h.opn
  have nt : ∀ qs : List Nat, 111 ∉ qs → Not w ov.ownBlock qs := fun qs hq => Not.own ho (fun q hq2 e => hq (e ▸ hq2))
  have op1 : some p ≠ ov.ownBlock := fun e => by
    obtain ⟨cs, hc⟩ := own_typed ho p e.symm
    rw [h.obj] at hc
    cases hc
  have om : ∀ {m : Nat} {N : Nms}, NamesAt w m N → some m ≠ ov.ownBlock := fun hm e => by
    obtain ⟨cs, hc⟩ := own_typed ho _ e.symm
    obtain ⟨es, cl, h1⟩ := hm.obj
    rw [h1] at hc
    cases hc
  have obj1 := hk.obj h.obj op1
  have hs := But.setCell w1 ⟨p, 3, none⟩ v1
  have np : ∀ qs : List Nat, tD ∉ qs → Not w1 (some p) qs := fun qs hq => Not.cells (t := tD) (fun g hg => by obtain rfl := Option.some.inj hg; exact ⟨_, _, obj1⟩) (fun q hq2 e => hq (e ▸ hq2))
  have now1 := h.now.same (hk.2 _ h.now.lt (om h.now))
  have sure1 := h.sure.same (hk.2 _ h.sure.lt (om h.sure))
  have ne1 : ∀ {m : Nat} {N : Nms}, NamesAt w1 m N → some m ≠ some p := fun hm e => by
    obtain rfl := Option.some.inj e
    obtain ⟨es, cl, h1⟩ := hm.obj
    rw [obj1] at h1
    cases h1
  refine ⟨blk_set obj1 3 v1, h.lop, h.lo1, h.lo2, h.ne, now1.same (hs.2 _ now1.lt (ne1 now1)), sure1.same (hs.2 _ sure1.lt (ne1 sure1)), R_row (R_row h.ptrs hk (nt _ (by rw [kPtrE]; decide))) hs (np _ (by rw [kPtrE]; decide)), R_row hE hs (np _ (by rw [kEntE]; decide)), (h.files.row hk (nt _ (by decide))).row hs (np _ (by decide)), Nat.lt_of_lt_of_le h.lt (Nat.le_trans hk.1 hs.1)⟩
/-! ### errors -/
/-- The numbers of the errors that the disk answers. -/
def dErr (c : Int) : Prop := c = 1 ∨ c = 4 ∨ c = 5 ∨ c = 6 ∨ c = 7 ∨ c = 8 ∨ c = 11
structure ErrAt (B : Nat) (w : World) (E : Int → Addr) : Prop where
  errs : Errs dErr w E
  lo : ∀ c, dErr c → gOf c < B ∧ (E c).block < B
theorem ErrAt.turn {B : Nat} {E : Int → Addr} (h : ErrAt B w E) (ht : Turn B w w') : ErrAt B w' E := by
  refine ⟨⟨fun c hc => ?_, fun c hc => ?_, h.errs.ne⟩, h.lo⟩
  · have hv := h.errs.var c hc
    have hl := World.block_lt_of_cell? w _ hv
    rw [World.cell?_of_block (w := w) (ht.low _ (h.lo c hc).1 hl)]
    exact hv
  · obtain ⟨cs, t, hr⟩ := h.errs.row c hc
    exact ⟨cs, t, by rw [ht.low _ (h.lo c hc).2 (blk_lt hr)]; exact hr⟩
end Go.Proofs.YtpcfnkmljchiiaaGreatDoor.DAt
end
section
/- entry.do: names behind a step. -/
namespace Go.Proofs.YtpcfnkmljchiiaaGreatDoor.DEnt
open Go Go.RowKit Go.Maps Go.WideMaps Go.Proofs.YtpcfnkmljchiiaaGreatDoorW.PrintWords DPl DAt
theorem law : Keyed Tryz.prog 9 := string_keyed Tryz.underlying9
theorem zeroE (w : World) : (zeroValue 3).run Tryz.prog w = .ok (.int .i64 0) w := by kernel_rfl
theorem keyS (s : ByteArray) (hs : s.size ≤ 24) : keyOf Tryz.prog 9 (.string s) = some (.string s.data.toList) := keyOf_string_mk Tryz.underlying9 (by unfold maxLen; omega)
def entV (e : Ent) : Value := .agg #[.string e.name, .string e.gone, .int .i64 e.file]
set_option maxRecDepth 100000 in
set_option maxHeartbeats 4000000 in
theorem ent_calls0 (name gone : ByteArray) (file : Int) (he1 : name.size ≤ 24) (he2 : gone.size ≤ 24) (hf : file ≤ 9223372036854775807) (hf0 : -9223372036854775808 ≤ file) (m : Nat) (N : Nms) (w : World) (hN : NamesAt w m N) (hl : N.length < 9223372036854775807) :
    Calls Tryz.prog 65 #[.agg #[.string name, .string gone, .int .i64 file], .map (some m)] w fun en w' => en = .returned (.tuple #[]) ∧ NamesAt w' m (Ent.go ⟨name, gone, file⟩ N) ∧ w.grownBy w' (some m) := by
  have K1 := keyS gone he2
  have K2 := keyS name he1
  have HO := Aside0.mk (World.ownsMap.alloc (show w.ownsMap (H := Unit) Tryz.prog 9 (plainElem Tryz.prog 3) m N.length (nmData N) from hN) (.cells #[.string name, .string gone, .int .i64 file] 111))
  have HL := Aside0.mk hl
  have HM := Aside0.mk hN.lt
  have HW := Aside0.mk (WalkArith.wf_i64 (n := file) ⟨by omega, by omega⟩)
  have HD := Aside0.mk (show (delN N gone.data.toList).length < maxLen by unfold maxLen; have := len_delN N gone.data.toList; omega)
  have HMN := Aside0.mk (show some w.heap.size ≠ some m by intro e; have := Option.some.inj e; have := HM.out; omega)
  clear hN hl he1 he2 hf hf0
  by_cases h0 : 0 ≤ file
  · have HE := Aside0.mk (show Ent.go ⟨name, gone, file⟩ N = putN (delN N gone.data.toList) name.data.toList file from if_pos h0)
    have t1 : decide (0 ≤ file) = true := decide_eq_true h0
    clear h0
    go_enter Tryz.func65, Tryz.ntmps65
    go_wp2_with (first
      | (at_delete; refine wpList_delete_own _ rfl _ _ 83 9 rfl 3 law Tryz.underlying83 _ m N.length (nmData N) rfl HO.out _ _ rfl K1 ?_; intro w1 hown1 hturn1; rw [← nmData_del] at hown1; have g0 := hturn1.grown.cell (a := ⟨w.heap.size, 0, none⟩) (v := .string name) (World.cell?_alloc_new _ _ _ _) HMN.out; have g2 := hturn1.grown.cell (a := ⟨w.heap.size, 2, none⟩) (v := .int .i64 file) (World.cell?_alloc_new _ _ _ _) HMN.out; have HT1 := Aside0.mk hturn1; have HO1 := Aside0.mk (names_of hown1); clear hturn1 hown1)
      | (at_mapUpdate; refine wpList_mapUpdate_own _ rfl _ _ _ 83 rfl 9 3 law Tryz.underlying83 _ m _ _ rfl HO1.out HD.out _ _ _ rfl rfl K2 _ [] (plainElem_int Tryz.underlying3 HW.out) ?_; intro w2 hown2 hgrow2; rw [← nmData_put] at hown2; have HG2 := Aside0.mk hgrow2; have HO2 := Aside0.mk (names_of hown2); clear hgrow2 hown2))
    go_end0
    exact ⟨rfl, by rw [HE.out]; exact HO2.out, (World.grownBy_alloc _ _ _).trans (HT1.out.grown.trans HG2.out)⟩
  · have HE := Aside0.mk (show Ent.go ⟨name, gone, file⟩ N = delN N gone.data.toList from if_neg h0)
    have t1 : decide (0 ≤ file) = false := decide_eq_false h0
    clear h0
    go_enter Tryz.func65, Tryz.ntmps65
    go_wp2_with (first
      | (at_delete; refine wpList_delete_own _ rfl _ _ 83 9 rfl 3 law Tryz.underlying83 _ m N.length (nmData N) rfl HO.out _ _ rfl K1 ?_; intro w1 hown1 hturn1; rw [← nmData_del] at hown1; have g0 := hturn1.grown.cell (a := ⟨w.heap.size, 0, none⟩) (v := .string name) (World.cell?_alloc_new _ _ _ _) HMN.out; have g2 := hturn1.grown.cell (a := ⟨w.heap.size, 2, none⟩) (v := .int .i64 file) (World.cell?_alloc_new _ _ _ _) HMN.out; have HT1 := Aside0.mk hturn1; have HO1 := Aside0.mk (names_of hown1); clear hturn1 hown1))
    go_end0
    exact ⟨rfl, by rw [HE.out]; exact HO1.out, (World.grownBy_alloc _ _ _).trans HT1.out.grown⟩
end Go.Proofs.YtpcfnkmljchiiaaGreatDoor.DEnt
end
section
/- The imports of the walks; what types hold. -/
namespace Go.Proofs.YtpcfnkmljchiiaaGreatDoor.DBase
open Go
theorem info5 : (Tryz.prog.info? 5).map (fun i => (i.zero, i.size, i.bytes)) = some (some (.int .u8 0), 1, 1) := by kernel_rfl
end Go.Proofs.YtpcfnkmljchiiaaGreatDoor.DBase
end
