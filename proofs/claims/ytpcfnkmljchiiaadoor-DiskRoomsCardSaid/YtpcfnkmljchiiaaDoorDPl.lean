/- The disk, told in plain Lean: its files, its names, its open steps; what each call makes of it. -/
import Derived.Below
namespace Go.Proofs.YtpcfnkmljchiiaaDoor.DPl
set_option linter.unusedVariables false
/-- An open step of a file. -/
structure Chg where
  pos : Nat
  b : List Int
  cut : Bool
/-- Bytes behind a step. -/
def Chg.go (c : Chg) (l : List Int) : List Int := if c.cut = true then l.take c.pos else l.take c.pos ++ c.b ++ l.drop (min l.length (c.pos + c.b.length))
/-- A file. -/
structure Fil where
  now : List Int
  sure : List Int
  opn : List Chg
/-- An open step of names. -/
structure Ent where
  name : ByteArray
  gone : ByteArray
  file : Int
/-- Names and their files' numbers, in the order of the names. -/
abbrev Nms := List (List UInt8 × Int)
/-- Is a text before another one? -/
def before (a b : List UInt8) : Bool := Lit.before (.string a) (.string b)
def insN (x : List UInt8 × Int) : Nms → Nms
  | [] => [x]
  | y :: r => if before x.1 y.1 then x :: y :: r else y :: insN x r
def delN (N : Nms) (k : List UInt8) : Nms := N.filter fun p => !(p.1 == k)
def putN (N : Nms) (k : List UInt8) (i : Int) : Nms := insN (k, i) (delN N k)
def hasN (N : Nms) (k : List UInt8) : Bool := N.any fun p => p.1 == k
/-- A name's file; 0 where there is none. -/
def atN (N : Nms) (k : List UInt8) : Int := match N.find? (fun p => p.1 == k) with | some p => p.2 | none => 0
/-- Names behind a step. -/
def Ent.go (e : Ent) (N : Nms) : Nms := if 0 ≤ e.file then putN (delN N e.gone.data.toList) e.name.data.toList e.file else delN N e.gone.data.toList
def goAll (N : Nms) (l : List Ent) : Nms := l.foldl (fun N e => e.go N) N
def chgAll (b : List Int) (l : List Chg) : List Int := l.foldl (fun b c => c.go b) b
/-- The disk. -/
structure Dsk where
  files : List Fil
  now : Nms
  sure : Nms
  opn : List Ent
  quota : Int
  armed : Int
  off : Bool
  steps : Int
def newD (q : Int) : Dsk := ⟨[], [], [], [], q, -1, false, 0⟩
/-- Do steps fit bytes, one behind the other? -/
def fits (b : List Int) : List Chg → Prop
  | [] => True
  | c :: r => c.pos ≤ b.length ∧ fits (c.go b) r
structure Fil.Ok (f : Fil) (n : Int) : Prop where
  now : f.now = chgAll f.sure f.opn
  fits : fits f.sure f.opn
  sureL : f.sure.length ≤ 1073741824
  opnL : ∀ c ∈ f.opn, c.pos + c.b.length ≤ 1073741824
  nowL : f.now.length ≤ 1073741824
  cnt : (f.opn.length : Int) ≤ n
structure Dsk.Ok (D : Dsk) : Prop where
  nowF : ∀ p ∈ D.now, 0 ≤ p.2 ∧ p.2 < D.files.length
  sureF : ∀ p ∈ D.sure, 0 ≤ p.2 ∧ p.2 < D.files.length
  opnF : ∀ e ∈ D.opn, -1 ≤ e.file ∧ e.file < D.files.length ∧ e.name.size ≤ 24 ∧ e.gone.size ≤ 24
  nowE : D.now = goAll D.sure D.opn
  fil : ∀ f ∈ D.files, f.Ok D.steps
  quota0 : 0 ≤ D.quota
  quota1 : D.quota ≤ 1073741824
  armed0 : -1 ≤ D.armed
  armed1 : D.armed ≤ 9223372036854775807
  steps0 : 0 ≤ D.steps
  cntF : (D.files.length : Int) ≤ D.steps
  cntN : (D.sure.length : Int) + D.opn.length ≤ D.steps
theorem chg_len (c : Chg) (l : List Int) (M : Nat) (h : l.length ≤ M) (hc : c.pos + c.b.length ≤ M) : (c.go l).length ≤ M := by
  unfold Chg.go
  split
  · simp; omega
  · simp; omega
theorem len_insN (x : List UInt8 × Int) : ∀ N : Nms, (insN x N).length = N.length + 1
  | [] => rfl
  | y :: r => by
    unfold insN
    split
    · rfl
    · simp [len_insN x r]
theorem mem_insN (x : List UInt8 × Int) : ∀ (N : Nms) (p), p ∈ insN x N ↔ p = x ∨ p ∈ N
  | [], p => by simp [insN]
  | y :: r, p => by
    unfold insN
    split
    · simp
    · simp [mem_insN x r p]
      constructor <;> (intro h; rcases h with h | h | h <;> simp [h])
theorem len_delN (N : Nms) (k : List UInt8) : (delN N k).length ≤ N.length := List.length_filter_le _ _
theorem mem_delN {N : Nms} {k : List UInt8} {p} (h : p ∈ delN N k) : p ∈ N := (List.mem_filter.1 h).1
theorem len_go (e : Ent) (N : Nms) : (e.go N).length ≤ N.length + 1 := by
  unfold Ent.go
  split
  · rw [putN, len_insN]
    have h1 := len_delN (delN N e.gone.data.toList) e.name.data.toList
    have h2 := len_delN N e.gone.data.toList
    omega
  · have h2 := len_delN N e.gone.data.toList
    omega
theorem mem_go {e : Ent} {N : Nms} {p} (h : p ∈ e.go N) : p ∈ N ∨ p.2 = e.file ∧ 0 ≤ e.file := by
  unfold Ent.go at h
  split at h
  · rw [putN, mem_insN] at h
    rcases h with h | h
    · right; rw [h]; exact ⟨rfl, by assumption⟩
    · exact .inl (mem_delN (mem_delN h))
  · exact .inl (mem_delN h)
theorem goAll_snoc (N : Nms) (l : List Ent) (e : Ent) : goAll N (l ++ [e]) = e.go (goAll N l) := by simp [goAll, List.foldl_append]
theorem chgAll_snoc (b : List Int) (l : List Chg) (c : Chg) : chgAll b (l ++ [c]) = c.go (chgAll b l) := by simp [chgAll, List.foldl_append]
theorem len_goAll : ∀ (l : List Ent) (N : Nms), (goAll N l).length ≤ N.length + l.length
  | [], N => by simp [goAll]
  | e :: r, N => by
    have h1 := len_goAll r (e.go N)
    have h2 := len_go e N
    simp only [goAll, List.foldl_cons, List.length_cons] at *
    omega
theorem mem_goAll : ∀ (l : List Ent) (N : Nms) (p), p ∈ goAll N l → p ∈ N ∨ ∃ e ∈ l, p.2 = e.file ∧ 0 ≤ e.file
  | [], N, p, h => .inl h
  | e :: r, N, p, h => by
    rcases mem_goAll r (e.go N) p h with h1 | ⟨e1, h1, h2⟩
    · rcases mem_go h1 with h3 | h3
      · exact .inl h3
      · exact .inr ⟨e, by simp, h3⟩
    · exact .inr ⟨e1, by simp [h1], h2⟩
theorem fits_snoc : ∀ (l : List Chg) (b : List Int) (c : Chg), fits b (l ++ [c]) ↔ fits b l ∧ c.pos ≤ (chgAll b l).length
  | [], b, c => by simp [fits, chgAll]
  | d :: r, b, c => by
    have := fits_snoc r (d.go b) c
    simp only [List.cons_append, fits, chgAll, List.foldl_cons] at *
    rw [this, and_assoc]
/-! ### what each call answers (none: no error; else the error's number) and makes of the disk -/
/-- A step: none: the power is gone. -/
def stepD (D : Dsk) : Dsk := { D with armed := if 0 < D.armed then D.armed - 1 else D.armed, steps := D.steps + 1 }
def offD (D : Dsk) : Dsk := { D with off := true }
def addE (D : Dsk) (e : Ent) : Dsk := { D with now := e.go D.now, opn := D.opn ++ [e] }
def namedD (D : Dsk) (e : Ent) : Option Int × Dsk := if D.armed = 0 then (some 8, offD D) else (none, addE (stepD D) e)
/-- How many bytes the named files have. -/
def usedL (fs : List Fil) (N : Nms) : Nat := (N.map fun p => match fs[p.2.toNat]? with | some f => f.now.length | none => 0).sum
def usedD (D : Dsk) : Nat := usedL D.files D.now
def setF (D : Dsk) (i : Nat) (f : Fil) : Dsk := { D with files := D.files.set i f }
end Go.Proofs.YtpcfnkmljchiiaaDoor.DPl
