/- The program's layers 8 and 19, walked: texts cut, paths, numbers, options, Parse. -/
import Derived.Test.YtjggdkcfpdhoaaaGreatDoorWWords
import Derived.Lib.ConvBytes
import Derived.Shelf.Strings.Builder1
import Derived.Shelf.Strings.Trim
import Derived.Shelf.Small.Utf8
import Derived.Shelf.Small.Strs
import Derived.Shelf.Small.Wraps
import Derived.Shelf.Strconv.Atoi
import Derived.Shelf.Strconv.Itoa0
import Derived.Shelf.Strconv.Itoa1
import Derived.Shelf.LaysM
import Derived.Shelf.Strconv.Itoa2
import Derived.Shelf.Strconv.Itoa3
import Derived.Shelf.Strconv.AtoiErrFast
import Derived.Shelf.Strconv.ParseIntEmpty
import Derived.Shelf.Strconv.AtoiFail
import Derived.Shelf.Strconv.Clone
import Derived.Shelf.Strconv.SyntaxError
import Derived.Shelf.LaysC
import Derived.Shelf.Strconv.ToError
import Derived.Shelf.Strconv.Lower
import Derived.Shelf.Strconv.ParseUint10
import Derived.Shelf.Strconv.ParseUint10Empty
import Derived.Shelf.Strconv.ParseUint10Any
import Derived.Shelf.Strconv.ParseInt10
import Derived.Shelf.Strconv.AtoiLong
import Derived.Shelf.Strconv.AtoiInnerAll
import Derived.Shelf.Strconv.RangeError
import Derived.Shelf.Strconv.ToErrorRange
import Derived.Shelf.Strconv.AtoiAll
import Derived.Shelf.Strings.Search1
import Derived.Shelf.Strings.Search2
import Derived.Shelf.Strings.Search3
import Derived.Shelf.Strings.Cut
import Derived.Shelf.Strings.Shaped
import Derived.Shelf.Strings.Prefix
import Derived.Shelf.Unicode.Decode
import Derived.Shelf.Strings.Runes
import Derived.Shelf.Strings.IndexAny
import Derived.Shelf.Strings.AsciiSet
import Derived.Shelf.Strings.IndexAnyAll
import Derived.Shelf.Unicode.DecodeSlow
import Derived.Shelf.Unicode.DecodeAny
import Derived.Shelf.Unicode.DecodeLast
import Derived.Shelf.Slices.Turned
import Derived.Test.YtjggdkcfpdhoaaaGreatDoorProg
import Derived.WalkKit
import Derived.Below
import Derived.WalkSpells
import Derived.OwnWalkIn
import Derived.LoopIn
import Derived.IntWalk
import Derived.Lib.SplitLaws
import Derived.Lib.IndexBytes
import Derived.Lib.IndexLaws
import Derived.RangeFuncKeeps
import Derived.RangeFuncCalls
import Derived.RangeFuncLeaves
import Derived.RangeFuncBound
import Derived.RangeFuncFrom
import Derived.RangeFuncBox
import Derived.Shelf.Abstract
import Derived.TacticsInMore
import Derived.LoopNIn
import Derived.RangeFuncNested
import Derived.Shelf.Strings.SlTrimAscii
import Derived.Lib.AtoiBound
import Derived.Test.YtjggdkcfpdhoaaaGreatDoorWKept
/- Rows of bytes that a conversion of a text makes: they may be read and written in place; small letters. -/
open Go Go.RowKit
namespace Go.Proofs.YtjggdkcfpdhoaaaGreatDoorW.SRows
open Go.Proofs.YtjggdkcfpdhoaaaGreatDoorW.PrintWords
def lowI (c : Int) : Int := if 65 ≤ c ∧ c ≤ 90 then c + 32 else c
/-- A text's bytes, with small letters for capital ones. -/
def smallL (s : ByteArray) : List Int := s.data.toList.map fun b => lowI (b.toNat : Int)
theorem smallL_eq (s : ByteArray) : smallL s = (bytesOf s).map lowI := by simp [smallL, bytesOf]
theorem smallL_length (s : ByteArray) : (smallL s).length = s.size := by simp [smallL]
theorem smallL_get (s : ByteArray) (k : Nat) (hk : k < s.size) : (smallL s)[k]? = some (lowI ((s.data.toList.getD k 0).toNat : Int)) := by
  have h : k < s.data.toList.length := by simpa using hk
  simp only [smallL, List.getElem?_map, List.getElem?_eq_getElem h, Option.map_some, List.getD_eq_getElem?_getD, Option.getD_some]
theorem bytesOf_getD (s : ByteArray) (k : Nat) (hk : k < s.size) : (bytesOf s).getD k 0 = ((s.data.toList.getD k 0).toNat : Int) := by
  have h : k < s.data.toList.length := by simpa using hk
  simp only [bytesOf, List.getD_eq_getElem?_getD, List.getElem?_map, List.getElem?_eq_getElem h, Option.map_some, Option.getD_some]
theorem bytesOf_range (s : ByteArray) (x : Int) (h : x ∈ bytesOf s) : 0 ≤ x ∧ x ≤ 255 := by
  obtain ⟨b, _, rfl⟩ := List.mem_map.1 h
  exact ⟨by omega, by have := b.toNat_lt; omega⟩
theorem bytes_grown (w : World) (e : TypeId) (s : ByteArray) : w.grownBy (Lib.bytesWorld w e s) none := by
  refine ⟨?_, ?_, ?_, by rw [Lib.bytesWorld_size]; omega, fun k hk _ => Lib.bytesWorld_at_old w e s k hk⟩
  all_goals (simp only [Lib.bytesWorld, World.freeze]; split <;> rfl)
/-- A row of the call's own (block B) that may be read and written in place: its first cells. A conversion of a text makes one, or 'make'. -/
structure SRow {α : Type} (enc : α → Value) (d : α) (w : World) (e : TypeId) (B : Nat) (xs : List α) : Prop where
  size : xs.length ≤ 9223372036854775807
  row : ∃ (cells : Array Value) (fr : Nat × Nat), w.heap[B]? = some (.cells cells e fr) ∧ (fr = (0, 0) ∨ fr = (cells.size, cells.size + 1)) ∧ xs.length ≤ cells.size ∧ ∀ j, j < xs.length → cells[j]? = some (enc (xs.getD j d))
theorem SRow.new (w : World) (e : TypeId) (s : ByteArray) (hs : s.size ≤ 9223372036854775807) : SRow (Value.int .u8) 0 (Lib.bytesWorld w e s) e w.heap.size (bytesOf s) := by
  refine ⟨by rw [bytesOf_length]; exact hs, _, _, Lib.bytesWorld_at_new w e s, .inr rfl, ?_, fun j hj => ?_⟩
  · rw [bytesOf_length]
    simp [Lib.bytesCells]
  · rw [bytesOf_length] at hj
    have h := Lib.bytesWorld_cell w e s j hj
    rw [bytesOf_getD s j hj]
    simpa [World.cell?, Lib.bytesWorld_at_new] using h
section
variable {α : Type} {enc : α → Value} {d : α} {w w' : World} {e : TypeId} {B : Nat} {xs : List α}
theorem SRow.lt (h : SRow enc d w e B xs) : B < w.heap.size := by
  obtain ⟨cells, fr, hb, _⟩ := h.row
  exact (Array.getElem?_eq_some_iff.1 hb).1
theorem SRow.cell (h : SRow enc d w e B xs) (j : Nat) (hj : j < xs.length) : w.cell? ⟨B, j, none⟩ = some (enc (xs.getD j d)) := by
  obtain ⟨cells, fr, hb, _, _, hc⟩ := h.row
  simp [World.cell?, hb, hc j hj]
theorem SRow.free (h : SRow enc d w e B xs) (j : Nat) (hj : j < xs.length) : w.frozen? ⟨B, j, none⟩ = false := by
  obtain ⟨cells, fr, hb, hfr, hl, _⟩ := h.row
  have : ¬ cells.size ≤ j := by omega
  rcases hfr with rfl | rfl
  · simp [World.frozen?, hb]
  · simp [World.frozen?, hb, this]
theorem SRow.kept (h : SRow enc d w e B xs) (hk : w'.heap[B]? = w.heap[B]?) : SRow enc d w' e B xs := by
  obtain ⟨cells, fr, hb, hl, hc⟩ := h.row
  exact ⟨h.size, cells, fr, hk.trans hb, hl, hc⟩
theorem SRow.below (h : SRow enc d w e B xs) (hb : Below w.heap.size w w') : SRow enc d w' e B xs := h.kept (hb.block B h.lt)
theorem SRow.set (h : SRow enc d w e B xs) (j : Nat) (hj : j < xs.length) (v : α) : SRow enc d (w.setCell ⟨B, j, none⟩ (enc v)) e B (xs.set j v) := by
  obtain ⟨cells, fr, hb, hfr, hl, hc⟩ := h.row
  obtain ⟨hlt, hk⟩ := Array.getElem?_eq_some_iff.1 hb
  refine ⟨by rw [List.length_set]; exact h.size, cells.setIfInBounds j (enc v), fr, ?_, by rw [Array.size_setIfInBounds]; exact hfr, by rw [List.length_set, Array.size_setIfInBounds]; exact hl, fun i hi => ?_⟩
  · show (w.heap.modify B _)[B]? = _
    rw [Array.getElem?_eq_getElem (by rw [Array.size_modify]; exact hlt), Array.getElem_modify_self, hk]
    simp
  · rw [List.length_set] at hi
    by_cases e : j = i
    · subst e
      rw [Array.getElem?_setIfInBounds_self_of_lt (by omega)]
      simp [List.getD_eq_getElem?_getD, hi]
    · rw [Array.getElem?_setIfInBounds_ne e, hc i hi]
      simp [List.getD_eq_getElem?_getD, List.getElem?_set_ne e]
theorem SRow.other {B' j : Nat} {v : Value} (h : SRow enc d w e B xs) (hn : B ≠ B') : SRow enc d (w.setCell ⟨B', j, none⟩ v) e B xs := h.kept (Below.heap_setCell _ _ _ B hn)
theorem SRow.C {h1 : ∀ x, (enc x).oneCell' = true} (h : SRow enc d w e B xs) : (Kd.scalar enc h1).C w (some ⟨B, 0, none⟩) xs.length xs :=
  Kd.C_of_reads (d := d) ⟨rfl, h.size, fun _ => ⟨_, rfl, fun j hj => by
    have e : (⟨B, 0, none⟩ : Addr).add j = ⟨B, j, none⟩ := by simp [Addr.add]; omega
    rw [e]
    exact h.cell j hj⟩⟩
/-- What 'make' makes is one. -/
theorem SRow.made {h1 : ∀ x, (enc x).oneCell' = true} {base : Nat} {ok : Nat → Prop} {v : Value} (h : (Kd.scalar enc h1).R e w base ok v xs) (h0 : 0 < xs.length) : ∃ B c, v = .slice (some ⟨B, 0, none⟩) xs.length c ∧ base ≤ B ∧ xs.length ≤ c ∧ SRow enc d w e B xs := by
  rcases (Kd.own_of_R h).2 with ⟨_, hn⟩ | ⟨g, cap, cur, rfl, hg, hh, h1', h2', h3, h4⟩
  · omega
  · refine ⟨g, cap, rfl, hg, h1', by unfold maxLen at h2'; omega, cur, (0, 0), hh, .inl rfl, by omega, fun j hj => ?_⟩
    rw [Nat.mul_one] at h4
    have := congrArg (fun l => l[j]?) h4
    simp only [List.getElem?_take_of_lt hj] at this
    rw [encs_get xs j hj] at this
    simpa using this
end
theorem bne_nil_ (l : List UInt8) : (l != []) = !l.isEmpty := by cases l <;> rfl
end Go.Proofs.YtjggdkcfpdhoaaaGreatDoorW.SRows
/- Contracts of the library as the shelf lays them at this program. -/
namespace Go.Proofs
open Go.Shelf
def Tryz.lays169_ren : Go.Shelf.Ren := ⟨fun | 169 => 29 | n => n, fun | 70 => 56 | 9 => 9 | 0 => 0 | 72 => 59 | 37 => 57 | 127 => 75 | 3 => 3 | 5 => 5 | n => n, fun | n => n⟩
theorem Tryz.lays169 : Go.Proofs.Lays.n169 Tryz.prog Tryz.lays169_ren := {
  mixed := by kernel_rfl
  f169 := Tryz.func29.trans (congrArg some (by kernel_rfl))
  t0 := Tryz.underlying0
  a0 := Tryz.isAgg0
  z0 := Tryz.sizeOf0
  v0 := Tryz.zeroValue0
  t3 := Tryz.underlying3
  a3 := Tryz.isAgg3
  z3 := Tryz.sizeOf3
  v3 := Tryz.zeroValue3
  t9 := Tryz.underlying9
  a9 := Tryz.isAgg9
  z9 := Tryz.sizeOf9
  v9 := Tryz.zeroValue9
  t37 := Tryz.underlying57
  a37 := Tryz.isAgg57
  z37 := Tryz.sizeOf57
  v37 := Tryz.zeroValue57
  t70 := Tryz.underlying56
  a70 := Tryz.isAgg56
  z70 := Tryz.sizeOf56
  v70 := Tryz.zeroValue56
  t72 := Tryz.underlying59
  a72 := Tryz.isAgg59
  z72 := Tryz.sizeOf59
  v72 := Tryz.zeroValue59
  t127 := Tryz.underlying75
  a127 := Tryz.isAgg75
  z127 := Tryz.sizeOf75
  v127 := Tryz.zeroValue75 }
theorem Tryz.Builder_Extra_169 : Builder.Extra Tryz.prog Tryz.lays169_ren := {
  sizeBuilder := by kernel_rfl
  liesBuilder := by kernel_rfl
  t5 := Tryz.underlying5
  a5 := Tryz.isAgg5
  z5 := Tryz.sizeOf5
  v5 := Tryz.zeroValue5
  infoByte := by kernel_rfl
  cellsByte := by kernel_rfl
  sizeByte := by kernel_rfl
  neB5 := by decide }
open Go.RowKit in
/-- (*strings.Builder).String: "String returns the accumulated string.": WHATEVER THE BUILDER HOLDS. (LAID: no walk: one application.) -/
theorem Tryz.Builder_String_any (B b : Nat) (l : List UInt8) (w : World) (h : Lib.IsBuilder 59 5 B b (Lib.byteCells l) w) (hBw : B ≤ w.heap.size) :
    Calls Tryz.prog 29 #[.pointer (some ⟨b, 0, none⟩)] w fun e w' => e = .returned (.string ⟨l.toArray⟩) ∧ Below B w w' := Any.Builder_String_any Tryz.lays169 Tryz.Builder_Extra_169 B b l w h hBw
def Tryz.lays160_ren : Go.Shelf.Ren := ⟨fun | 160 => 47 | 232 => 65 | 231 => 64 | 227 => 60 | 234 => 67 | 233 => 66 | 236 => 69 | 235 => 68 | 228 => 61 | 271 => 91 | 151 => 90 | 197 => 89 | 120 => 108 | 152 => 58 | 260 => 107 | 137 => 83 | 119 => 84 | 224 => 75 | 225 => 74 | 217 => 73 | 266 => 97 | n => n, fun | 9 => 9 | 4 => 4 | 3 => 3 | 5 => 5 | 117 => 89 | 116 => 88 | 0 => 0 | 124 => 106 | 21 => 21 | 105 => 123 | 46 => 111 | 119 => 146 | 139 => 149 | 138 => 148 | n => n, fun | 3 => 17 | 4 => 18 | n => n⟩
theorem Tryz.lays160 : Go.Proofs.Lays.n160 Tryz.prog Tryz.lays160_ren := {
  mixed := by kernel_rfl
  f119 := Tryz.func84.trans (congrArg some (by kernel_rfl))
  f120 := Tryz.func108.trans (congrArg some (by kernel_rfl))
  f137 := Tryz.func83.trans (congrArg some (by kernel_rfl))
  f151 := Tryz.func90.trans (congrArg some (by kernel_rfl))
  f152 := Tryz.func58.trans (congrArg some (by kernel_rfl))
  f160 := Tryz.func47.trans (congrArg some (by kernel_rfl))
  f197 := Tryz.func89.trans (congrArg some (by kernel_rfl))
  f217 := Tryz.func73.trans (congrArg some (by kernel_rfl))
  f224 := Tryz.func75.trans (congrArg some (by kernel_rfl))
  f225 := Tryz.func74.trans (congrArg some (by kernel_rfl))
  f227 := Tryz.func60.trans (congrArg some (by kernel_rfl))
  f228 := Tryz.func61.trans (congrArg some (by kernel_rfl))
  f231 := Tryz.func64.trans (congrArg some (by kernel_rfl))
  f232 := Tryz.func65.trans (congrArg some (by kernel_rfl))
  f233 := Tryz.func66.trans (congrArg some (by kernel_rfl))
  f234 := Tryz.func67.trans (congrArg some (by kernel_rfl))
  f235 := Tryz.func68.trans (congrArg some (by kernel_rfl))
  f236 := Tryz.func69.trans (congrArg some (by kernel_rfl))
  f260 := Tryz.func107.trans (congrArg some (by kernel_rfl))
  f266 := Tryz.func97.trans (congrArg some (by kernel_rfl))
  f271 := Tryz.func91.trans (congrArg some (by kernel_rfl))
  t0 := Tryz.underlying0
  a0 := Tryz.isAgg0
  z0 := Tryz.sizeOf0
  v0 := Tryz.zeroValue0
  t3 := Tryz.underlying3
  a3 := Tryz.isAgg3
  z3 := Tryz.sizeOf3
  v3 := Tryz.zeroValue3
  t4 := Tryz.underlying4
  a4 := Tryz.isAgg4
  z4 := Tryz.sizeOf4
  v4 := Tryz.zeroValue4
  t5 := Tryz.underlying5
  a5 := Tryz.isAgg5
  z5 := Tryz.sizeOf5
  v5 := Tryz.zeroValue5
  t9 := Tryz.underlying9
  a9 := Tryz.isAgg9
  z9 := Tryz.sizeOf9
  v9 := Tryz.zeroValue9
  t21 := Tryz.underlying21
  a21 := Tryz.isAgg21
  z21 := Tryz.sizeOf21
  v21 := Tryz.zeroValue21
  t46 := Tryz.underlying111
  a46 := Tryz.isAgg111
  z46 := Tryz.sizeOf111
  v46 := Tryz.zeroValue111
  t105 := Tryz.underlying123
  a105 := Tryz.isAgg123
  z105 := Tryz.sizeOf123
  v105 := Tryz.zeroValue123
  t116 := Tryz.underlying88
  a116 := Tryz.isAgg88
  z116 := Tryz.sizeOf88
  t117 := Tryz.underlying89
  a117 := Tryz.isAgg89
  z117 := Tryz.sizeOf89
  v117 := Tryz.zeroValue89
  t119 := Tryz.underlying146
  a119 := Tryz.isAgg146
  z119 := Tryz.sizeOf146
  t124 := Tryz.underlying106
  a124 := Tryz.isAgg106
  z124 := Tryz.sizeOf106
  v124 := Tryz.zeroValue106
  t138 := Tryz.underlying148
  a138 := Tryz.isAgg148
  z138 := Tryz.sizeOf148
  v138 := Tryz.zeroValue148
  t139 := Tryz.underlying149
  a139 := Tryz.isAgg149
  z139 := Tryz.sizeOf149
  v139 := Tryz.zeroValue149
  g3 := by kernel_rfl
  g4 := by kernel_rfl }
open Go.RowKit in
/-- strings.Trim: "Trim returns a slice of the string s with all leading and trailing Unicode code points contained in cutset removed.": AT A cutset OF ONE ASCII BYTE. THE WORLD BEHIND IT: as it was, or (where s is not empty) with ONE DRAW MORE off the tape: the statement 'return trimLeftByte(trimRightByte(s, c), c)' draws its order of evaluation. (LAID: no walk: one application.) -/
theorem Tryz.strings_Trim_one (s : ByteArray) (c : UInt8) (hc : c.toNat < 128) (w : World) (hs : s.size ≤ 9223372036854775807) :
    Calls Tryz.prog 47 #[.string s, .string ⟨#[c]⟩] w fun e w' => e = .returned (.string ⟨(Lib.trimB s.data.toList c).toArray⟩) ∧ (w' = w ∨ w' = w.drew) := Any.strings_Trim_one Tryz.lays160 s c hc w hs
def Tryz.lays137_ren : Go.Shelf.Ren := ⟨fun | 137 => 83 | 217 => 73 | 266 => 97 | n => n, fun | 9 => 9 | 5 => 5 | 3 => 3 | n => n, fun | n => n⟩
theorem Tryz.lays137 : Go.Proofs.Lays.n137 Tryz.prog Tryz.lays137_ren := {
  mixed := by kernel_rfl
  f137 := Tryz.func83.trans (congrArg some (by kernel_rfl))
  f217 := Tryz.func73.trans (congrArg some (by kernel_rfl))
  f266 := Tryz.func97.trans (congrArg some (by kernel_rfl))
  t3 := Tryz.underlying3
  a3 := Tryz.isAgg3
  z3 := Tryz.sizeOf3
  v3 := Tryz.zeroValue3
  t5 := Tryz.underlying5
  a5 := Tryz.isAgg5
  z5 := Tryz.sizeOf5
  v5 := Tryz.zeroValue5
  t9 := Tryz.underlying9
  a9 := Tryz.isAgg9
  z9 := Tryz.sizeOf9
  v9 := Tryz.zeroValue9 }
open Go.RowKit in
/-- strings.IndexByte: "IndexByte returns the index of the first instance of c in s, or -1 if c is not present in s.": IT RETURNS 'Lib.indexByte s c'; the world is as it was. (LAID: no walk: one application.) -/
theorem Tryz.strings_IndexByte (s : ByteArray) (c : Int) (w : World) :
    Calls Tryz.prog 83 #[.string s, .int .u8 c] w fun e w' => e = .returned (.int .i64 (Lib.indexByte s.data.toList c.toNat.toUInt8)) ∧ w' = w := Any.strings_IndexByte Tryz.lays137 s c w
def Tryz.lays103_ren : Go.Shelf.Ren := ⟨fun | 103 => 55 | 210 => 82 | 206 => 101 | n => n, fun | 9 => 9 | 4 => 4 | 24 => 43 | 3 => 3 | n => n, fun | n => n⟩
theorem Tryz.lays103 : Go.Proofs.Lays.n103 Tryz.prog Tryz.lays103_ren := {
  mixed := by kernel_rfl
  f103 := Tryz.func55.trans (congrArg some (by kernel_rfl))
  f206 := Tryz.func101.trans (congrArg some (by kernel_rfl))
  f210 := Tryz.func82.trans (congrArg some (by kernel_rfl))
  t3 := Tryz.underlying3
  a3 := Tryz.isAgg3
  z3 := Tryz.sizeOf3
  v3 := Tryz.zeroValue3
  t4 := Tryz.underlying4
  a4 := Tryz.isAgg4
  z4 := Tryz.sizeOf4
  v4 := Tryz.zeroValue4
  t9 := Tryz.underlying9
  a9 := Tryz.isAgg9
  z9 := Tryz.sizeOf9
  v9 := Tryz.zeroValue9
  t24 := Tryz.underlying43
  a24 := Tryz.isAgg43
  z24 := Tryz.sizeOf43
  v24 := Tryz.zeroValue43 }
open Go.RowKit in
/-- strings.CutPrefix: "CutPrefix returns s without the provided leading prefix string and reports whether it found the prefix. If s doesn't start with prefix, CutPrefix returns s, false. If prefix is the empty string, CutPrefix returns s, true.": IT RETURNS '(Lib.trimPrefix s p, Lib.hasPrefix s p)'; the world is as it was. (LAID: no walk: one application.) -/
theorem Tryz.strings_CutPrefix (s p : ByteArray) (w : World) :
    Calls Tryz.prog 55 #[.string s, .string p] w fun e w' => e = .returned (.tuple #[.string ⟨(Lib.trimPrefix s.data.toList p.data.toList).toArray⟩, .bool (Lib.hasPrefix s.data.toList p.data.toList)]) ∧ w' = w := Any.strings_CutPrefix Tryz.lays103 s p w
def Tryz.lays172_ren : Go.Shelf.Ren := ⟨fun | 172 => 48 | 244 => 70 | 245 => 71 | 247 => 92 | 279 => 93 | 280 => 94 | 281 => 95 | 282 => 96 | 287 => 109 | 316 => 110 | 171 => 28 | 205 => 111 | 321 => 117 | 322 => 118 | 243 => 44 | 246 => 63 | 283 => 85 | 284 => 86 | 285 => 87 | 286 => 88 | 129 => 103 | 317 => 102 | 318 => 104 | 319 => 105 | 320 => 106 | 337 => 115 | 338 => 116 | n => n, fun | 9 => 9 | 3 => 3 | 75 => 35 | 76 => 60 | 4 => 4 | 5 => 5 | 167 => 126 | 37 => 57 | 0 => 0 | 85 => 127 | 2 => 2 | 168 => 129 | 53 => 118 | 175 => 140 | 46 => 111 | 210 => 143 | 127 => 75 | 145 => 153 | 143 => 151 | 21 => 21 | 171 => 117 | 173 => 121 | 212 => 137 | 51 => 132 | 20 => 20 | 213 => 138 | 232 => 154 | 233 => 155 | 80 => 63 | n => n, fun | 15 => 15 | 16 => 16 | 17 => 14 | 18 => 19 | 19 => 20 | n => n⟩
theorem Tryz.lays172 : Go.Proofs.Lays.n172 Tryz.prog Tryz.lays172_ren := {
  mixed := by kernel_rfl
  f129 := Tryz.func103.trans (congrArg some (by kernel_rfl))
  f171 := Tryz.func28.trans (congrArg some (by kernel_rfl))
  f172 := Tryz.func48.trans (congrArg some (by kernel_rfl))
  f205 := Tryz.func111.trans (congrArg some (by kernel_rfl))
  f243 := Tryz.func44.trans (congrArg some (by kernel_rfl))
  f244 := Tryz.func70.trans (congrArg some (by kernel_rfl))
  f245 := Tryz.func71.trans (congrArg some (by kernel_rfl))
  f246 := Tryz.func63.trans (congrArg some (by kernel_rfl))
  f247 := Tryz.func92.trans (congrArg some (by kernel_rfl))
  f279 := Tryz.func93.trans (congrArg some (by kernel_rfl))
  f280 := Tryz.func94.trans (congrArg some (by kernel_rfl))
  f281 := Tryz.func95.trans (congrArg some (by kernel_rfl))
  f282 := Tryz.func96.trans (congrArg some (by kernel_rfl))
  f283 := Tryz.func85.trans (congrArg some (by kernel_rfl))
  f284 := Tryz.func86.trans (congrArg some (by kernel_rfl))
  f285 := Tryz.func87.trans (congrArg some (by kernel_rfl))
  f286 := Tryz.func88.trans (congrArg some (by kernel_rfl))
  f287 := Tryz.func109.trans (congrArg some (by kernel_rfl))
  f316 := Tryz.func110.trans (congrArg some (by kernel_rfl))
  f317 := Tryz.func102.trans (congrArg some (by kernel_rfl))
  f318 := Tryz.func104.trans (congrArg some (by kernel_rfl))
  f319 := Tryz.func105.trans (congrArg some (by kernel_rfl))
  f320 := Tryz.func106.trans (congrArg some (by kernel_rfl))
  f321 := Tryz.func117.trans (congrArg some (by kernel_rfl))
  f322 := Tryz.func118.trans (congrArg some (by kernel_rfl))
  f337 := Tryz.func115.trans (congrArg some (by kernel_rfl))
  f338 := Tryz.func116.trans (congrArg some (by kernel_rfl))
  t0 := Tryz.underlying0
  a0 := Tryz.isAgg0
  z0 := Tryz.sizeOf0
  v0 := Tryz.zeroValue0
  t2 := Tryz.underlying2
  a2 := Tryz.isAgg2
  z2 := Tryz.sizeOf2
  v2 := Tryz.zeroValue2
  t3 := Tryz.underlying3
  a3 := Tryz.isAgg3
  z3 := Tryz.sizeOf3
  v3 := Tryz.zeroValue3
  t4 := Tryz.underlying4
  a4 := Tryz.isAgg4
  z4 := Tryz.sizeOf4
  v4 := Tryz.zeroValue4
  t5 := Tryz.underlying5
  a5 := Tryz.isAgg5
  z5 := Tryz.sizeOf5
  v5 := Tryz.zeroValue5
  t9 := Tryz.underlying9
  a9 := Tryz.isAgg9
  z9 := Tryz.sizeOf9
  v9 := Tryz.zeroValue9
  t20 := Tryz.underlying20
  a20 := Tryz.isAgg20
  z20 := Tryz.sizeOf20
  v20 := Tryz.zeroValue20
  t21 := Tryz.underlying21
  a21 := Tryz.isAgg21
  z21 := Tryz.sizeOf21
  v21 := Tryz.zeroValue21
  t37 := Tryz.underlying57
  a37 := Tryz.isAgg57
  z37 := Tryz.sizeOf57
  v37 := Tryz.zeroValue57
  t46 := Tryz.underlying111
  a46 := Tryz.isAgg111
  z46 := Tryz.sizeOf111
  v46 := Tryz.zeroValue111
  t51 := Tryz.underlying132
  a51 := Tryz.isAgg132
  z51 := Tryz.sizeOf132
  v51 := Tryz.zeroValue132
  t53 := Tryz.underlying118
  a53 := Tryz.isAgg118
  z53 := Tryz.sizeOf118
  v53 := Tryz.zeroValue118
  t75 := Tryz.underlying35
  a75 := Tryz.isAgg35
  z75 := Tryz.sizeOf35
  v75 := Tryz.zeroValue35
  t76 := Tryz.underlying60
  a76 := Tryz.isAgg60
  z76 := Tryz.sizeOf60
  v76 := Tryz.zeroValue60
  t85 := Tryz.underlying127
  a85 := Tryz.isAgg127
  z85 := Tryz.sizeOf127
  v85 := Tryz.zeroValue127
  t127 := Tryz.underlying75
  a127 := Tryz.isAgg75
  z127 := Tryz.sizeOf75
  v127 := Tryz.zeroValue75
  t143 := Tryz.underlying151
  a143 := Tryz.isAgg151
  z143 := Tryz.sizeOf151
  v143 := Tryz.zeroValue151
  t145 := Tryz.underlying153
  a145 := Tryz.isAgg153
  z145 := Tryz.sizeOf153
  v145 := Tryz.zeroValue153
  t167 := Tryz.underlying126
  a167 := Tryz.isAgg126
  z167 := Tryz.sizeOf126
  v167 := Tryz.zeroValue126
  t168 := Tryz.underlying129
  a168 := Tryz.isAgg129
  z168 := Tryz.sizeOf129
  v168 := Tryz.zeroValue129
  t171 := Tryz.underlying117
  a171 := Tryz.isAgg117
  z171 := Tryz.sizeOf117
  v171 := Tryz.zeroValue117
  t173 := Tryz.underlying121
  a173 := Tryz.isAgg121
  z173 := Tryz.sizeOf121
  v173 := Tryz.zeroValue121
  t175 := Tryz.underlying140
  a175 := Tryz.isAgg140
  z175 := Tryz.sizeOf140
  v175 := Tryz.zeroValue140
  t210 := Tryz.underlying143
  a210 := Tryz.isAgg143
  z210 := Tryz.sizeOf143
  v210 := Tryz.zeroValue143
  t212 := Tryz.underlying137
  a212 := Tryz.isAgg137
  z212 := Tryz.sizeOf137
  v212 := Tryz.zeroValue137
  t213 := Tryz.underlying138
  a213 := Tryz.isAgg138
  z213 := Tryz.sizeOf138
  t232 := Tryz.underlying154
  a232 := Tryz.isAgg154
  z232 := Tryz.sizeOf154
  v232 := Tryz.zeroValue154
  t233 := Tryz.underlying155
  a233 := Tryz.isAgg155
  z233 := Tryz.sizeOf155
  v233 := Tryz.zeroValue155
  g15 := by kernel_rfl
  g16 := by kernel_rfl
  g17 := by kernel_rfl
  g18 := by kernel_rfl
  g19 := by kernel_rfl }
open Go.RowKit in
/-- strconv.Atoi: "Atoi is equivalent to ParseInt(s, 10, 0), converted to type int.": AT A DECIMAL NUMERAL OF AT MOST 18 BYTES: its value, and a nil error. The world behind the call: the one new row that the library's '[]byte(s)' lays. (LAID: no walk: one application.) -/
theorem Tryz.strconv_Atoi (s : ByteArray) (n : Int) (hl : s.size ≤ 18) (h : Lib.atoi s.data.toList = some n) (w : World) :
    Calls Tryz.prog 48 #[.string s] w fun e w' => e = .returned (.tuple #[.int .i64 n, .nilIface]) ∧ ∃ t, w' = Lib.bytesWorld w 5 t := Any.strconv_Atoi Tryz.lays172 s n hl h w
def Tryz.laysM171_ren : Go.Shelf.Ren := ⟨fun | 171 => 28 | 243 => 44 | 246 => 63 | 283 => 85 | 284 => 86 | 285 => 87 | 286 => 88 | 129 => 103 | 317 => 102 | 318 => 104 | 319 => 105 | 320 => 106 | 337 => 115 | 338 => 116 | n => n, fun | 3 => 3 | 9 => 9 | 2 => 2 | 4 => 4 | 171 => 117 | 0 => 0 | 53 => 118 | 37 => 57 | 5 => 5 | 173 => 121 | 212 => 137 | 51 => 132 | 20 => 20 | 213 => 138 | 46 => 111 | 232 => 154 | 233 => 155 | n => n, fun | 17 => 14 | 18 => 19 | 19 => 20 | n => n⟩
theorem Tryz.laysM171 : Go.Proofs.LaysM.n171 Tryz.prog Tryz.laysM171_ren := {
  mixed := by kernel_rfl
  f129 := Tryz.func103.trans (congrArg some (by kernel_rfl))
  f171 := Tryz.func28.trans (congrArg some (by kernel_rfl))
  f243 := Tryz.func44.trans (congrArg some (by kernel_rfl))
  f246 := Tryz.func63.trans (congrArg some (by kernel_rfl))
  f283 := Tryz.func85.trans (congrArg some (by kernel_rfl))
  f284 := Tryz.func86.trans (congrArg some (by kernel_rfl))
  f285 := Tryz.func87.trans (congrArg some (by kernel_rfl))
  f286 := Tryz.func88.trans (congrArg some (by kernel_rfl))
  f317 := Tryz.func102.trans (congrArg some (by kernel_rfl))
  f318 := Tryz.func104.trans (congrArg some (by kernel_rfl))
  f319 := Tryz.func105.trans (congrArg some (by kernel_rfl))
  f320 := Tryz.func106.trans (congrArg some (by kernel_rfl))
  f337 := Tryz.func115.trans (congrArg some (by kernel_rfl))
  f338 := Tryz.func116.trans (congrArg some (by kernel_rfl))
  t0 := Tryz.underlying0
  a0 := Tryz.isAgg0
  z0 := Tryz.sizeOf0
  v0 := Tryz.zeroValue0
  t2 := Tryz.underlying2
  a2 := Tryz.isAgg2
  z2 := Tryz.sizeOf2
  v2 := Tryz.zeroValue2
  t3 := Tryz.underlying3
  a3 := Tryz.isAgg3
  z3 := Tryz.sizeOf3
  v3 := Tryz.zeroValue3
  t4 := Tryz.underlying4
  a4 := Tryz.isAgg4
  z4 := Tryz.sizeOf4
  v4 := Tryz.zeroValue4
  t5 := Tryz.underlying5
  a5 := Tryz.isAgg5
  z5 := Tryz.sizeOf5
  v5 := Tryz.zeroValue5
  t9 := Tryz.underlying9
  a9 := Tryz.isAgg9
  z9 := Tryz.sizeOf9
  v9 := Tryz.zeroValue9
  t20 := Tryz.underlying20
  a20 := Tryz.isAgg20
  z20 := Tryz.sizeOf20
  v20 := Tryz.zeroValue20
  t37 := Tryz.underlying57
  a37 := Tryz.isAgg57
  z37 := Tryz.sizeOf57
  v37 := Tryz.zeroValue57
  t46 := Tryz.underlying111
  a46 := Tryz.isAgg111
  z46 := Tryz.sizeOf111
  v46 := Tryz.zeroValue111
  t51 := Tryz.underlying132
  a51 := Tryz.isAgg132
  z51 := Tryz.sizeOf132
  v51 := Tryz.zeroValue132
  t53 := Tryz.underlying118
  a53 := Tryz.isAgg118
  z53 := Tryz.sizeOf118
  v53 := Tryz.zeroValue118
  t171 := Tryz.underlying117
  a171 := Tryz.isAgg117
  z171 := Tryz.sizeOf117
  v171 := Tryz.zeroValue117
  t173 := Tryz.underlying121
  a173 := Tryz.isAgg121
  z173 := Tryz.sizeOf121
  v173 := Tryz.zeroValue121
  t212 := Tryz.underlying137
  a212 := Tryz.isAgg137
  z212 := Tryz.sizeOf137
  v212 := Tryz.zeroValue137
  t213 := Tryz.underlying138
  a213 := Tryz.isAgg138
  z213 := Tryz.sizeOf138
  t232 := Tryz.underlying154
  a232 := Tryz.isAgg154
  z232 := Tryz.sizeOf154
  v232 := Tryz.zeroValue154
  t233 := Tryz.underlying155
  a233 := Tryz.isAgg155
  z233 := Tryz.sizeOf155
  v233 := Tryz.zeroValue155
  g17 := by kernel_rfl
  g18 := by kernel_rfl
  g19 := by kernel_rfl
  i0 := by kernel_rfl
  i2 := by kernel_rfl
  i3 := by kernel_rfl
  i4 := by kernel_rfl
  i5 := by kernel_rfl
  i9 := by kernel_rfl
  i20 := by kernel_rfl
  i37 := by kernel_rfl
  i46 := by kernel_rfl
  i51 := by kernel_rfl
  i53 := by kernel_rfl
  i171 := by kernel_rfl
  i173 := by kernel_rfl
  i212 := by kernel_rfl
  i232 := by kernel_rfl
  i233 := by kernel_rfl
  m17 := by kernel_rfl
  m18 := by kernel_rfl
  m19 := by kernel_rfl }
open Go.RowKit Go.Sort Go.Lib in
/-- strconv.Itoa: "Itoa is equivalent to FormatInt(int64(i), 10).": i's DECIMAL NUMERAL ('Lib.itoa': a '-' where i is negative, then the digits), FOR EVERY int. The world behind the call: the world before it, new blocks behind the heap (the library's 'var a [24]byte'), draws. (LAID: no walk: one application.) -/
theorem Tryz.strconv_Itoa (n : Int) (h0 : -9223372036854775808 ≤ n) (h1 : n ≤ 9223372036854775807) (w : World) (htab : Lib.TabIs Tryz.prog w "internal/strconv.uint64pow10" .u64 Lib.pow10Tab) :
    Calls Tryz.prog 28 #[.int .i64 n] w fun e w' => e = .returned (.string ⟨(Lib.itoa n).toArray⟩) ∧ ∃ k os, w' = grow (w.drewN k) os := Any.strconv_Itoa Tryz.laysM171 n h0 h1 w htab
def Tryz.lays171_ren : Go.Shelf.Ren := ⟨fun | 171 => 28 | 243 => 44 | 246 => 63 | 283 => 85 | 284 => 86 | 285 => 87 | 286 => 88 | 129 => 103 | 317 => 102 | 318 => 104 | 319 => 105 | 320 => 106 | 337 => 115 | 338 => 116 | n => n, fun | 3 => 3 | 9 => 9 | 2 => 2 | 4 => 4 | 171 => 117 | 0 => 0 | 53 => 118 | 37 => 57 | 5 => 5 | 173 => 121 | 212 => 137 | 51 => 132 | 20 => 20 | 213 => 138 | 46 => 111 | 232 => 154 | 233 => 155 | n => n, fun | 17 => 14 | 18 => 19 | 19 => 20 | n => n⟩
theorem Tryz.lays171 : Go.Proofs.Lays.n171 Tryz.prog Tryz.lays171_ren := {
  mixed := by kernel_rfl
  f129 := Tryz.func103.trans (congrArg some (by kernel_rfl))
  f171 := Tryz.func28.trans (congrArg some (by kernel_rfl))
  f243 := Tryz.func44.trans (congrArg some (by kernel_rfl))
  f246 := Tryz.func63.trans (congrArg some (by kernel_rfl))
  f283 := Tryz.func85.trans (congrArg some (by kernel_rfl))
  f284 := Tryz.func86.trans (congrArg some (by kernel_rfl))
  f285 := Tryz.func87.trans (congrArg some (by kernel_rfl))
  f286 := Tryz.func88.trans (congrArg some (by kernel_rfl))
  f317 := Tryz.func102.trans (congrArg some (by kernel_rfl))
  f318 := Tryz.func104.trans (congrArg some (by kernel_rfl))
  f319 := Tryz.func105.trans (congrArg some (by kernel_rfl))
  f320 := Tryz.func106.trans (congrArg some (by kernel_rfl))
  f337 := Tryz.func115.trans (congrArg some (by kernel_rfl))
  f338 := Tryz.func116.trans (congrArg some (by kernel_rfl))
  t0 := Tryz.underlying0
  a0 := Tryz.isAgg0
  z0 := Tryz.sizeOf0
  v0 := Tryz.zeroValue0
  t2 := Tryz.underlying2
  a2 := Tryz.isAgg2
  z2 := Tryz.sizeOf2
  v2 := Tryz.zeroValue2
  t3 := Tryz.underlying3
  a3 := Tryz.isAgg3
  z3 := Tryz.sizeOf3
  v3 := Tryz.zeroValue3
  t4 := Tryz.underlying4
  a4 := Tryz.isAgg4
  z4 := Tryz.sizeOf4
  v4 := Tryz.zeroValue4
  t5 := Tryz.underlying5
  a5 := Tryz.isAgg5
  z5 := Tryz.sizeOf5
  v5 := Tryz.zeroValue5
  t9 := Tryz.underlying9
  a9 := Tryz.isAgg9
  z9 := Tryz.sizeOf9
  v9 := Tryz.zeroValue9
  t20 := Tryz.underlying20
  a20 := Tryz.isAgg20
  z20 := Tryz.sizeOf20
  v20 := Tryz.zeroValue20
  t37 := Tryz.underlying57
  a37 := Tryz.isAgg57
  z37 := Tryz.sizeOf57
  v37 := Tryz.zeroValue57
  t46 := Tryz.underlying111
  a46 := Tryz.isAgg111
  z46 := Tryz.sizeOf111
  v46 := Tryz.zeroValue111
  t51 := Tryz.underlying132
  a51 := Tryz.isAgg132
  z51 := Tryz.sizeOf132
  v51 := Tryz.zeroValue132
  t53 := Tryz.underlying118
  a53 := Tryz.isAgg118
  z53 := Tryz.sizeOf118
  v53 := Tryz.zeroValue118
  t171 := Tryz.underlying117
  a171 := Tryz.isAgg117
  z171 := Tryz.sizeOf117
  v171 := Tryz.zeroValue117
  t173 := Tryz.underlying121
  a173 := Tryz.isAgg121
  z173 := Tryz.sizeOf121
  v173 := Tryz.zeroValue121
  t212 := Tryz.underlying137
  a212 := Tryz.isAgg137
  z212 := Tryz.sizeOf137
  v212 := Tryz.zeroValue137
  t213 := Tryz.underlying138
  a213 := Tryz.isAgg138
  z213 := Tryz.sizeOf138
  t232 := Tryz.underlying154
  a232 := Tryz.isAgg154
  z232 := Tryz.sizeOf154
  v232 := Tryz.zeroValue154
  t233 := Tryz.underlying155
  a233 := Tryz.isAgg155
  z233 := Tryz.sizeOf155
  v233 := Tryz.zeroValue155
  g17 := by kernel_rfl
  g18 := by kernel_rfl
  g19 := by kernel_rfl }
open Go.RowKit Go.Sort Go.Lib in
/-- THE ROAD WITHOUT THE TABLE: 0 <= i < 100: NO PREMISE ON THE WORLD, AND THE WORLD IS AS IT WAS: a row that keeps its argument in that range need list no table ('laid = []'). (LAID: no walk: one application.) -/
theorem Tryz.strconv_Itoa_small (i : Nat) (hi : i < 100) (w : World) :
    Calls Tryz.prog 28 #[.int .i64 i] w fun e w' => e = .returned (.string ⟨(Lib.decDigits i).toArray⟩) ∧ w' = w := Any.strconv_Itoa_small Tryz.lays171 i hi w
def Tryz.lays219_ren : Go.Shelf.Ren := ⟨fun | 219 => 50 | 217 => 73 | 225 => 74 | 224 => 75 | 267 => 76 | 266 => 97 | 314 => 98 | n => n, fun | 9 => 9 | 3 => 3 | 4 => 4 | 5 => 5 | 46 => 111 | 146 => 133 | 51 => 132 | n => n, fun | 1 => 13 | n => n⟩
theorem Tryz.lays219 : Go.Proofs.Lays.n219 Tryz.prog Tryz.lays219_ren := {
  mixed := by kernel_rfl
  f217 := Tryz.func73.trans (congrArg some (by kernel_rfl))
  f219 := Tryz.func50.trans (congrArg some (by kernel_rfl))
  f224 := Tryz.func75.trans (congrArg some (by kernel_rfl))
  f225 := Tryz.func74.trans (congrArg some (by kernel_rfl))
  f266 := Tryz.func97.trans (congrArg some (by kernel_rfl))
  f267 := Tryz.func76.trans (congrArg some (by kernel_rfl))
  f314 := Tryz.func98.trans (congrArg some (by kernel_rfl))
  t3 := Tryz.underlying3
  a3 := Tryz.isAgg3
  z3 := Tryz.sizeOf3
  v3 := Tryz.zeroValue3
  t4 := Tryz.underlying4
  a4 := Tryz.isAgg4
  z4 := Tryz.sizeOf4
  v4 := Tryz.zeroValue4
  t5 := Tryz.underlying5
  a5 := Tryz.isAgg5
  z5 := Tryz.sizeOf5
  v5 := Tryz.zeroValue5
  t9 := Tryz.underlying9
  a9 := Tryz.isAgg9
  z9 := Tryz.sizeOf9
  v9 := Tryz.zeroValue9
  t46 := Tryz.underlying111
  a46 := Tryz.isAgg111
  z46 := Tryz.sizeOf111
  v46 := Tryz.zeroValue111
  t51 := Tryz.underlying132
  a51 := Tryz.isAgg132
  z51 := Tryz.sizeOf132
  v51 := Tryz.zeroValue132
  t146 := Tryz.underlying133
  a146 := Tryz.isAgg133
  z146 := Tryz.sizeOf133
  v146 := Tryz.zeroValue133
  g1 := by kernel_rfl }
open Go.RowKit Go.Lib in
/-- internal/stringslite.Index (what strings.Index calls) AT A substr OF ONE BYTE c: IT RETURNS 'Lib.indexByte s c'; the world is as it was. (LAID: no walk: one application.) -/
theorem Tryz.stringslite_Index_one (s : ByteArray) (c : UInt8) (w : World) :
    Calls Tryz.prog 50 #[.string s, .string ⟨#[c]⟩] w fun e w' => e = .returned (.int .i64 (Lib.indexByte s.data.toList c)) ∧ w' = w := Any.stringslite_Index_one Tryz.lays219 s c w
def Tryz.lays143_ren : Go.Shelf.Ren := ⟨fun | 143 => 113 | 219 => 50 | 217 => 73 | 225 => 74 | 224 => 75 | 267 => 76 | 266 => 97 | 314 => 98 | n => n, fun | 9 => 9 | 3 => 3 | 4 => 4 | 5 => 5 | 46 => 111 | 146 => 133 | 51 => 132 | n => n, fun | 1 => 13 | n => n⟩
theorem Tryz.lays143 : Go.Proofs.Lays.n143 Tryz.prog Tryz.lays143_ren := {
  mixed := by kernel_rfl
  f143 := Tryz.func113.trans (congrArg some (by kernel_rfl))
  f217 := Tryz.func73.trans (congrArg some (by kernel_rfl))
  f219 := Tryz.func50.trans (congrArg some (by kernel_rfl))
  f224 := Tryz.func75.trans (congrArg some (by kernel_rfl))
  f225 := Tryz.func74.trans (congrArg some (by kernel_rfl))
  f266 := Tryz.func97.trans (congrArg some (by kernel_rfl))
  f267 := Tryz.func76.trans (congrArg some (by kernel_rfl))
  f314 := Tryz.func98.trans (congrArg some (by kernel_rfl))
  t3 := Tryz.underlying3
  a3 := Tryz.isAgg3
  z3 := Tryz.sizeOf3
  v3 := Tryz.zeroValue3
  t4 := Tryz.underlying4
  a4 := Tryz.isAgg4
  z4 := Tryz.sizeOf4
  v4 := Tryz.zeroValue4
  t5 := Tryz.underlying5
  a5 := Tryz.isAgg5
  z5 := Tryz.sizeOf5
  v5 := Tryz.zeroValue5
  t9 := Tryz.underlying9
  a9 := Tryz.isAgg9
  z9 := Tryz.sizeOf9
  v9 := Tryz.zeroValue9
  t46 := Tryz.underlying111
  a46 := Tryz.isAgg111
  z46 := Tryz.sizeOf111
  v46 := Tryz.zeroValue111
  t51 := Tryz.underlying132
  a51 := Tryz.isAgg132
  z51 := Tryz.sizeOf132
  v51 := Tryz.zeroValue132
  t146 := Tryz.underlying133
  a146 := Tryz.isAgg133
  z146 := Tryz.sizeOf133
  v146 := Tryz.zeroValue133
  g1 := by kernel_rfl }
open Go.RowKit Go.Lib in
/-- strings.Index: "Index returns the index of the first instance of substr in s, or -1 if substr is not present in s.": AT A substr OF ONE BYTE c: IT RETURNS 'Lib.indexByte s c'; the world is as it was. (LAID: no walk: one application.) -/
theorem Tryz.strings_Index_one (s : ByteArray) (c : UInt8) (w : World) :
    Calls Tryz.prog 113 #[.string s, .string ⟨#[c]⟩] w fun e w' => e = .returned (.int .i64 (Lib.indexByte s.data.toList c)) ∧ w' = w := Any.strings_Index_one Tryz.lays143 s c w
def Tryz.lays206_ren : Go.Shelf.Ren := ⟨fun | 206 => 101 | n => n, fun | 9 => 9 | 4 => 4 | 3 => 3 | n => n, fun | n => n⟩
theorem Tryz.lays206 : Go.Proofs.Lays.n206 Tryz.prog Tryz.lays206_ren := {
  mixed := by kernel_rfl
  f206 := Tryz.func101.trans (congrArg some (by kernel_rfl))
  t3 := Tryz.underlying3
  a3 := Tryz.isAgg3
  z3 := Tryz.sizeOf3
  v3 := Tryz.zeroValue3
  t4 := Tryz.underlying4
  a4 := Tryz.isAgg4
  z4 := Tryz.sizeOf4
  v4 := Tryz.zeroValue4
  t9 := Tryz.underlying9
  a9 := Tryz.isAgg9
  z9 := Tryz.sizeOf9
  v9 := Tryz.zeroValue9 }
open Go.RowKit Go.Lib in
/-- internal/stringslite.HasPrefix (what strings.HasPrefix calls). (LAID: no walk: one application.) -/
theorem Tryz.stringslite_HasPrefix (s p : ByteArray) (w : World) :
    Calls Tryz.prog 101 #[.string s, .string p] w fun e w' => e = .returned (.bool (Lib.hasPrefix s.data.toList p.data.toList)) ∧ w' = w := Any.stringslite_HasPrefix Tryz.lays206 s p w
def Tryz.lays150_ren : Go.Shelf.Ren := ⟨fun | 150 => 26 | 153 => 42 | 152 => 58 | 226 => 59 | 227 => 60 | 228 => 61 | 137 => 83 | 119 => 84 | 224 => 75 | 225 => 74 | 217 => 73 | 266 => 97 | n => n, fun | 9 => 9 | 4 => 4 | 3 => 3 | 5 => 5 | 21 => 21 | 117 => 89 | 116 => 88 | 0 => 0 | 46 => 111 | 124 => 106 | n => n, fun | n => n⟩
theorem Tryz.lays150 : Go.Proofs.Lays.n150 Tryz.prog Tryz.lays150_ren := {
  mixed := by kernel_rfl
  f119 := Tryz.func84.trans (congrArg some (by kernel_rfl))
  f137 := Tryz.func83.trans (congrArg some (by kernel_rfl))
  f150 := Tryz.func26.trans (congrArg some (by kernel_rfl))
  f152 := Tryz.func58.trans (congrArg some (by kernel_rfl))
  f153 := Tryz.func42.trans (congrArg some (by kernel_rfl))
  f217 := Tryz.func73.trans (congrArg some (by kernel_rfl))
  f224 := Tryz.func75.trans (congrArg some (by kernel_rfl))
  f225 := Tryz.func74.trans (congrArg some (by kernel_rfl))
  f226 := Tryz.func59.trans (congrArg some (by kernel_rfl))
  f227 := Tryz.func60.trans (congrArg some (by kernel_rfl))
  f228 := Tryz.func61.trans (congrArg some (by kernel_rfl))
  f266 := Tryz.func97.trans (congrArg some (by kernel_rfl))
  t0 := Tryz.underlying0
  a0 := Tryz.isAgg0
  z0 := Tryz.sizeOf0
  v0 := Tryz.zeroValue0
  t3 := Tryz.underlying3
  a3 := Tryz.isAgg3
  z3 := Tryz.sizeOf3
  v3 := Tryz.zeroValue3
  t4 := Tryz.underlying4
  a4 := Tryz.isAgg4
  z4 := Tryz.sizeOf4
  v4 := Tryz.zeroValue4
  t5 := Tryz.underlying5
  a5 := Tryz.isAgg5
  z5 := Tryz.sizeOf5
  v5 := Tryz.zeroValue5
  t9 := Tryz.underlying9
  a9 := Tryz.isAgg9
  z9 := Tryz.sizeOf9
  v9 := Tryz.zeroValue9
  t21 := Tryz.underlying21
  a21 := Tryz.isAgg21
  z21 := Tryz.sizeOf21
  v21 := Tryz.zeroValue21
  t46 := Tryz.underlying111
  a46 := Tryz.isAgg111
  z46 := Tryz.sizeOf111
  v46 := Tryz.zeroValue111
  t116 := Tryz.underlying88
  a116 := Tryz.isAgg88
  z116 := Tryz.sizeOf88
  t117 := Tryz.underlying89
  a117 := Tryz.isAgg89
  z117 := Tryz.sizeOf89
  v117 := Tryz.zeroValue89
  t124 := Tryz.underlying106
  a124 := Tryz.isAgg106
  z124 := Tryz.sizeOf106
  v124 := Tryz.zeroValue106 }
open Go.RowKit Go.Lib in
theorem Tryz.strings_ContainsAny_laid (s chars : ByteArray) (w : World) (hs : s.size < 4294967281) (hcs : chars.size < 4294967281) (has : ∀ (j : Nat) b, s.data.toList[j]? = some b → b.toNat < 128) (hac : ∀ (j : Nat) b, chars.data.toList[j]? = some b → b.toNat < 128) :
    Calls Tryz.prog 26 #[.string s, .string chars] w fun e w' => e = .returned (.bool (Lib.containsAny s.data.toList chars.data.toList)) ∧ Below w.heap.size w w' := Any.strings_ContainsAny_laid Tryz.lays150 (by kernel_rfl) s chars w hs hcs has hac
def Tryz.lays110_ren : Go.Shelf.Ren := ⟨fun | 110 => 17 | 109 => 36 | n => n, fun | 31 => 33 | 9 => 9 | 4 => 4 | 3 => 3 | 0 => 0 | n => n, fun | n => n⟩
theorem Tryz.lays110 : Go.Proofs.Lays.n110 Tryz.prog Tryz.lays110_ren := {
  mixed := by kernel_rfl
  f109 := Tryz.func36.trans (congrArg some (by kernel_rfl))
  f110 := Tryz.func17.trans (congrArg some (by kernel_rfl))
  t0 := Tryz.underlying0
  a0 := Tryz.isAgg0
  z0 := Tryz.sizeOf0
  v0 := Tryz.zeroValue0
  t3 := Tryz.underlying3
  a3 := Tryz.isAgg3
  z3 := Tryz.sizeOf3
  v3 := Tryz.zeroValue3
  t4 := Tryz.underlying4
  a4 := Tryz.isAgg4
  z4 := Tryz.sizeOf4
  v4 := Tryz.zeroValue4
  t9 := Tryz.underlying9
  a9 := Tryz.isAgg9
  z9 := Tryz.sizeOf9
  v9 := Tryz.zeroValue9
  t31 := Tryz.underlying33
  a31 := Tryz.isAgg33
  z31 := Tryz.sizeOf33
  v31 := Tryz.zeroValue33 }
open Go.Lib in
/-- slices.Contains at []string: "Contains reports whether v is present in s.": IT RETURNS 'Lib.containsS (the elements) v', which is true just where v is among them ('Lib.containsS_iff'); the world is as it was. ITS CALLEE slices.Index IS MET BY ITS OWN CONTRACT OFF THE SHELF (lay that first): no loop is walked here. (LAID: no walk: one application.) -/
theorem Tryz.slices_Contains_string (b off n c : Nat) (zs : List ByteArray) (x : ByteArray) (w : World) (hz : n ≤ zs.length) (hbig : n ≤ 9223372036854775807) (hc : ∀ j, j < zs.length → w.cell? ⟨b, off + j, none⟩ = some (.string (zs.getD j ByteArray.empty))) :
    Calls Tryz.prog 17 #[.slice (some ⟨b, off, none⟩) n c, .string x] w fun e w' => e = .returned (.bool (Lib.containsS (zs.take n) x)) ∧ w' = w := Any.slices_Contains_string Tryz.lays110 b off n c zs x w hz hbig hc
end Go.Proofs
/- smtp.large: a text with capital letters. -/
namespace Go.Proofs.YtjggdkcfpdhoaaaGreatDoor.Large
open Go Go.RowKit Go.Proofs.YtjggdkcfpdhoaaaGreatDoorW.PrintWords Go.Proofs.YtjggdkcfpdhoaaaGreatDoorW.SRows
set_option linter.unusedVariables false
set_option linter.unusedSimpArgs false
def upI (c : Int) : Int := if 97 ≤ c ∧ c ≤ 122 then c - 97 + 65 else c
/-- A text with capital letters for small ones. -/
def largeB (s : ByteArray) : ByteArray := strOfNums ((bytesOf s).map upI)
theorem up_step (xs : List Int) (k : Nat) (hk : k < xs.length) : ((xs.take k).map upI ++ xs.drop k).set k (upI (xs.getD k 0)) = (xs.take (k + 1)).map upI ++ xs.drop (k + 1) := by
  rw [List.take_add_one, List.getElem?_eq_getElem hk, List.drop_eq_getElem_cons hk, List.getD_eq_getElem?_getD, List.getElem?_eq_getElem hk]
  have : ((xs.take k).map upI).length = k := by simp; omega
  rw [List.set_append_right _ _ (by omega), this]
  simp only [Nat.sub_self, List.set_cons_zero, List.map_append, Option.toList_some, List.map_cons, List.map_nil, List.append_assoc, List.singleton_append, Option.getD_some]
theorem up_at (xs : List Int) (k : Nat) (hk : k < xs.length) : ((xs.take k).map upI ++ xs.drop k).getD k 0 = xs.getD k 0 := by
  have : ((xs.take k).map upI).length = k := by simp; omega
  rw [List.getD_eq_getElem?_getD, List.getD_eq_getElem?_getD, List.getElem?_append_right (by omega), this, Nat.sub_self, List.getElem?_drop, Nat.add_zero]
theorem up_len (xs : List Int) (k : Nat) : ((xs.take k).map upI ++ xs.drop k).length = xs.length := by simp; omega
set_option maxHeartbeats 2000000 in
theorem large_calls (a0 : ByteArray) (hs : a0.size ≤ 1000000) (w : World) :
    Calls Tryz.prog 16 #[.string a0] w fun e w' => e = .returned (.string (largeB a0)) ∧ Below w.heap.size w w' := by
  obtain ⟨r, hr⟩ : ∃ r, r = largeB a0 := ⟨_, rfl⟩
  have HR := Aside0.mk hr.symm
  rw [← hr]
  clear hr
  have hcv := Lib.run_convert_string_bytes (P := Tryz.prog) w 9 57 5 a0 Tryz.underlying9 Tryz.underlying57 Tryz.underlying5
  obtain ⟨cap, hcap⟩ : ∃ c, c = grownCap w a0.size 0 5 := ⟨_, rfl⟩
  have hcs : a0.size ≤ cap := by rw [hcap]; exact grownCap_ge w _ _ _
  rw [← hcap] at hcv
  clear hcap
  have hrow := SRow.new w 5 a0 (by omega)
  have hbel : Below w.heap.size w (Lib.bytesWorld w 5 a0) := (Below.refl _ w).grown (bytes_grown w _ a0) (Nat.le_refl _) (fun k e => by cases e)
  obtain ⟨W1, hW1⟩ : ∃ x, x = Lib.bytesWorld w 5 a0 := ⟨_, rfl⟩
  rw [← hW1] at hcv hrow hbel
  clear hW1
  obtain ⟨xs, hxs⟩ : ∃ x, x = bytesOf a0 := ⟨_, rfl⟩
  have hlen : xs.length = a0.size := by rw [hxs, bytesOf_length]
  have hrange : ∀ k, k < xs.length → 0 ≤ xs.getD k 0 ∧ xs.getD k 0 ≤ 255 := fun k hk => by
    rw [List.getD_eq_getElem?_getD, List.getElem?_eq_getElem hk, Option.getD_some]
    exact bytesOf_range a0 _ (by rw [← hxs]; exact List.getElem_mem hk)
  have hfin : largeB a0 = strOfNums (xs.map upI) := by rw [largeB, ← hxs]
  rw [← hxs] at hrow
  have HX := Aside0.mk hfin
  have HN := Aside0.mk hrange
  have HW := Aside0.mk hrow
  have HB := Aside0.mk hbel
  have HL := Aside0.mk hlen
  have hle : (a0.size : Int) ≤ 1000000 := by omega
  clear hfin hrange hrow hbel hlen hxs hs
  go_enter Tryz.func16, Tryz.ntmps16
  go_wp2
  go_loopw [10] (fun i wr => ∃ k : Nat, k ≤ a0.size ∧ i = .int .i64 k ∧ Aside0 (SRow (Value.int .u8) 0 wr 5 w.heap.size ((xs.take k).map upI ++ xs.drop k)) ∧ Aside0 (Below w.heap.size w wr)) (fun i _ => a0.size - (intOf i).toNat)
  case atStart => exact ⟨0, Nat.zero_le _, rfl, ⟨by simpa using HW.out⟩, HB⟩
  case round =>
    clear HW HB
    obtain ⟨k, hk, rfl, HW, HB⟩ := hrel
    by_cases hlt : k < a0.size
    · have hx : k < xs.length := by rw [HL.out]; exact hlt
      have hcell := HW.out.cell k (by rw [up_len]; exact hx)
      have hfree := HW.out.free k (by rw [up_len]; exact hx)
      have hb0 := HN.out k hx
      have hset := HW.out.set k (by rw [up_len]; exact hx) (upI (xs.getD k 0))
      rw [up_at xs k hx] at hcell
      rw [up_step xs k hx] at hset
      have HS := Aside0.mk hset
      have HBS := Aside0.mk (show Below w.heap.size w (wr.setCell ⟨w.heap.size, k, none⟩ (.int .u8 (upI (xs.getD k 0)))) from HB.out.setCell (Nat.le_refl _) _)
      have hsame : ¬ (97 ≤ xs.getD k 0 ∧ xs.getD k 0 ≤ 122) → (xs.take k).map upI ++ xs.drop k = (xs.take (k + 1)).map upI ++ xs.drop (k + 1) := fun hn => by
        rw [← up_step xs k hx, upI, if_neg hn, ← up_at xs k hx]
        have hl : k < ((xs.take k).map upI ++ xs.drop k).length := by rw [up_len]; exact hx
        rw [List.getD_eq_getElem?_getD, List.getElem?_eq_getElem hl, Option.getD_some, List.set_getElem_self]
      have HE := Aside0.mk hsame
      have t1 : decide (k < a0.size) = true := decide_eq_true hlt
      have t2 : decide ((k : Int) < (a0.size : Int)) = true := decide_eq_true (by omega)
      clear hset hx hsame
      obtain ⟨c, hc⟩ : ∃ c, c = xs.getD k 0 := ⟨_, rfl⟩
      rw [← hc] at hcell hb0 HS HBS HE
      clear hc
      by_cases hu1 : 97 ≤ c
      · by_cases hu2 : c ≤ 122
        · have el : upI c = c - 97 + 65 := if_pos ⟨hu1, hu2⟩
          rw [el] at HS HBS
          clear el HE
          go_wp2
          go_roundw
          case rel => exact ⟨k + 1, by omega, by go_num, HS, HBS⟩
          case measure => simp [intOf]; omega
        · go_wp2
          go_roundw
          case rel => exact ⟨k + 1, by omega, by go_num, by rw [← HE.out (fun h => hu2 h.2)]; exact HW, HB⟩
          case measure => simp [intOf]; omega
      · go_wp2
        go_roundw
        case rel => exact ⟨k + 1, by omega, by go_num, by rw [← HE.out (fun h => hu1 h.1)]; exact HW, HB⟩
        case measure => simp [intOf]; omega
    · have hks : k = a0.size := by omega
      subst hks
      have t1 : decide (a0.size < a0.size) = false := decide_eq_false (Nat.lt_irrefl _)
      have hC := HW.out.C (h1 := fun _ => rfl)
      rw [List.take_of_length_le (by rw [HL.out]; exact Nat.le_refl _), List.drop_of_length_le (by rw [HL.out]; exact Nat.le_refl _), List.append_nil, List.length_map, HL.out] at hC
      have hcv2 := Kd.C_string (P := Tryz.prog) (c := cap) Tryz.underlying57 Tryz.underlying5 Tryz.underlying9 hC
      have HB2 := HB
      clear hC HW hlt
      go_wp2
      go_ret
      exact ⟨by rw [← HR.out, HX.out]; rfl, HB2.out⟩
end Go.Proofs.YtjggdkcfpdhoaaaGreatDoor.Large
/- Texts cut at a byte: what strings.Split and its kin give, in plain Lean. -/
namespace Go.Proofs.YtjggdkcfpdhoaaaGreatDoor.Dots
open Go Go.RowKit Go.Proofs.YtjggdkcfpdhoaaaGreatDoorW.PrintWords
theorem toList_data (s : ByteArray) : s.toList = s.data.toList := ByteArray.toList_eq s
theorem bytesOf_append (a b : ByteArray) : bytesOf (a ++ b) = bytesOf a ++ bytesOf b := by
  have : (a ++ b).data = a.data ++ b.data := ByteArray.data_append
  simp [bytesOf, this]
theorem bytesOf_inj {a b : ByteArray} (h : bytesOf a = bytesOf b) : a = b := by
  have h1 : a.data.toList = b.data.toList := by
    refine (List.map_inj_right (f := fun x : UInt8 => (x.toNat : Int)) (fun x y e => ?_)).1 h
    have e2 : (x.toNat : Int) = (y.toNat : Int) := e
    exact UInt8.toNat_inj.1 (by omega)
  have h2 : a.data = b.data := Array.toList_inj.1 h1
  exact ByteArray.ext h2
theorem toList_inj {a b : ByteArray} (h : a.toList = b.toList) : a = b := by
  rw [toList_data, toList_data] at h
  exact ByteArray.ext (Array.toList_inj.1 h)
theorem bytesOf_cut (s : ByteArray) (j i : Nat) : bytesOf (s.extract j i) = ((bytesOf s).drop j).take (i - j) := by
  have e : (s.extract j i).data.toList = (s.data.toList.drop j).take (i - j) := by
    obtain ⟨⟨l⟩⟩ := s
    rw [ByteArray.extract_mk]
  rw [bytesOf, e, List.map_take, List.map_drop, ← bytesOf]
theorem bytes_range (s : ByteArray) (x : Int) (h : x ∈ bytesOf s) : 0 ≤ x ∧ x ≤ 255 := by
  obtain ⟨b, _, rfl⟩ := List.mem_map.1 h
  exact ⟨by omega, by have := b.toNat_lt; omega⟩
theorem btD_at (s : ByteArray) (i : Nat) (h : i < s.size) : bt s (i : Int) = (bytesOf s).getD i 0 := by
  have hl : i < s.data.toList.length := by rw [data_length]; exact h
  unfold bt
  rw [dif_pos (by simpa using h), bytesOf, List.getD_eq_getElem?_getD, List.getElem?_map, List.getElem?_eq_getElem hl]
  simp
  rfl
theorem drop_bt (s : ByteArray) (i : Nat) (h : i < s.size) : (bytesOf s).drop i = bt s (i : Int) :: (bytesOf s).drop (i + 1) := by
  have hl : i < (bytesOf s).length := by rw [bytesOf_length]; exact h
  rw [btD_at s i h, List.drop_eq_getElem_cons hl, List.getD_eq_getElem?_getD, List.getElem?_eq_getElem hl]
  rfl
theorem bt_range (s : ByteArray) (i : Nat) (h : i < s.size) : 0 ≤ bt s (i : Int) ∧ bt s (i : Int) ≤ 255 := by
  have hl : i < (bytesOf s).length := by rw [bytesOf_length]; exact h
  rw [btD_at s i h, List.getD_eq_getElem?_getD, List.getElem?_eq_getElem hl]
  exact bytes_range s _ (List.getElem_mem hl)
/-- A list cut at d, cur being what has come of its first part. -/
def cutsA (d : Int) : List Int → List Int → List (List Int)
  | cur, [] => [cur]
  | cur, c :: l => if c = d then cur :: cutsA d [] l else cutsA d (cur ++ [c]) l
def cuts (d : Int) (l : List Int) : List (List Int) := cutsA d [] l
theorem cutsA_plain (d : Int) : ∀ (cur l : List Int), d ∉ l → cutsA d cur l = [cur ++ l]
  | cur, [], _ => by simp [cutsA]
  | cur, c :: l, h => by
    have h1 : ¬ c = d := fun e => h (by simp [e])
    rw [cutsA, if_neg h1, cutsA_plain d (cur ++ [c]) l (fun m => h (List.mem_cons_of_mem _ m)), List.append_assoc]
    rfl
theorem cutsA_hit (d : Int) : ∀ (cur p r : List Int), d ∉ p → cutsA d cur (p ++ d :: r) = (cur ++ p) :: cutsA d [] r
  | cur, [], r, _ => by simp [cutsA]
  | cur, c :: p, r, h => by
    have h1 : ¬ c = d := fun e => h (by simp [e])
    rw [List.cons_append, cutsA, if_neg h1, cutsA_hit d (cur ++ [c]) p r (fun m => h (List.mem_cons_of_mem _ m)), List.append_assoc]
    rfl
/-- A text of one byte. -/
def one (d : UInt8) : ByteArray := ⟨#[d]⟩
theorem index_miss (s : ByteArray) (d : UInt8) (h : Lib.indexB s (one d) = -1) : (d.toNat : Int) ∉ bytesOf s := by
  intro hm
  obtain ⟨b, hb, he⟩ := List.mem_map.1 hm
  obtain ⟨j, hj, rfl⟩ := List.mem_iff_getElem.1 hb
  have h1 : Lib.indexByte s.data.toList d = -1 := by rw [← Lib.index_one]; exact h
  refine Lib.indexByte_none h1 j ?_
  rw [List.getElem?_eq_getElem hj]
  congr 1
  exact UInt8.toNat_inj.1 (by omega)
theorem index_hit (s : ByteArray) (d : UInt8) (i : Nat) (h : Lib.indexB s (one d) = i) : (d.toNat : Int) ∉ (bytesOf s).take i ∧ (bytesOf s).drop i = (d.toNat : Int) :: (bytesOf s).drop (i + 1) ∧ i < s.size := by
  have h1 : Lib.indexByte s.data.toList d = i := by rw [← Lib.index_one]; exact h
  obtain ⟨h2, h3⟩ := Lib.indexByte_some h1
  have hl := (List.getElem?_eq_some_iff.1 h2).1
  have hl2 : i < (bytesOf s).length := by have := bytesOf_length s; have := data_length s; omega
  refine ⟨?_, ?_, by rw [← bytesOf_length]; exact hl2⟩
  · intro hm
    obtain ⟨j, hj, he⟩ := List.mem_iff_getElem.1 hm
    rw [List.length_take] at hj
    rw [List.getElem_take] at he
    have hj2 : j < s.data.toList.length := by have := bytesOf_length s; have := data_length s; omega
    refine h3 j (by omega) ?_
    rw [List.getElem?_eq_getElem hj2]
    congr 1
    simp only [bytesOf, List.getElem_map] at he
    exact UInt8.toNat_inj.1 (by omega)
  · rw [List.drop_eq_getElem_cons hl2]
    congr 1
    have := (List.getElem?_eq_some_iff.1 h2).2
    simp only [bytesOf, List.getElem_map, this]
theorem split_cuts (d : UInt8) : ∀ (k : Nat) (s : ByteArray), Lib.countB s (one d) = k → (Lib.splitB (one d) 0 k s).map bytesOf = cuts (d.toNat : Int) (bytesOf s) := by
  intro k
  have hz : (one d).size = 1 := rfl
  induction k with
  | zero =>
    intro s hk
    rcases Lib.indexB_cases s (one d) with hix | ⟨i, hix, _⟩
    · rw [Lib.splitB_zero, cuts, cutsA_plain _ _ _ (index_miss s d hix)]
      rfl
    · have := Lib.countB_hit s (one d) i (by rw [hz]; exact Nat.le_refl _) hix
      omega
  | succ k ih =>
    intro s hk
    rcases Lib.indexB_cases s (one d) with hix | ⟨i, hix, hroom⟩
    · have := Lib.countB_miss s (one d) hix
      omega
    · have hc := Lib.countB_hit s (one d) i (by rw [hz]; exact Nat.le_refl _) hix
      obtain ⟨h1, h2, _⟩ := index_hit s d i hix
      rw [Lib.splitB_hit (one d) 0 k s i hix, List.map_cons, ih _ (by omega), hz, Nat.add_zero]
      have e1 : bytesOf s = (bytesOf s).take i ++ (d.toNat : Int) :: (bytesOf s).drop (i + 1) := by rw [← h2, List.take_append_drop]
      have e2 : bytesOf (s.extract (i + 1) s.size) = (bytesOf s).drop (i + 1) := by
        rw [bytesOf_cut]
        exact List.take_of_length_le (by rw [List.length_drop, bytesOf_length]; omega)
      have e3 : bytesOf (s.extract 0 i) = (bytesOf s).take i := by rw [bytesOf_cut, List.drop_zero, Nat.sub_zero]
      have e4 := cutsA_hit (d.toNat : Int) [] ((bytesOf s).take i) ((bytesOf s).drop (i + 1)) h1
      rw [← e1] at e4
      rw [e2, e3]
      exact e4.symm
end Go.Proofs.YtjggdkcfpdhoaaaGreatDoor.Dots
/- A range over a function whose iterator keeps its own place in a variable (strings.SplitSeq): the rounds leave that variable alone, the iterator turns it between two rounds. -/
namespace Go.Proofs.YtjggdkcfpdhoaaaGreatDoor.RBox
open Go Go.RowKit
/-- What a round leaves as it was. -/
def KeepBl (Bl : List Nat) (A B : World) : Prop := ∀ b ∈ Bl, B.heap[b]? = A.heap[b]?
theorem KeepBl.trans {Bl : List Nat} {A B C : World} (h : KeepBl Bl A B) (k : KeepBl Bl B C) : KeepBl Bl A C := fun b hb => (k b hb).trans (h b hb)
theorem KeepBl.putObj {Bl : List Nat} {m : Nat} (hB : ∀ b ∈ Bl, b < m) (W : World) (l : Nat) (o : Obj) (hl : m ≤ l) : KeepBl Bl W (W.putObj l o) := fun b hb => World.putObj_heap_other (by have := hB b hb; omega)
/-- An iterator's value whose own place lies in block Bs: it gives what S says, or a round has said 'no more'. -/
def SeqBox {α : Type} (F : Fence) (n : Nat) (P : Program) (g : Nat) (lb : Array Value) (encs : α → Array Value) (Bs : Nat) (Bl : List Nat) (S Sp : List α → Prop) (N : Nat) (w : World) : Prop :=
  ∀ (l : Nat) (J Jx : List α → World → Prop) (W : World), Below w.heap.size w W → AbidesFrom W.heap.size J → AbidesFrom W.heap.size Jx →
    (∀ pre W1 v, J pre W1 → J pre (W1.setCell ⟨Bs, 0, none⟩ v)) →
    (∀ pre x W1, J pre W1 → pre.length < N → YieldAt F (n - 1) P l (encs x) W1 fun e W' =>
      (e = .returned (.bool true) ∧ J (pre ++ [x]) W' ∧ KeepBl Bl W1 W') ∨ (e = .returned (.bool false) ∧ Jx (pre ++ [x]) W')) →
    J [] W →
    CallsIn F n P g (#[.func (.yield l) #[] #[]] ++ lb) W fun e W' => (∃ v, e = .returned v) ∧ ((∃ xs, S xs ∧ J xs W') ∨ (∃ pre, Sp pre ∧ Jx pre W'))
variable {F : Fence} {n : Nat} {P : Program}
theorem range_box {α : Type} {g : Operand} {ps : Array Tmp} {assign body : Code} {Q : Exit → Act → World → Prop} {a : Act} {w : World}
    (hro : F.round = none) (h1 : 1 ≤ n) {gf : Nat} {lb : Array Value} (hg : a.eval g = .func (.func gf) #[] lb) (hFg : F.fn gf) (eg : ∀ args w, (callFunc gf args).run P w = .ok (.enter gf args) w)
    {encs : α → Array Value} {Bs : Nat} {Bl : List Nat} (hBs : Bs < w.heap.size) (hBl : ∀ b ∈ Bl, b < w.heap.size) {S Sp : List α → Prop} {N : Nat} {w0 : World} (hseq : SeqBox F (n - 1) P gf lb encs Bs Bl S Sp N w0)
    (hb0 : Below w0.heap.size w0 w) (hps : ∀ x, (encs x).size = ps.size)
    (I : List α → World → Prop) (Ix : Code → List α → World → Prop) (hI : OwnFrom w.heap.size I) (hIx : ∀ c, OwnFrom w.heap.size (Ix c)) (hIb : ∀ pre W v, I pre W → I pre (W.setCell ⟨Bs, 0, none⟩ v)) (h0 : I [] w) (a₁ : α → Act)
    (hassign : ∀ (l : Nat) (x : α) (W : World) (K : Act → World → Prop), K (a₁ x) W →
      assign.wpIn (F.inRound l) (n - 1 - 1) P (Exit.then K (fun _ _ _ => False)) { tmps := (ps.zip (encs x)).foldl (fun t (p, v) => t.setIfInBounds p v) a.tmps, defers := [] } W)
    (hbody : ∀ (l : Nat) (pre : List α) (x : α) (W : World), I pre W → pre.length < N → body.wpIn (F.inRound l) (n - 1 - 1) P (ownPostK (KeepBl Bl) I Ix (pre ++ [x]) W) (a₁ x) W)
    (hdone : ∀ (D : Nat) (xs : List α) (W : World), w.heap.size ≤ D → S xs → I xs W → W.heap[D]? = some (.deferred (some [])) → Q .normal { a with defers := { target := .collected D, args := #[] } :: a.defers } W)
    (hstop : ∀ (D : Nat) (c : Code) (pre : List α) (W : World), w.heap.size ≤ D → Sp pre → Ix c pre W → W.heap[D]? = some (.deferred (some [])) → c.wpIn F n P Q { a with defers := { target := .collected D, args := #[] } :: a.defers } W) :
    (Code.rangeFunc g ps assign body).wpIn F n P Q a w := by
  have hKt : ∀ {A B C : World}, KeepBl Bl A B → KeepBl Bl B C → KeepBl Bl A C := fun h k => h.trans k
  have hKb : ∀ (W : World) (l : Nat) (o : Obj), w.heap.size ≤ l → KeepBl Bl W (W.putObj l o) := fun W l o hl => KeepBl.putObj hBl W l o hl
  refine wpIn_rangeFunc ?_
  intro fn hfn
  rw [hro]
  obtain ⟨rec, hrec⟩ : ∃ rec : LoopState → Option Code → Loop, rec = fun st pe => { state := st, pending := pe, fn, tmps := a.tmps, params := ps, assign, body, defers := w.heap.size } := ⟨_, rfl⟩
  obtain ⟨W1, hW1⟩ : ∃ W1, (w.alloc (.deferred (some []))).alloc (.loop (rec .ready none)) = W1 := ⟨_, rfl⟩
  have hL1 : W1.heap[w.heap.size + 1]? = some (.loop (rec .ready none)) := by
    rw [← hW1]
    have := World.alloc_heap_new (w.alloc (.deferred (some []))) (.loop (rec .ready none))
    rwa [World.size_alloc] at this
  have hK1 : W1.heap[w.heap.size]? = some (.deferred (some [])) := by
    rw [← hW1]
    exact (Below.heap_alloc _ _ _ (by simp)).trans (World.alloc_heap_new w _)
  have hI1 : I [] W1 := by rw [← hW1]; exact hI.alloc _ (hI.alloc _ h0)
  have hb1 : Below w0.heap.size w0 W1 := by
    rw [← hW1]
    exact hb0.trans ((((Below.refl _ w).alloc (Nat.le_refl _) _).alloc (by simp) _).mono hb0.size)
  refine ⟨w.heap.size + 1, [{ target := .collected w.heap.size, args := #[] }], W1, { target := .fn (.func gf) lb, args := #[.func (.yield (w.heap.size + 1)) #[] #[]] }, W1, gf,
    #[.func (.yield (w.heap.size + 1)) #[] #[]] ++ lb, W1, ?_, ?_, ?_, ?_, fun _ => h1, ?_⟩
  · rw [← hW1, hrec]; exact run_enterLoop_outer _ _ _ _ _
  · simp only [resolve, hg]
    simp [go_sem]
  · intro f' hf'; simp [Target.leads] at hf'; subst hf'; exact hFg
  · simp [invoke, go_sem, eg]
  · have hnw : ∀ {A B : World} {row : Option Nat}, (∀ r, row = some r → W1.heap.size ≤ r ∧ ∃ o : Obj, A.heap[r]? = some o ∧ o.isWalk = true) → (∀ r, row = some r → w.heap.size ≤ r ∧ ∃ o : Obj, A.heap[r]? = some o ∧ o.isCells = false) :=
      fun hr r e => by obtain ⟨h9, o, ho, hw⟩ := hr r e; exact ⟨by rw [← hW1] at h9; simp at h9; omega, o, ho, Obj.not_cells_of_walk hw⟩
    refine (hseq (w.heap.size + 1)
      (fun pre W => I pre W ∧ W.heap[w.heap.size + 1]? = some (.loop (rec .ready none)) ∧ W.heap[w.heap.size]? = some (.deferred (some [])))
      (fun pre W => ∃ c, Ix c pre W ∧ W.heap[w.heap.size + 1]? = some (.loop (rec .done (some c))) ∧ W.heap[w.heap.size]? = some (.deferred (some [])))
      W1 hb1
      (fun s A B row hs hg' hr => ⟨hI s A B row hs.1 hg' (hnw (B := B) hr), (grownBy_keeps hg' (fun r e => (hr r e).2) hs.2.1 rfl).trans hs.2.1, (grownBy_keeps hg' (fun r e => (hr r e).2) hs.2.2 rfl).trans hs.2.2⟩)
      (fun s A B row hs hg' hr => by
        obtain ⟨c, hc, hl, hk⟩ := hs
        exact ⟨c, hIx c s A B row hc hg' (hnw (B := B) hr), (grownBy_keeps hg' (fun r e => (hr r e).2) hl rfl).trans hl, (grownBy_keeps hg' (fun r e => (hr r e).2) hk rfl).trans hk⟩)
      (fun pre W v hs => ⟨hIb pre W v hs.1, (Below.heap_setCell W _ v _ (by show w.heap.size + 1 ≠ Bs; omega)).trans hs.2.1, (Below.heap_setCell W _ v _ (by show w.heap.size ≠ Bs; omega)).trans hs.2.2⟩)
      ?_ ⟨hI1, hL1, hK1⟩).mono ?_
    · rintro pre x W ⟨hi, hl, hk⟩ hlen
      have hlt : w.heap.size + 1 < W.heap.size := (Array.getElem?_eq_some_iff.1 hl).1
      have hy := run_yield (P := P) (args := encs x) hl (by rw [hrec]; exact hps x)
      rw [hrec] at hy
      refine ⟨fn, _, assign, body, hy, roundIn_of_wpIn hfn (hassign _ x W _ ⟨_, run_beginRound hl (by rw [hrec]), ?_⟩)⟩
      have hl2 : (W.putObj (w.heap.size + 1) (.loop { rec .ready none with state := .busy })).heap[w.heap.size + 1]? = some (.loop { rec .ready none with state := .busy }) := World.putObj_heap_same hlt
      have hk2 : (W.putObj (w.heap.size + 1) (.loop { rec .ready none with state := .busy })).heap[w.heap.size]? = some (.deferred (some [])) := (World.putObj_heap_other (by omega)).trans hk
      have hw2 : KeepBl Bl W (W.putObj (w.heap.size + 1) (.loop { rec .ready none with state := .busy })) := hKb _ _ _ (by omega)
      refine wpIn_mono (hbody _ pre x _ (hI.putObj _ hi (by omega) hl rfl) hlen) ?_
      have fin : ∀ (jump : Option Code) (W3 : World), KeepsOthers (W.putObj (w.heap.size + 1) (.loop { rec .ready none with state := .busy })) W3 →
          (Instr.endRound (w.heap.size + 1) jump).run P W3 = .ok (.bool jump.isNone) (W3.putObj (w.heap.size + 1) (.loop (rec (if jump.isNone then .ready else .done) jump))) ∧
          W3.heap[w.heap.size + 1]? = some (.loop { rec .ready none with state := .busy }) ∧
          (W3.putObj (w.heap.size + 1) (.loop (rec (if jump.isNone then .ready else .done) jump))).heap[w.heap.size + 1]? = some (.loop (rec (if jump.isNone then .ready else .done) jump)) ∧
          (W3.putObj (w.heap.size + 1) (.loop (rec (if jump.isNone then .ready else .done) jump))).heap[w.heap.size]? = some (.deferred (some [])) := fun jump W3 hk3 => by
        have hl3 := hk3.same _ _ hl2 rfl
        have := run_endRound (P := P) jump hl3
        rw [hrec] at this ⊢
        exact ⟨this, by rw [hrec] at hl3; exact hl3, World.putObj_heap_same (Array.getElem?_eq_some_iff.1 hl3).1, (World.putObj_heap_other (by omega)).trans (hk3.same _ _ hk2 rfl)⟩
      rintro e a3 W3 hp
      cases e with
      | normal =>
        obtain ⟨hk3, hkp3, hi3⟩ := hp
        obtain ⟨hr, hl3, hl4, hk4⟩ := fin none W3 hk3
        exact ⟨_, _, hr, .inl ⟨rfl, ⟨hI.putObj _ hi3 (by omega) hl3 rfl, hl4, hk4⟩, hKt (hKt hw2 hkp3) (hKb _ _ _ (by omega))⟩⟩
      | ret =>
        obtain ⟨hk3, hi3⟩ := hp
        obtain ⟨hr, hl3, hl4, hk4⟩ := fin (some .ret) W3 hk3
        exact ⟨_, _, hr, .inr ⟨rfl, .ret, (hIx _).putObj _ hi3 (by omega) hl3 rfl, hl4, hk4⟩⟩
      | exit id =>
        obtain ⟨hk3, hi3⟩ := hp
        obtain ⟨hr, hl3, hl4, hk4⟩ := fin (some (.exit id)) W3 hk3
        exact ⟨_, _, hr, .inr ⟨rfl, .exit id, (hIx _).putObj _ hi3 (by omega) hl3 rfl, hl4, hk4⟩⟩
      | goto t =>
        obtain ⟨hk3, hi3⟩ := hp
        obtain ⟨hr, hl3, hl4, hk4⟩ := fin (some (.goto t)) W3 hk3
        exact ⟨_, _, hr, .inr ⟨rfl, .goto t, (hIx _).putObj _ hi3 (by omega) hl3 rfl, hl4, hk4⟩⟩
      | panic ch => exact hp.elim
      | outgrown => exact hp.elim
    · rintro e W2 ⟨⟨v, rfl⟩, (⟨xs, hS, hi, hl, hk⟩ | ⟨pre, hSp, c, hi, hl, hk⟩)⟩
      · exact ⟨none, _, by have := run_endLoop (P := P) hl (by rw [hrec]; simp); rw [hrec] at this; exact this, hdone _ xs _ (Nat.le_refl _) hS (hI.putObj _ hi (by omega) hl rfl) ((World.putObj_heap_other (by omega)).trans hk)⟩
      · exact ⟨some c, _, by have := run_endLoop (P := P) hl (by rw [hrec]; simp); rw [hrec] at this; exact this, hstop _ c pre _ (Nat.le_refl _) hSp ((hIx c).putObj _ hi (by omega) hl rfl) ((World.putObj_heap_other (by omega)).trans hk)⟩
end Go.Proofs.YtjggdkcfpdhoaaaGreatDoor.RBox
/- strings.SplitSeq's iterator at one byte: what it gives, whatever the rounds do that leave its places alone. -/
namespace Go.Proofs.YtjggdkcfpdhoaaaGreatDoor.Seq
open Go Go.RowKit Go.Shelf Go.Proofs.YtjggdkcfpdhoaaaGreatDoorW.PrintWords Go.Proofs.YtjggdkcfpdhoaaaGreatDoor.Dots Go.Proofs.YtjggdkcfpdhoaaaGreatDoor.RBox
set_option linter.unusedVariables false
set_option linter.unusedSimpArgs false
attribute [local go_sem] Oper.semAt_some
/-- Texts that are not too long. -/
abbrev Txt := { x : ByteArray // x.size ≤ 1000000 }
def bT (x : Txt) : List Int := bytesOf x.1
/-- The text in a place: its size. -/
def boxSize (w : World) (b : Nat) : Nat := match w.cell? ⟨b, 0, none⟩ with | some (.string r) => r.size | _ => 0
theorem cell_keepBl {Bl : List Nat} {A B : World} (h : KeepBl Bl A B) {b : Nat} (hb : b ∈ Bl) {o : Nat} {v : Value} (hc : A.cell? ⟨b, o, none⟩ = some v) : B.cell? ⟨b, o, none⟩ = some v := by
  have := h b hb
  simpa [World.cell?, this] using hc
theorem frozen_keepBl {Bl : List Nat} {A B : World} (h : KeepBl Bl A B) {b : Nat} (hb : b ∈ Bl) {o : Nat} (hc : A.frozen? ⟨b, o, none⟩ = false) : B.frozen? ⟨b, o, none⟩ = false := by
  have := h b hb
  simpa [World.frozen?, this] using hc
theorem ib_miss (s : ByteArray) (d : UInt8) (h : Lib.indexByte s.data.toList d < 0) : Lib.indexB s (one d) = -1 := by
  have e : Lib.indexB s (one d) = Lib.indexByte s.data.toList d := Lib.index_one _ _
  rcases Lib.indexB_cases s (one d) with h1 | ⟨i, h1, _⟩
  · exact h1
  · rw [e] at h1; omega
theorem ib_hit (s : ByteArray) (d : UInt8) (i : Nat) (h : Lib.indexByte s.data.toList d = i) : Lib.indexB s (one d) = i := (Lib.index_one _ _).trans h
theorem cuts_miss (s : ByteArray) (d : UInt8) (h : Lib.indexByte s.data.toList d < 0) : cuts (d.toNat : Int) (bytesOf s) = [bytesOf s] := by
  rw [cuts, cutsA_plain _ _ _ (index_miss s d (ib_miss s d h))]; rfl
theorem cuts_hit (s : ByteArray) (d : UInt8) (i : Nat) (h : Lib.indexByte s.data.toList d = i) :
    i < s.size ∧ cuts (d.toNat : Int) (bytesOf s) = bytesOf (s.extract 0 i) :: cuts (d.toNat : Int) (bytesOf (s.extract (i + 1) s.size)) := by
  obtain ⟨h1, h2, h3⟩ := index_hit s d i (ib_hit s d i h)
  refine ⟨h3, ?_⟩
  have e1 : bytesOf s = (bytesOf s).take i ++ (d.toNat : Int) :: (bytesOf s).drop (i + 1) := by rw [← h2, List.take_append_drop]
  have e2 : bytesOf (s.extract (i + 1) s.size) = (bytesOf s).drop (i + 1) := by
    rw [bytesOf_cut]
    exact List.take_of_length_le (by rw [List.length_drop, bytesOf_length]; omega)
  have e3 : bytesOf (s.extract 0 i) = (bytesOf s).take i := by rw [bytesOf_cut, List.drop_zero, Nat.sub_zero]
  have e4 := cutsA_hit (d.toNat : Int) [] ((bytesOf s).take i) ((bytesOf s).drop (i + 1)) h1
  rw [← e1] at e4
  rw [e2, e3]
  exact e4
set_option maxRecDepth 100000 in
set_option maxHeartbeats 2000000 in
theorem split1_box (n : Nat) (hn : 1 ≤ n) (d : UInt8) (Bp Bs Bv : Nat) (s : ByteArray) (hsz : s.size ≤ 1000000) (w : World) (hp : w.cell? ⟨Bp, 0, none⟩ = some (.string ⟨#[d]⟩)) (hs : w.cell? ⟨Bs, 0, none⟩ = some (.string s))
    (hfz : w.frozen? ⟨Bs, 0, none⟩ = false) (hv : w.cell? ⟨Bv, 0, none⟩ = some (.int .i64 0)) (hps : Bp ≠ Bs) (hvs : Bv ≠ Bs) :
    SeqBox Fence.wide n Tryz.prog 112 #[.pointer (some ⟨Bp, 0, none⟩), .pointer (some ⟨Bs, 0, none⟩), .pointer (some ⟨Bv, 0, none⟩)] (fun x : Txt => #[Value.string x.1]) Bs [Bp, Bs, Bv]
      (fun xs => xs.map bT = cuts (d.toNat : Int) (bytesOf s)) (fun pre => pre.map bT <+: cuts (d.toNat : Int) (bytesOf s)) (s.size + 1) w := fun l J Jx W hW hJ hJx hJb hY h0 => by
  have hp := hW.cell (p := ⟨Bp, 0, none⟩) (World.block_lt_of_cell? w _ hp) |>.trans hp
  have hfz := (hW.frozen (p := ⟨Bs, 0, none⟩) (World.block_lt_of_cell? w _ hs)).trans hfz
  have hs := hW.cell (p := ⟨Bs, 0, none⟩) (World.block_lt_of_cell? w _ hs) |>.trans hs
  have hv := hW.cell (p := ⟨Bv, 0, none⟩) (World.block_lt_of_cell? w _ hv) |>.trans hv
  clear hW
  refine callsIn_of_wp Tryz.func112 rfl trivial ?_ rfl
  simp only [Tryz.ntmps112, List.size_toArray, List.length_cons, List.length_nil, Nat.reduceAdd, Nat.reduceSub, Array.replicate_succ, Array.replicate_zero, List.push_toArray, List.append_toArray, List.nil_append, List.cons_append]
  have hd1 : decide ((1 : Int) = 0) = false := by decide
  gi_wp2
  gi_loopw [7] (fun _ wr => ∃ (pre : List Txt) (r : ByteArray), wr.cell? ⟨Bs, 0, none⟩ = some (.string r) ∧ wr.frozen? ⟨Bs, 0, none⟩ = false ∧ wr.cell? ⟨Bp, 0, none⟩ = some (.string ⟨#[d]⟩) ∧
      wr.cell? ⟨Bv, 0, none⟩ = some (.int .i64 0) ∧ J pre wr ∧ pre.length + r.size ≤ s.size ∧ pre.map bT ++ cuts (d.toNat : Int) (bytesOf r) = cuts (d.toNat : Int) (bytesOf s)) (fun _ wr => boxSize wr Bs)
  case atStart => exact ⟨[], s, hs, hfz, hp, hv, h0, by simp, rfl⟩
  case round =>
    obtain ⟨pre, r, hs, hfz, hp, hv, hJp, hlen, hcuts⟩ := hrel
    have hrs : r.size ≤ 1000000 := by omega
    have HLEN := Aside0.mk hlen
    have HCUTS := Aside0.mk hcuts
    have HIX := Tryz.strings_Index_one r d wr
    by_cases hz : Lib.indexByte r.data.toList d < 0
    · have HC := Aside0.mk (cuts_miss r d hz)
      obtain ⟨fn, tmps, assign, body, hy, hR⟩ := hY pre ⟨r, hrs⟩ wr hJp (by omega)
      dsimp only at hy
      obtain ⟨z, hz2⟩ : ∃ z, z = Lib.indexByte r.data.toList d := ⟨_, rfl⟩
      rw [← hz2] at HIX hz
      have HI := Aside0.mk HIX
      clear HIX hz2 hlen hcuts
      gi_wp2_with (refine ⟨trivial, ?_⟩; gi_at_call 113; refine (callsIn_wide.2 HI.out).mono ?_; rintro e w' ⟨rfl, rfl⟩)
      refine hR.mono ?_
      rintro e W3 (⟨rfl, hJ3, hk3⟩ | ⟨rfl, hJx3⟩)
      · gi_wp2
        go_end0
        exact ⟨⟨_, rfl⟩, .inl ⟨pre ++ [⟨r, hrs⟩], by rw [List.map_append, ← HCUTS.out, HC.out]; rfl, hJ3⟩⟩
      · gi_wp2
        go_end0
        exact ⟨⟨_, rfl⟩, .inr ⟨pre ++ [⟨r, hrs⟩], by rw [List.map_append, ← HCUTS.out, HC.out]; exact List.prefix_rfl, hJx3⟩⟩
    · obtain ⟨i, hi⟩ : ∃ i : Nat, Lib.indexByte r.data.toList d = i := ⟨(Lib.indexByte r.data.toList d).toNat, by omega⟩
      obtain ⟨hil, hcut⟩ := cuts_hit r d i hi
      have HC := Aside0.mk hcut
      rw [hi] at HIX
      have HI := Aside0.mk HIX
      have hes : (r.extract 0 i).size ≤ 1000000 := by rw [ByteArray.size_extract]; omega
      obtain ⟨fn, tmps, assign, body, hy, hR⟩ := hY pre ⟨r.extract 0 i, hes⟩ wr hJp (by omega)
      dsimp only at hy
      have hw1 : wrap64 (i : Int) = i := by unfold wrap64; omega
      have hw2 : wrap64 ((i : Int) + 1) = i + 1 := by unfold wrap64; omega
      have hle : i ≤ r.size := by omega
      have hle1 : i + 1 ≤ r.size := by omega
      clear HIX hi hz hlen hcuts hcut
      gi_wp2_with (refine ⟨trivial, ?_⟩; gi_at_call 113; refine (callsIn_wide.2 HI.out).mono ?_; rintro e w' ⟨rfl, rfl⟩)
      refine hR.mono ?_
      rintro e W3 (⟨rfl, hJ3, hk3⟩ | ⟨rfl, hJx3⟩)
      · have hs3 := cell_keepBl hk3 (by simp) hs
        have hp3 := cell_keepBl hk3 (by simp) hp
        have hv3 := cell_keepBl hk3 (by simp) hv
        have hf3 := frozen_keepBl hk3 (by simp) hfz
        gi_wp2
        go_roundw
        case rel =>
          refine ⟨pre ++ [⟨r.extract 0 i, hes⟩], r.extract (i + 1) r.size, World.cell?_setCell_same' _ _ _ (by rw [hs3]; rfl), by rw [World.frozen?_setCell]; exact hf3, (World.cell?_setCell_other _ _ _ _ (by simp [Ne.symm hps])).trans hp3, (World.cell?_setCell_other _ _ _ _ (by simp [Ne.symm hvs])).trans hv3, hJb _ _ _ hJ3, ?_, ?_⟩
          · have := HLEN.out
            rw [List.length_append, ByteArray.size_extract]
            simp
            omega
          · rw [List.map_append, ← HCUTS.out, HC.out, List.append_assoc]; rfl
        case measure =>
          rw [boxSize, boxSize, World.cell?_setCell_same' _ _ _ (by rw [hs3]; rfl), hs]
          simp [ByteArray.size_extract]
          omega
      · gi_wp2
        refine bodyPost_ret (results_none rfl _ _ _) rfl ?_
        exact ⟨⟨_, rfl⟩, .inr ⟨pre ++ [⟨r.extract 0 i, hes⟩], by rw [List.map_append, ← HCUTS.out, HC.out]; exact ⟨cuts (d.toNat : Int) (bytesOf (r.extract (i + 1) r.size)), by rw [List.append_assoc]; rfl⟩, hJx3⟩⟩
end Go.Proofs.YtjggdkcfpdhoaaaGreatDoor.Seq
/- path's small ones: which bytes may stand in an atom, a label; texts all of whose bytes may. -/
namespace Go.Proofs.YtjggdkcfpdhoaaaGreatDoor.Path
open Go Go.RowKit Go.Proofs.YtjggdkcfpdhoaaaGreatDoorW.PrintWords Go.Proofs.YtjggdkcfpdhoaaaGreatDoor.Dots
set_option linter.unusedVariables false
set_option linter.unusedSimpArgs false
def plainC (c : Int) : Bool := decide (97 ≤ c) && decide (c ≤ 122) || decide (65 ≤ c) && decide (c ≤ 90) || decide (48 ≤ c) && decide (c ≤ 57)
def marksL : List UInt8 := [33, 35, 36, 37, 38, 39, 42, 43, 45, 47, 61, 63, 94, 95, 96, 123, 124, 125, 126]
def atomC (c : Int) : Bool := plainC c || decide (0 ≤ Lib.indexByte marksL c.toNat.toUInt8)
def labelC (c : Int) : Bool := plainC c || c == 45
theorem plain_calls (c : Int) (hc : 0 ≤ c ∧ c ≤ 255) (w : World) : Calls Tryz.prog 80 #[.int .u8 c] w fun e w' => e = .returned (.bool (plainC c)) ∧ w' = w := by
  by_cases h1 : 97 ≤ c
  · by_cases h2 : c ≤ 122
    · have hr : plainC c = true := by simp [plainC, h1, h2]
      rw [hr]
      go_enter Tryz.func80, Tryz.ntmps80
      go_wp2
      go_ret
      exact ⟨rfl, rfl⟩
    · have h3 : 65 ≤ c := by omega
      have h4 : ¬ c ≤ 90 := by omega
      have h5 : 48 ≤ c := by omega
      have h6 : ¬ c ≤ 57 := by omega
      have hr : plainC c = false := by simp [plainC, h1, h2, h3, h4, h5, h6]
      rw [hr]
      go_enter Tryz.func80, Tryz.ntmps80
      go_wp2
      go_ret
      exact ⟨rfl, rfl⟩
  · by_cases h3 : 65 ≤ c
    · by_cases h4 : c ≤ 90
      · have hr : plainC c = true := by simp [plainC, h3, h4]
        rw [hr]
        go_enter Tryz.func80, Tryz.ntmps80
        go_wp2
        go_ret
        exact ⟨rfl, rfl⟩
      · have h5 : 48 ≤ c := by omega
        have h6 : ¬ c ≤ 57 := by omega
        have hr : plainC c = false := by simp [plainC, h1, h3, h4, h5, h6]
        rw [hr]
        go_enter Tryz.func80, Tryz.ntmps80
        go_wp2
        go_ret
        exact ⟨rfl, rfl⟩
    · by_cases h5 : 48 ≤ c
      · by_cases h6 : c ≤ 57
        · have hr : plainC c = true := by simp [plainC, h5, h6]
          rw [hr]
          go_enter Tryz.func80, Tryz.ntmps80
          go_wp2
          go_ret
          exact ⟨rfl, rfl⟩
        · have hr : plainC c = false := by simp [plainC, h1, h3, h5, h6]
          rw [hr]
          go_enter Tryz.func80, Tryz.ntmps80
          go_wp2
          go_ret
          exact ⟨rfl, rfl⟩
      · have hr : plainC c = false := by simp [plainC, h1, h3, h5]
        rw [hr]
        go_enter Tryz.func80, Tryz.ntmps80
        go_wp2
        go_ret
        exact ⟨rfl, rfl⟩
theorem atom1_calls (c : Int) (hc : 0 ≤ c ∧ c ≤ 255) (w : World) : Calls Tryz.prog 114 #[.int .u8 c] w fun e w' => e = .returned (.bool (atomC c)) ∧ w' = w := by
  have hp := plain_calls c hc w
  have hi := Tryz.strings_IndexByte (⟨#[33, 35, 36, 37, 38, 39, 42, 43, 45, 47, 61, 63, 94, 95, 96, 123, 124, 125, 126]⟩ : ByteArray) c w
  obtain ⟨z, hz⟩ : ∃ z, z = Lib.indexByte marksL c.toNat.toUInt8 := ⟨_, rfl⟩
  have hi2 : Calls Tryz.prog 83 #[.string (⟨#[33, 35, 36, 37, 38, 39, 42, 43, 45, 47, 61, 63, 94, 95, 96, 123, 124, 125, 126]⟩ : ByteArray), .int .u8 c] w fun e w' => e = .returned (.int .i64 z) ∧ w' = w := by rw [hz]; exact hi
  have hr : atomC c = (plainC c || decide (0 ≤ z)) := by rw [hz]; rfl
  have HP := Aside0.mk hp
  have HI := Aside0.mk hi2
  rw [hr]
  clear hp hi hi2 hr hz
  cases hb : plainC c with
  | true =>
    rw [hb] at HP
    go_enter Tryz.func114, Tryz.ntmps114
    go_wp2_with (go_at_call 80; refine HP.out.mono ?_; rintro e w' ⟨rfl, rfl⟩)
    go_ret
    exact ⟨rfl, rfl⟩
  | false =>
    rw [hb] at HP
    by_cases h : 0 ≤ z
    · rw [decide_eq_true h]
      go_enter Tryz.func114, Tryz.ntmps114
      go_wp2_with (first
        | (go_at_call 80; refine HP.out.mono ?_; rintro e w' ⟨rfl, rfl⟩)
        | (go_at_call 83; refine HI.out.mono ?_; rintro e w' ⟨rfl, rfl⟩))
      go_ret
      exact ⟨rfl, rfl⟩
    · rw [decide_eq_false h]
      go_enter Tryz.func114, Tryz.ntmps114
      go_wp2_with (first
        | (go_at_call 80; refine HP.out.mono ?_; rintro e w' ⟨rfl, rfl⟩)
        | (go_at_call 83; refine HI.out.mono ?_; rintro e w' ⟨rfl, rfl⟩))
      go_ret
      exact ⟨by show Ending.returned (Value.bool (decide (0 ≤ z))) = _; rw [decide_eq_false (by omega)]; rfl, rfl⟩
theorem label1_calls (c : Int) (hc : 0 ≤ c ∧ c ≤ 255) (w : World) : Calls Tryz.prog 79 #[.int .u8 c] w fun e w' => e = .returned (.bool (labelC c)) ∧ w' = w := by
  have HP := Aside0.mk (plain_calls c hc w)
  unfold labelC
  cases hb : plainC c with
  | true =>
    rw [hb] at HP
    go_enter Tryz.func79, Tryz.ntmps79
    go_wp2_with (go_at_call 80; refine HP.out.mono ?_; rintro e w' ⟨rfl, rfl⟩)
    go_ret
    exact ⟨rfl, rfl⟩
  | false =>
    rw [hb] at HP
    rw [Bool.false_or]
    cases he : (c == 45) with
    | true =>
      go_enter Tryz.func79, Tryz.ntmps79
      go_wp2_with (go_at_call 80; refine HP.out.mono ?_; rintro e w' ⟨rfl, rfl⟩)
      go_ret
      exact ⟨rfl, rfl⟩
    | false =>
      go_enter Tryz.func79, Tryz.ntmps79
      go_wp2_with (go_at_call 80; refine HP.out.mono ?_; rintro e w' ⟨rfl, rfl⟩)
      go_ret
      exact ⟨rfl, rfl⟩
theorem bt_is (s : ByteArray) (k : Nat) (h : k < s.size) : (((s[k]'h).toNat : Nat) : Int) = bt s (k : Int) := by
  unfold bt
  rw [dif_pos (by simpa using h)]
  rfl
theorem all_no (xs : List Int) (p : Int → Bool) (k : Nat) (hk : k < xs.length) (h : p (xs.getD k 0) = false) : xs.all p = false := by
  rw [List.all_eq_false]
  refine ⟨xs.getD k 0, ?_, by rw [h]; decide⟩
  rw [List.getD_eq_getElem?_getD, List.getElem?_eq_getElem hk]
  exact List.getElem_mem hk
theorem all_yes (xs : List Int) (p : Int → Bool) (k : Nat) (hk : k < xs.length) (h : (xs.take k).all p = true) (h1 : p (xs.getD k 0) = true) : (xs.take (k + 1)).all p = true := by
  rw [List.take_add_one, List.getElem?_eq_getElem hk, List.all_append, h, Bool.true_and]
  rw [List.getD_eq_getElem?_getD, List.getElem?_eq_getElem hk] at h1
  simpa using h1
set_option maxHeartbeats 1000000 in
/-- Do all bytes pass? (A predicate that neither writes nor draws.) -/
theorem each_calls (s : ByteArray) (g : Nat) (is : Int → Bool) (hs : s.size ≤ 1000000) (eg : ∀ args w, (callFunc g args).run Tryz.prog w = .ok (.enter g args) w)
    (hcl : ∀ c, 0 ≤ c ∧ c ≤ 255 → ∀ W, Calls Tryz.prog g #[.int .u8 c] W fun e w' => e = .returned (.bool (is c)) ∧ w' = W) (w : World) :
    Calls Tryz.prog 78 #[.string s, .func (.func g) #[] #[]] w fun e w' => e = .returned (.bool ((bytesOf s).all is)) ∧ w' = w := by
  have HCL := Aside0.mk hcl
  obtain ⟨r, hr⟩ : ∃ r, r = (bytesOf s).all is := ⟨_, rfl⟩
  rw [← hr]
  have HR := Aside0.mk hr
  clear hcl hr
  go_enter Tryz.func78, Tryz.ntmps78
  go_wp2
  go_loopw [8] (fun i wr => ∃ k : Nat, k ≤ s.size ∧ i = .int .i64 k ∧ wr = w ∧ Aside0 (((bytesOf s).take k).all is = true)) (fun i _ => s.size - (intOf i).toNat)
  case atStart => exact ⟨0, Nat.zero_le _, rfl, rfl, ⟨rfl⟩⟩
  case round =>
    obtain ⟨k, hk, rfl, rfl, HA⟩ := hrel
    by_cases hlt : k < s.size
    · have hl : k < (bytesOf s).length := by rw [bytesOf_length]; exact hlt
      have hbt := btD_at s k hlt
      have hrg := bt_range s k hlt
      have HL := Aside0.mk hl
      have t1 : decide (k < s.size) = true := decide_eq_true hlt
      have t2 : decide ((k : Int) < (s.size : Int)) = true := decide_eq_true (by omega)
      have hx := bt_is s k hlt
      obtain ⟨c, hc⟩ : ∃ c, c = bt s (k : Int) := ⟨_, rfl⟩
      have HC := Aside0.mk (HCL.out c (by rw [hc]; exact hrg) wr)
      rw [← hc] at hbt hx
      have HB := Aside0.mk hbt
      clear hbt hl hrg hc
      cases hb : is c with
      | true =>
        rw [hb] at HC
        have HQ := Aside0.mk hb
        clear hb
        go_wp2_with (go_at_fn g; refine HC.out.mono ?_; rintro e w' ⟨rfl, rfl⟩)
        go_roundw
        case rel => exact ⟨k + 1, by omega, by go_num, by trivial, ⟨all_yes _ _ k HL.out HA.out (by rw [← HB.out]; exact HQ.out)⟩⟩
        case measure => first | (simp [intOf]; done) | (simp [intOf]; omega)
      | false =>
        rw [hb] at HC
        have HQ := Aside0.mk hb
        clear hb
        go_wp2_with (go_at_fn g; refine HC.out.mono ?_; rintro e w' ⟨rfl, rfl⟩)
        go_ret
        exact ⟨by rw [HR.out, all_no _ _ k HL.out (by rw [← HB.out]; exact HQ.out)]; rfl, rfl⟩
    · have hks : k = s.size := by omega
      subst hks
      have t1 : decide (s.size < s.size) = false := decide_eq_false (Nat.lt_irrefl _)
      go_wp2
      go_ret
      exact ⟨by rw [HR.out, show (bytesOf s).all is = true by have := HA.out; rwa [← bytesOf_length, List.take_length] at this]; rfl, rfl⟩
theorem atom_calls (s : ByteArray) (hs : s.size ≤ 1000000) (w : World) : Calls Tryz.prog 100 #[.string s] w fun e w' => e = .returned (.bool ((bytesOf s).all atomC)) ∧ w' = w := by
  have HE := Aside0.mk (each_calls s 114 atomC hs (enters_of Tryz.func114 (by kernel_rfl) rfl) (fun c hc W => atom1_calls c hc W) w)
  go_enter Tryz.func100, Tryz.ntmps100
  go_wp2_with (go_at_call 78; refine HE.out.mono ?_; rintro e w' ⟨rfl, rfl⟩)
  go_ret
  exact ⟨rfl, rfl⟩
def labelB (s : ByteArray) : Bool := (bytesOf s).all labelC && (bt s 0 != 45 && bt s ((s.size : Int) - 1) != 45)
theorem label_calls (s : ByteArray) (hs : s.size ≤ 1000000) (h1 : 1 ≤ s.size) (w : World) : Calls Tryz.prog 52 #[.string s] w fun e w' => e = .returned (.bool (labelB s)) ∧ w' = w := by
  have HE := Aside0.mk (each_calls s 79 labelC hs (enters_of Tryz.func79 (by kernel_rfl) rfl) (fun c hc W => label1_calls c hc W) w)
  obtain ⟨m, hm⟩ : ∃ m, s.size = m + 1 := ⟨s.size - 1, by omega⟩
  have hx0 := bt_is s 0 (by omega)
  have hxm := bt_is s m (by omega)
  have em : ((s.size : Int) - 1) = (m : Int) := by omega
  unfold labelB
  rw [em]
  have hm1 : (0 < s.size) = True := eq_true (by omega)
  have hm2 : (m < s.size) = True := eq_true (by omega)
  have hm3 : decide ((m : Int) < (s.size : Int)) = true := decide_eq_true (by omega)
  cases hb : (bytesOf s).all labelC with
  | false =>
    rw [hb] at HE
    go_enter Tryz.func52, Tryz.ntmps52
    go_wp2_with (go_at_call 78; refine HE.out.mono ?_; rintro e w' ⟨rfl, rfl⟩)
    go_ret
    exact ⟨rfl, rfl⟩
  | true =>
    rw [hb] at HE
    rw [Bool.true_and]
    go_enter Tryz.func52, Tryz.ntmps52
    go_wp2_with (go_at_call 78; refine HE.out.mono ?_; rintro e w' ⟨rfl, rfl⟩)
    all_goals go_ret
    all_goals refine ⟨?_, rfl⟩
    all_goals first | rfl | simp_all
end Go.Proofs.YtjggdkcfpdhoaaaGreatDoor.Path
/- path.dotted, path.Local, path.Domain: parts with dots between. -/
namespace Go.Proofs.YtjggdkcfpdhoaaaGreatDoor.Dotted
open Go Go.RowKit Go.Shelf Go.Proofs.YtjggdkcfpdhoaaaGreatDoorW.PrintWords Go.Proofs.YtjggdkcfpdhoaaaGreatDoor.Dots Go.Proofs.YtjggdkcfpdhoaaaGreatDoor.RBox Go.Proofs.YtjggdkcfpdhoaaaGreatDoor.Seq Go.Proofs.YtjggdkcfpdhoaaaGreatDoor.Path
set_option linter.unusedVariables false
set_option linter.unusedSimpArgs false
/-- strings.SplitSeq: a closure over three places. -/
theorem splitSeq_calls (s sep : ByteArray) (w : World) : Calls Tryz.prog 77 #[.string s, .string sep] w fun e w' =>
    e = .returned (.func (.func 112) #[] #[.pointer (some ⟨w.heap.size + 1, 0, none⟩), .pointer (some ⟨w.heap.size, 0, none⟩), .pointer (some ⟨w.heap.size + 2, 0, none⟩)]) ∧
    w' = ((w.alloc (.cells #[.string s] 9 (0, 0))).alloc (.cells #[.string sep] 9 (0, 0))).alloc (.cells #[.int .i64 0] 3 (0, 0)) := by
  have h1 : Calls Tryz.prog 99 #[.string s, .string sep, .int .i64 0] w fun e w' =>
      e = .returned (.func (.func 112) #[] #[.pointer (some ⟨w.heap.size + 1, 0, none⟩), .pointer (some ⟨w.heap.size, 0, none⟩), .pointer (some ⟨w.heap.size + 2, 0, none⟩)]) ∧
      w' = ((w.alloc (.cells #[.string s] 9 (0, 0))).alloc (.cells #[.string sep] 9 (0, 0))).alloc (.cells #[.int .i64 0] 3 (0, 0)) := by
    go_enter Tryz.func99, Tryz.ntmps99
    go_wp2
    go_ret
    exact ⟨rfl, rfl⟩
  have H1 := Aside0.mk h1
  clear h1
  go_enter Tryz.func77, Tryz.ntmps77
  go_wp2_with (go_at_call 99; refine H1.out.mono ?_; rintro e w' ⟨rfl, rfl⟩)
  go_ret
  exact ⟨rfl, rfl⟩
def partOK (is : List Int → Bool) (l : List Int) : Bool := !l.isEmpty && is l
def dottedL (most : Nat) (is : List Int → Bool) (l : List Int) : Bool := decide (l.length ≤ most) && (cuts 46 l).all (partOK is)
attribute [local go_sem] Oper.semAt_some
set_option maxRecDepth 100000 in
set_option maxHeartbeats 2000000 in
theorem dotted_calls (s : ByteArray) (most : Nat) (hm : most ≤ 1000) (g : Nat) (is : List Int → Bool) (hs : s.size ≤ 1000000) (eg : ∀ args w, (callFunc g args).run Tryz.prog w = .ok (.enter g args) w)
    (hcl : ∀ p : ByteArray, 1 ≤ p.size → p.size ≤ 1000000 → ∀ W, Calls Tryz.prog g #[.string p] W fun e w' => e = .returned (.bool (is (bytesOf p))) ∧ w' = W) (w : World) :
    Calls Tryz.prog 51 #[.string s, .int .i64 most, .func (.func g) #[] #[]] w fun e w' => e = .returned (.bool (dottedL most is (bytesOf s))) ∧ Below w.heap.size w w' := by
  have HCL := Aside0.mk hcl
  obtain ⟨r, hr⟩ : ∃ r, r = dottedL most is (bytesOf s) := ⟨_, rfl⟩
  rw [← hr]
  by_cases hlt : most < s.size
  · have hrf : r = false := by rw [hr, dottedL, bytesOf_length, decide_eq_false (by omega), Bool.false_and]
    rw [hrf]
    clear hr hcl
    have t1 : decide ((most : Int) < (s.size : Int)) = true := decide_eq_true (by omega)
    go_enter Tryz.func51, Tryz.ntmps51
    go_wp2
    refine bodyPost_ret (v := .bool false) (by simp [results, Tryz.results51, go_sem]) rfl ⟨rfl, ?_⟩
    exact ((Below.refl _ w).alloc (Nat.le_refl _) _).alloc (by simp) _
  · have HR := Aside0.mk hr
    clear hr hcl
    have t1 : decide ((most : Int) < (s.size : Int)) = false := decide_eq_false (by omega)
    have HSP := Aside0.mk (splitSeq_calls s ⟨#[46]⟩)
    refine (callsIn_wide (n := 5)).1 ?_
    refine callsIn_of_wp_marks Tryz.func51 rfl trivial ?_ rfl
    simp only [Tryz.ntmps51, List.size_toArray, List.length_cons, List.length_nil, Nat.reduceAdd, Nat.reduceSub, Array.replicate_succ, Array.replicate_zero, List.push_toArray, List.append_toArray, List.nil_append, List.cons_append]
    gi_wp2_with (refine ⟨trivial, ?_⟩; gi_at_call 77; refine (callsIn_wide.2 (HSP.out _)).mono ?_; rintro e w' ⟨rfl, rfl⟩)
    obtain ⟨W0, hW0⟩ : ∃ W0, W0 = ((((w.alloc (Obj.cells #[Value.func (Fn.func g) #[] #[]] 32 (0, 0))).alloc (Obj.cells #[Value.bool false] 4 (0, 0))).alloc (Obj.cells #[Value.string s] 9 (0, 0))).alloc (Obj.cells #[Value.string { data := #[46] }] 9 (0, 0))).alloc (Obj.cells #[Value.int IntKind.i64 0] 3 (0, 0)) := ⟨_, rfl⟩
    have hz : W0.heap.size = w.heap.size + 5 := by rw [hW0]; simp only [World.size_alloc]
    have hc0 : W0.cell? ⟨w.heap.size, 0, none⟩ = some (.func (.func g) #[] #[]) := by
      rw [hW0, World.cell?_alloc_past _ _ _ (by simp only [World.size_alloc]; omega), World.cell?_alloc_past _ _ _ (by simp only [World.size_alloc]; omega), World.cell?_alloc_past _ _ _ (by simp only [World.size_alloc]; omega), World.cell?_alloc_past _ _ _ (by simp only [World.size_alloc]; omega), World.cell?_alloc_new]
      rfl
    have hc1 : W0.cell? ⟨w.heap.size + 1, 0, none⟩ = some (.bool false) := by rw [hW0]; simp [World.cell?_alloc_at, World.cell?_alloc_past, World.frozen?_alloc_at, World.frozen?_alloc_past]
    have hf1 : W0.frozen? ⟨w.heap.size + 1, 0, none⟩ = false := by rw [hW0]; simp [World.cell?_alloc_at, World.cell?_alloc_past, World.frozen?_alloc_at, World.frozen?_alloc_past]
    have hc2 : W0.cell? ⟨w.heap.size + 1 + 1, 0, none⟩ = some (.string s) := by rw [hW0]; simp [World.cell?_alloc_at, World.cell?_alloc_past, World.frozen?_alloc_at, World.frozen?_alloc_past]
    have hf2 : W0.frozen? ⟨w.heap.size + 1 + 1, 0, none⟩ = false := by rw [hW0]; simp [World.cell?_alloc_at, World.cell?_alloc_past, World.frozen?_alloc_at, World.frozen?_alloc_past]
    have hc3 : W0.cell? ⟨w.heap.size + 1 + 1 + 1, 0, none⟩ = some (.string ⟨#[46]⟩) := by rw [hW0]; simp [World.cell?_alloc_at, World.cell?_alloc_past, World.frozen?_alloc_at, World.frozen?_alloc_past]
    have hc4 : W0.cell? ⟨w.heap.size + 1 + 1 + 2, 0, none⟩ = some (.int .i64 0) := by rw [hW0]; simp [World.cell?_alloc_at, World.cell?_alloc_past, World.frozen?_alloc_at, World.frozen?_alloc_past]
    have hB0 : Below w.heap.size w W0 := by rw [hW0]; exact (((((Below.refl _ w).alloc (by simp) _).alloc (by simp) _).alloc (by simp; omega) _).alloc (by simp; omega) _).alloc (by simp; omega) _
    rw [← hW0]
    clear hW0 HSP
    refine range_box (F := Fence.wide) (n := 5) rfl (by omega) (gf := 112) (lb := #[.pointer (some ⟨w.heap.size + 1 + 1 + 1, 0, none⟩), .pointer (some ⟨w.heap.size + 1 + 1, 0, none⟩), .pointer (some ⟨w.heap.size + 1 + 1 + 2, 0, none⟩)]) rfl trivial
      (enters_of Tryz.func112 (by kernel_rfl) rfl) (by rw [hz]; omega) (by simp; omega) (split1_box (5 - 1) (by omega) 46 _ _ _ s hs W0 hc3 hc2 hf2 hc4 (by omega) (by omega)) (Below.refl _ _) (fun _ => rfl)
      (fun pre W => ((W.cell? ⟨w.heap.size, 0, none⟩ = some (.func (.func g) #[] #[]) ∧ W.cell? ⟨w.heap.size + 1, 0, none⟩ = some (.bool false) ∧ W.frozen? ⟨w.heap.size + 1, 0, none⟩ = false) ∧ (pre.map bT).all (partOK is) = true) ∧ Below w.heap.size w W)
      (fun c pre W => ((W.cell? ⟨w.heap.size + 1, 0, none⟩ = some (.bool false)) ∧ c = .ret ∧ (pre.map bT).all (partOK is) = false) ∧ Below w.heap.size w W)
      ?hI ?hIx ?hIb ⟨⟨⟨hc0, hc1, hf1⟩, rfl⟩, hB0⟩
      (fun x : Txt => { tmps := #[Value.string s, Value.int IntKind.i64 most, Value.func (Fn.func g) #[] #[], undef, undef, Value.pointer (some { block := w.heap.size, off := 0 }), Value.pointer (some { block := w.heap.size + 1, off := 0 }), Value.string x.1, Value.string s,
          Value.int IntKind.i64 s.size, Value.int IntKind.i64 most, Value.bool false, Value.string s, Value.func (Fn.func 112) #[] #[Value.pointer (some { block := w.heap.size + 1 + 1 + 1, off := 0 }), Value.pointer (some { block := w.heap.size + 1 + 1, off := 0 }), Value.pointer (some { block := w.heap.size + 1 + 1 + 2, off := 0 })],
          Value.string x.1, undef, undef, undef, undef, undef, undef, undef, undef], defers := [] }) ?assign ?body ?done ?stop
    case hI =>
      exact OwnFrom.and (Own.from (fun s A B row hs hg hr => ⟨⟨cell_kept hs.1.1 hg hr, cell_kept hs.1.2.1 hg hr, (frozen_kept hs.1.2.1 hg hr).trans hs.1.2.2⟩, hs.2⟩) _) (ownFrom_below (Nat.le_refl _) (by rw [hz]; omega))
    case hIx =>
      intro c
      exact OwnFrom.and (Own.from (fun s A B row hs hg hr => ⟨cell_kept hs.1 hg hr, hs.2⟩) _) (ownFrom_below (Nat.le_refl _) (by rw [hz]; omega))
    case hIb =>
      rintro pre W v ⟨⟨⟨h1, h2, h3⟩, h4⟩, h5⟩
      exact ⟨⟨⟨(World.cell?_setCell_other _ _ _ _ (by simp)).trans h1, (World.cell?_setCell_other _ _ _ _ (by simp)).trans h2, by rw [World.frozen?_setCell]; exact h3⟩, h4⟩, h5.setCell (p := ⟨_, 0, none⟩) (by simp; omega) _⟩
    case assign =>
      intro l x W K hK
      gi_wp2
      exact hK
    case body =>
      rintro l pre ⟨x, hxs⟩ W ⟨⟨⟨h1, h2, h3⟩, h4⟩, h5⟩ hlen
      dsimp only
      have hd : 1 ≤ 5 - 1 - 1 := by omega
      have hxe : x.toList.isEmpty = (bytesOf x).isEmpty := by rw [toList_data, bytesOf, List.isEmpty_map]
      have hsn : ∀ b : Bool, partOK is (bytesOf x) = b → (((pre ++ [(⟨x, hxs⟩ : Txt)]).map bT).all (partOK is) = b) := fun b hb => by rw [List.map_append, List.all_append, h4, Bool.true_and]; simpa [bT] using hb
      have HSN := Aside0.mk hsn
      clear hsn
      cases hx : x.toList.isEmpty with
      | true =>
        have HP := Aside0.mk (HSN.out false (by rw [partOK, ← hxe, hx]; rfl))
        clear hxe
        gi_wp2
        refine ⟨fun _ h => (by cases h), ?_⟩
        gi_wp2
        exact ⟨KeepsOthers.setCell _ _ _, ⟨World.cell?_setCell_same' _ _ _ (by rw [h2]; rfl), rfl, HP.out⟩, h5.setCell (p := ⟨_, 0, none⟩) (by simp) _⟩
      | false =>
        have hx0 : 1 ≤ x.size := by
          rw [hxe] at hx
          have h9 := bytesOf_length x
          cases h8 : bytesOf x with
          | nil => rw [h8] at hx; simp at hx
          | cons a l => rw [h8] at h9; simp at h9; omega
        have HC := Aside0.mk (HCL.out x hx0 hxs W)
        cases hb : is (bytesOf x) with
        | true =>
          rw [hb] at HC
          have HP := Aside0.mk (HSN.out true (by rw [partOK, ← hxe, hx, hb]; rfl))
          clear hxe hx0
          gi_wp2_with (refine ⟨trivial, ?_⟩; refine (CallsIn.inRound l (callsIn_wide.2 HC.out)).mono ?_; rintro e w' ⟨rfl, rfl⟩)
          exact ⟨(KeepsOthers.refl _), fun _ _ => rfl, ⟨⟨h1, h2, h3⟩, HP.out⟩, h5⟩
        | false =>
          rw [hb] at HC
          have HP := Aside0.mk (HSN.out false (by rw [partOK, ← hxe, hx, hb]; rfl))
          clear hxe hx0
          gi_wp2_with (refine ⟨trivial, ?_⟩; refine (CallsIn.inRound l (callsIn_wide.2 HC.out)).mono ?_; rintro e w' ⟨rfl, rfl⟩)
          exact ⟨KeepsOthers.setCell _ _ _, ⟨World.cell?_setCell_same' _ _ _ (by rw [h2]; rfl), rfl, HP.out⟩, h5.setCell (p := ⟨_, 0, none⟩) (by simp) _⟩
    case done =>
      rintro D xs W hD hxs ⟨⟨⟨h1, h2, h3⟩, h4⟩, h5⟩ hK
      gi_wp2
      have hx2 : xs.map bT = cuts 46 (bytesOf s) := hxs
      have hr1 : r = true := by rw [HR.out, dottedL, bytesOf_length, decide_eq_true (by omega), Bool.true_and, ← hx2]; exact h4
      refine ⟨by simp, .inl ⟨_, _, rfl, run_takeDeferred ((KeepsOthers.setCell _ _ _).same D _ hK rfl), ?_⟩⟩
      have hc9 : (W.setCell ⟨w.heap.size + 1, 0, none⟩ (.bool true)).cell? ⟨w.heap.size + 1, 0, none⟩ = some (.bool true) := World.cell?_setCell_same' _ _ _ (by rw [h2]; rfl)
      have hc8 := cell_kept hc9 (grownBy_putObj' _ D (.deferred none)) (fun r e => by cases e; exact ⟨_, (KeepsOthers.setCell _ _ _).same D _ hK rfl, rfl⟩)
      exact ⟨.bool true, by simp [results, Tryz.results51, go_sem, hc8], by rw [hr1], (h5.setCell (p := ⟨_, 0, none⟩) (by simp) _).trans (belowK_b (w := w) (Nat.le_refl _) _ D _ _ (by omega) ((KeepsOthers.setCell _ _ _).same D _ hK rfl) rfl rfl)⟩
    case stop =>
      rintro D c pre W hD hpre ⟨⟨h1, rfl, h4⟩, h5⟩ hK
      gi_wp2
      have hr1 : r = false := by
        rw [HR.out, dottedL, Bool.and_eq_false_iff]
        right
        obtain ⟨t, ht⟩ := hpre
        have ht : pre.map bT ++ t = cuts 46 (bytesOf s) := ht
        rw [← ht, List.all_append, h4, Bool.false_and]
      refine ⟨by simp, .inl ⟨_, _, rfl, run_takeDeferred hK, ?_⟩⟩
      have hc8 := cell_kept h1 (grownBy_putObj' _ D (.deferred none)) (fun r e => by cases e; exact ⟨_, hK, rfl⟩)
      exact ⟨.bool false, by simp [results, Tryz.results51, go_sem, hc8], by rw [hr1], h5.trans (belowK_b (w := w) (Nat.le_refl _) W D _ _ (by omega) hK rfl rfl)⟩
def atomL (l : List Int) : Bool := l.all atomC
def labelL (l : List Int) : Bool := l.all labelC && (l.getD 0 0 != 45 && l.getD (l.length - 1) 0 != 45)
def localB (s : ByteArray) : Bool := dottedL 64 atomL (bytesOf s)
def domainB (s : ByteArray) : Bool := dottedL 100 labelL (bytesOf s)
theorem labelB_eq (p : ByteArray) (h1 : 1 ≤ p.size) : labelB p = labelL (bytesOf p) := by
  have e0 := btD_at p 0 (by omega)
  have e1 := btD_at p (p.size - 1) (by omega)
  have e2 : ((p.size : Int) - 1) = ((p.size - 1 : Nat) : Int) := by omega
  rw [labelB, labelL, bytesOf_length, e2, e1, ← e0]
  rfl
theorem local_calls (s : ByteArray) (hs : s.size ≤ 1000000) (w : World) : Calls Tryz.prog 81 #[.string s] w fun e w' => e = .returned (.bool (localB s)) ∧ Below w.heap.size w w' := by
  have HD := Aside0.mk (dotted_calls s 64 (by omega) 100 atomL hs (enters_of Tryz.func100 (by kernel_rfl) rfl) (fun p h1 h2 W => atom_calls p h2 W) w)
  go_enter Tryz.func81, Tryz.ntmps81
  go_wp2_with (go_at_call 51; refine HD.out.mono ?_; rintro e w' ⟨rfl, hB⟩)
  go_ret
  exact ⟨rfl, hB⟩
theorem domain_calls (s : ByteArray) (hs : s.size ≤ 1000000) (w : World) : Calls Tryz.prog 37 #[.string s] w fun e w' => e = .returned (.bool (domainB s)) ∧ Below w.heap.size w w' := by
  have HD := Aside0.mk (dotted_calls s 100 (by omega) 52 labelL hs (enters_of Tryz.func52 (by kernel_rfl) rfl) (fun p h1 h2 W => by rw [← labelB_eq p h1]; exact label_calls p h2 h1 W) w)
  go_enter Tryz.func37, Tryz.ntmps37
  go_wp2_with (go_at_call 51; refine HD.out.mono ?_; rintro e w' ⟨rfl, hB⟩)
  go_ret
  exact ⟨rfl, hB⟩
end Go.Proofs.YtjggdkcfpdhoaaaGreatDoor.Dotted
/- strings.Cut at one byte; path.Take: the path at a text's beginning. -/
namespace Go.Proofs.YtjggdkcfpdhoaaaGreatDoor.Take
open Go Go.RowKit Go.Proofs.YtjggdkcfpdhoaaaGreatDoorW.PrintWords Go.Proofs.YtjggdkcfpdhoaaaGreatDoor.Dots Go.Proofs.YtjggdkcfpdhoaaaGreatDoor.Dotted
set_option linter.unusedVariables false
set_option linter.unusedSimpArgs false
/-- Where a byte first stands; -1. -/
def cutI (s : ByteArray) (d : UInt8) : Int := Lib.indexByte s.data.toList d
def cutA (s : ByteArray) (d : UInt8) : ByteArray := if cutI s d < 0 then s else s.extract 0 (cutI s d).toNat
def cutB (s : ByteArray) (d : UInt8) : ByteArray := if cutI s d < 0 then ⟨#[]⟩ else s.extract ((cutI s d).toNat + 1) s.size
def cutF (s : ByteArray) (d : UInt8) : Bool := decide (0 ≤ cutI s d)
theorem cutI_hit (s : ByteArray) (d : UInt8) (i : Nat) (h : cutI s d = i) : i < s.size := (Seq.cuts_hit s d i h).1
theorem cutA_size (s : ByteArray) (d : UInt8) : (cutA s d).size ≤ s.size := by
  unfold cutA
  split
  · exact Nat.le_refl _
  · rw [ByteArray.size_extract]; omega
theorem cutB_size (s : ByteArray) (d : UInt8) : (cutB s d).size ≤ s.size := by
  unfold cutB
  split
  · exact Nat.zero_le _
  · rw [ByteArray.size_extract]; omega
set_option maxHeartbeats 1000000 in
theorem cut_calls (s : ByteArray) (d : UInt8) (hs : s.size ≤ 1000000) (w : World) : Calls Tryz.prog 15 #[.string s, .string ⟨#[d]⟩] w fun e w' =>
    e = .returned (.tuple #[.string (cutA s d), .string (cutB s d), .bool (cutF s d)]) ∧ ∃ n, w' = w.drewN n := by
  have h1 : Calls Tryz.prog 35 #[.string s, .string ⟨#[d]⟩] w fun e w' =>
      e = .returned (.tuple #[.string (cutA s d), .string (cutB s d), .bool (cutF s d)]) ∧ ∃ n, w' = w.drewN n := by
    have HI := Aside0.mk (Tryz.stringslite_Index_one s d w)
    by_cases hz : cutI s d < 0
    · have e1 : cutA s d = s := if_pos hz
      have e2 : cutB s d = ⟨#[]⟩ := if_pos hz
      have e3 : cutF s d = false := decide_eq_false (by omega)
      rw [e1, e2, e3]
      obtain ⟨z, hz2⟩ : ∃ z, z = Lib.indexByte s.data.toList d := ⟨_, rfl⟩
      have hz : z < 0 := by rw [hz2]; exact hz
      rw [← hz2] at HI
      clear hz2 e1 e2 e3
      have t1 : decide (0 ≤ z) = false := decide_eq_false (by omega)
      go_enter Tryz.func35, Tryz.ntmps35
      go_wp2_with (go_at_call 50; refine HI.out.mono ?_; rintro e w' ⟨rfl, rfl⟩)
      refine bodyPost_ret (v := .tuple #[.string s, .string ⟨#[]⟩, .bool false]) (by simp [results, Tryz.results35, go_sem]) rfl ⟨rfl, 0, rfl⟩
    · obtain ⟨i, hi⟩ : ∃ i : Nat, cutI s d = i := ⟨(cutI s d).toNat, by omega⟩
      have hil := cutI_hit s d i hi
      have e1 : cutA s d = s.extract 0 i := by rw [cutA, if_neg hz, hi]; rfl
      have e2 : cutB s d = s.extract (i + 1) s.size := by rw [cutB, if_neg hz, hi]; rfl
      have e3 : cutF s d = true := decide_eq_true (by omega)
      rw [e1, e2, e3]
      have hi2 : Lib.indexByte s.data.toList d = i := hi
      rw [hi2] at HI
      clear hi hi2 hz e1 e2 e3
      have t1 : decide (0 ≤ (i : Int)) = true := decide_eq_true (by omega)
      have hw1 : wrap64 (i : Int) = i := by unfold wrap64; omega
      have hw2 : wrap64 ((i : Int) + 1) = i + 1 := by unfold wrap64; omega
      have hle : i ≤ s.size := by omega
      have hle1 : i + 1 ≤ s.size := by omega
      go_enter Tryz.func35, Tryz.ntmps35
      go_wp2_with (go_at_call 50; refine HI.out.mono ?_; rintro e w' ⟨rfl, rfl⟩)
      go_region
      go_wp2
      refine bodyPost_ret (v := .tuple #[.string (s.extract 0 i), .string (s.extract (i + 1) s.size), .bool true]) (by simp [results, Tryz.results35, go_sem]) rfl ⟨rfl, 1, rfl⟩
  have H1 := Aside0.mk h1
  clear h1
  go_enter Tryz.func15, Tryz.ntmps15
  go_wp2_with (go_at_call 35; refine H1.out.mono ?_; rintro e w' ⟨rfl, n, rfl⟩)
  refine bodyPost_ret (v := .tuple #[.string (cutA s d), .string (cutB s d), .bool (cutF s d)]) (by simp [results, Tryz.results15, go_sem]) rfl ⟨rfl, n, rfl⟩
def emptyB : ByteArray := ⟨#[]⟩
def preF (s : ByteArray) (d : UInt8) : Bool := Lib.hasPrefix s.data.toList [d]
def preT (s : ByteArray) (d : UInt8) : ByteArray := ⟨(Lib.trimPrefix s.data.toList [d]).toArray⟩
theorem preT_size (s : ByteArray) (d : UInt8) : (preT s d).size ≤ s.size := by
  have e : (preT s d).size = (Lib.trimPrefix s.data.toList [d]).length := by show (Lib.trimPrefix s.data.toList [d]).toArray.size = _; simp
  have e2 : s.data.toList.length = s.size := data_length s
  rw [e, ← e2]
  unfold Lib.trimPrefix
  split <;> simp
theorem prefix_calls (s : ByteArray) (d : UInt8) (w : World) : Calls Tryz.prog 55 #[.string s, .string ⟨#[d]⟩] w fun e w' =>
    e = .returned (.tuple #[.string (preT s d), .bool (preF s d)]) ∧ w' = w := Tryz.strings_CutPrefix s ⟨#[d]⟩ w
def takeG (b1 b2 b3 b4 b5 b6 : Bool) (l d q : ByteArray) : Option (ByteArray × ByteArray × ByteArray) :=
  if b1 = false then none else if b2 = false then none else if b3 = true then some (l, d, q) else if b4 = false then none else if b5 = false then none else if b6 = false then none else some (l, d, q)
/-- The path at a text's beginning: its two parts, what is behind it; i: what stands between the brackets. -/
def takeI (s i : ByteArray) : Option (ByteArray × ByteArray × ByteArray) :=
  takeG (preF (cutA s 62) 60) (cutF s 62) i.toList.isEmpty (cutF i 64) (localB (cutA i 64)) (domainB (cutB i 64)) (cutA i 64) (cutB i 64) (cutB s 62)
def takeB (s : ByteArray) : Option (ByteArray × ByteArray × ByteArray) := takeI s (preT (cutA s 62) 60)
def takeV (ev : Value) : Option (ByteArray × ByteArray × ByteArray) → Value
  | some (l, d, r) => .tuple #[.agg #[.string l, .string d], .string r, .nilIface]
  | none => .tuple #[.agg #[.string emptyB, .string emptyB], .string emptyB, ev]
/-- What lies there when all is cut: the result's place, the path's. -/
structure TW (w : World) (l d : ByteArray) (ev : Value) (W : World) : Prop where
  e : W.cell? ⟨1, 0, none⟩ = some ev
  ra : W.cell? ⟨w.heap.size, 0, none⟩ = some (.string ⟨#[]⟩)
  rb : W.cell? ⟨w.heap.size, 1, none⟩ = some (.string ⟨#[]⟩)
  pa : W.cell? ⟨w.heap.size + 1, 0, none⟩ = some (.string l)
  pb : W.cell? ⟨w.heap.size + 1, 1, none⟩ = some (.string d)
  fa : W.frozen? ⟨w.heap.size, 0, none⟩ = false
  fb : W.frozen? ⟨w.heap.size, 1, none⟩ = false
  sz : w.heap.size + 2 ≤ W.heap.size
  bel : Below w.heap.size w W
theorem TW.start (w : World) (l d : ByteArray) (ev : Value) (n : Nat) (hE : w.cell? ⟨1, 0, none⟩ = some ev) :
    TW w l d ev (((w.alloc (Obj.cells #[Value.string ⟨#[]⟩, Value.string ⟨#[]⟩] 24)).drewN n).alloc (Obj.cells #[Value.string l, Value.string d] 24)) := by
  have hlt : 1 < w.heap.size := World.block_lt_of_cell? w _ hE
  have e1 : ((w.alloc (Obj.cells #[Value.string ⟨#[]⟩, Value.string ⟨#[]⟩] 24)).drewN n).heap.size = w.heap.size + 1 := World.size_alloc _ _
  have old : ∀ b i, b < w.heap.size + 1 → (((w.alloc (Obj.cells #[Value.string ⟨#[]⟩, Value.string ⟨#[]⟩] 24)).drewN n).alloc (Obj.cells #[Value.string l, Value.string d] 24)).cell? ⟨b, i, none⟩ = (w.alloc (Obj.cells #[Value.string ⟨#[]⟩, Value.string ⟨#[]⟩] 24)).cell? ⟨b, i, none⟩ := fun b i h => World.cell?_alloc_past _ _ _ (by rw [e1]; exact h)
  have oldf : ∀ b i, b < w.heap.size + 1 → (((w.alloc (Obj.cells #[Value.string ⟨#[]⟩, Value.string ⟨#[]⟩] 24)).drewN n).alloc (Obj.cells #[Value.string l, Value.string d] 24)).frozen? ⟨b, i, none⟩ = (w.alloc (Obj.cells #[Value.string ⟨#[]⟩, Value.string ⟨#[]⟩] 24)).frozen? ⟨b, i, none⟩ := fun b i h => World.frozen?_alloc_past _ _ _ (by rw [e1]; exact h)
  refine ⟨?_, ?_, ?_, ?_, ?_, ?_, ?_, ?_, ?_⟩
  · rw [old _ _ (by omega), World.cell?_alloc_past _ _ _ hlt]; exact hE
  · rw [old _ _ (by omega), World.cell?_alloc_at _ _ _ _ rfl]; rfl
  · rw [old _ _ (by omega), World.cell?_alloc_at _ _ _ _ rfl]; rfl
  · rw [World.cell?_alloc_at _ _ _ _ e1.symm]; rfl
  · rw [World.cell?_alloc_at _ _ _ _ e1.symm]; rfl
  · rw [oldf _ _ (by omega), World.frozen?_alloc_at _ _ _ _ rfl]
  · rw [oldf _ _ (by omega), World.frozen?_alloc_at _ _ _ _ rfl]
  · rw [World.size_alloc, e1]; omega
  · exact (pw_below_drewN ((Below.refl _ w).alloc (Nat.le_refl _) _) n).alloc (by rw [e1]; omega) _
theorem TW.below {w W W' : World} {l d : ByteArray} {ev : Value} (h : TW w l d ev W) (hb : Below W.heap.size W W') : TW w l d ev W' := by
  have h2 := h.sz
  have h1 : 1 < W.heap.size := World.block_lt_of_cell? W _ h.e
  have c : ∀ b i v, b < W.heap.size → W.cell? ⟨b, i, none⟩ = some v → W'.cell? ⟨b, i, none⟩ = some v := fun b i v hlt hc => (hb.cell (p := ⟨b, i, none⟩) hlt).trans hc
  exact ⟨c _ _ _ h1 h.e, c _ _ _ (by omega) h.ra, c _ _ _ (by omega) h.rb, c _ _ _ (by omega) h.pa, c _ _ _ (by omega) h.pb,
    (hb.frozen (p := ⟨w.heap.size, 0, none⟩) (by show w.heap.size < _; omega)).trans h.fa, (hb.frozen (p := ⟨w.heap.size, 1, none⟩) (by show w.heap.size < _; omega)).trans h.fb, Nat.le_trans h2 hb.size, h.bel.trans (hb.mono (by omega))⟩
set_option maxHeartbeats 2000000 in
theorem take_calls (s : ByteArray) (hs : s.size ≤ 1000000) (ev : Value) (w : World) (hE : w.cell? ⟨1, 0, none⟩ = some ev) :
    Calls Tryz.prog 54 #[.string s] w fun e w' => e = .returned (takeV ev (takeB s)) ∧ Below w.heap.size w w' := by
  have hlt : 1 < w.heap.size := World.block_lt_of_cell? w _ hE
  have s1 := cutA_size s 62
  obtain ⟨r, hr⟩ : ∃ r, r = takeB s := ⟨_, rfl⟩
  rw [← hr]
  unfold takeB takeI at hr
  have HC1 := Aside0.mk (fun W => cut_calls s 62 hs W)
  obtain ⟨i0, hi0⟩ : ∃ i0, i0 = cutA s 62 := ⟨_, rfl⟩
  have s2 := preT_size i0 60
  have HP := Aside0.mk (fun W => prefix_calls i0 60 W)
  rw [← hi0] at hr HC1 s1
  obtain ⟨i, hi⟩ : ∃ i, i = preT i0 60 := ⟨_, rfl⟩
  rw [← hi] at hr HP s2
  have HC2 := Aside0.mk (fun W => cut_calls i 64 (by omega) W)
  have s3 := cutA_size i 64
  have s4 := cutB_size i 64
  obtain ⟨l, hl⟩ : ∃ l, l = cutA i 64 := ⟨_, rfl⟩
  obtain ⟨d, hd⟩ : ∃ d, d = cutB i 64 := ⟨_, rfl⟩
  obtain ⟨q, hq⟩ : ∃ q, q = cutB s 62 := ⟨_, rfl⟩
  rw [← hl] at hr HC2 s3
  rw [← hd] at hr HC2 s4
  rw [← hq] at hr HC1
  have HL := Aside0.mk (fun W => local_calls l (by omega) W)
  have HD := Aside0.mk (fun W => domain_calls d (by omega) W)
  clear hi0 hi hl hd hq s1 s2 s3 s4
  go_enter Tryz.func54, Tryz.ntmps54
  go_upto_region 5 with (first
      | (go_at_call 15; first | (with_reducible refine (HC1.out _).mono ?_; rintro e w' ⟨rfl, n1, rfl⟩) | (with_reducible refine (HC2.out _).mono ?_; rintro e w' ⟨rfl, n2, rfl⟩))
      | (go_at_call 55; refine (HP.out _).mono ?_; rintro e w' ⟨rfl, rfl⟩))
  have HT := Aside0.mk (TW.start w l d ev (n1 + n2) hE)
  obtain ⟨W, hW⟩ : ∃ W, W = (((w.alloc (Obj.cells #[Value.string ⟨#[]⟩, Value.string ⟨#[]⟩] 24)).drewN (n1 + n2)).alloc (Obj.cells #[Value.string l, Value.string d] 24)) := ⟨_, rfl⟩
  rw [← hW] at HT ⊢
  clear hW
  have ha0 := HT.out.e; have hb0 := HT.out.ra; have hc0 := HT.out.rb; have hd0 := HT.out.pa; have he0 := HT.out.pb; have hf0 := HT.out.fa; have hg0 := HT.out.fb
  clear HC1 HC2 HP
  cases b1 : preF i0 60 with
  | false =>
    rw [b1] at hr
    have hr : r = none := hr
    subst hr
    go_wp2
    go_region
    go_wp2
    refine bodyPost_ret (v := takeV ev (none)) (by simp [results, Tryz.results54, go_sem, takeV, emptyB, hb0, hc0]) rfl ⟨rfl, pw_below_drewN ((HT.out.bel.setCell (p := ⟨w.heap.size, 0, none⟩) (Nat.le_refl _) _).setCell (p := ⟨w.heap.size, 1, none⟩) (Nat.le_refl _) _) 1⟩
  | true =>
    rw [b1] at hr
    cases b2 : cutF s 62 with
    | false =>
      rw [b2] at hr
      have hr : r = none := hr
      subst hr
      go_wp2
      go_region
      go_wp2
      refine bodyPost_ret (v := takeV ev (none)) (by simp [results, Tryz.results54, go_sem, takeV, emptyB, hb0, hc0]) rfl ⟨rfl, pw_below_drewN ((HT.out.bel.setCell (p := ⟨w.heap.size, 0, none⟩) (Nat.le_refl _) _).setCell (p := ⟨w.heap.size, 1, none⟩) (Nat.le_refl _) _) 1⟩
    | true =>
      rw [b2] at hr
      cases b3 : i.toList.isEmpty with
      | true =>
        rw [b3] at hr
        have hr : r = some (l, d, q) := hr
        subst hr
        go_wp2
        refine bodyPost_ret (v := takeV ev (some (l, d, q))) (by simp [results, Tryz.results54, go_sem, takeV, emptyB, hb0, hc0]) rfl ⟨rfl, (HT.out.bel.setCell (p := ⟨w.heap.size, 0, none⟩) (Nat.le_refl _) _).setCell (p := ⟨w.heap.size, 1, none⟩) (Nat.le_refl _) _⟩
      | false =>
        rw [b3] at hr
        cases b4 : cutF i 64 with
        | false =>
          rw [b4] at hr
          have hr : r = none := hr
          subst hr
          go_wp2
          go_region
          go_wp2
          refine bodyPost_ret (v := takeV ev (none)) (by simp [results, Tryz.results54, go_sem, takeV, emptyB, hb0, hc0]) rfl ⟨rfl, pw_below_drewN ((HT.out.bel.setCell (p := ⟨w.heap.size, 0, none⟩) (Nat.le_refl _) _).setCell (p := ⟨w.heap.size, 1, none⟩) (Nat.le_refl _) _) 1⟩
        | true =>
          rw [b4] at hr
          cases b5 : localB l with
          | false =>
            rw [b5] at hr HL
            have hr : r = none := hr
            subst hr
            go_wp2_with (first
              | (go_at_call 81; refine (HL.out _).mono ?_; rintro e W1 ⟨rfl, hb1⟩; have HT1 := Aside0.mk (HT.out.below hb1); clear hb1; have ha1 := HT1.out.e; have hb1 := HT1.out.ra; have hc1 := HT1.out.rb; have hd1 := HT1.out.pa; have he1 := HT1.out.pb; have hf1 := HT1.out.fa; have hg1 := HT1.out.fb)
              | (go_at_call 37; refine (HD.out _).mono ?_; rintro e W2 ⟨rfl, hb2⟩; have HT2 := Aside0.mk (HT1.out.below hb2); clear hb2; have ha2 := HT2.out.e; have hb2 := HT2.out.ra; have hc2 := HT2.out.rb; have hd2 := HT2.out.pa; have he2 := HT2.out.pb; have hf2 := HT2.out.fa; have hg2 := HT2.out.fb))
            go_region
            go_wp2
            refine bodyPost_ret (v := takeV ev (none)) (by simp [results, Tryz.results54, go_sem, takeV, emptyB, hb1, hc1]) rfl ⟨rfl, pw_below_drewN ((HT1.out.bel.setCell (p := ⟨w.heap.size, 0, none⟩) (Nat.le_refl _) _).setCell (p := ⟨w.heap.size, 1, none⟩) (Nat.le_refl _) _) 1⟩
          | true =>
            rw [b5] at hr HL
            cases b6 : domainB d with
            | false =>
              rw [b6] at hr HD
              have hr : r = none := hr
              subst hr
              go_wp2_with (first
                | (go_at_call 81; refine (HL.out _).mono ?_; rintro e W1 ⟨rfl, hb1⟩; have HT1 := Aside0.mk (HT.out.below hb1); clear hb1; have ha1 := HT1.out.e; have hb1 := HT1.out.ra; have hc1 := HT1.out.rb; have hd1 := HT1.out.pa; have he1 := HT1.out.pb; have hf1 := HT1.out.fa; have hg1 := HT1.out.fb)
                | (go_at_call 37; refine (HD.out _).mono ?_; rintro e W2 ⟨rfl, hb2⟩; have HT2 := Aside0.mk (HT1.out.below hb2); clear hb2; have ha2 := HT2.out.e; have hb2 := HT2.out.ra; have hc2 := HT2.out.rb; have hd2 := HT2.out.pa; have he2 := HT2.out.pb; have hf2 := HT2.out.fa; have hg2 := HT2.out.fb))
              go_region
              go_wp2
              refine bodyPost_ret (v := takeV ev (none)) (by simp [results, Tryz.results54, go_sem, takeV, emptyB, hb2, hc2]) rfl ⟨rfl, pw_below_drewN ((HT2.out.bel.setCell (p := ⟨w.heap.size, 0, none⟩) (Nat.le_refl _) _).setCell (p := ⟨w.heap.size, 1, none⟩) (Nat.le_refl _) _) 1⟩
            | true =>
              rw [b6] at hr HD
              have hr : r = some (l, d, q) := hr
              subst hr
              go_wp2_with (first
                | (go_at_call 81; refine (HL.out _).mono ?_; rintro e W1 ⟨rfl, hb1⟩; have HT1 := Aside0.mk (HT.out.below hb1); clear hb1; have ha1 := HT1.out.e; have hb1 := HT1.out.ra; have hc1 := HT1.out.rb; have hd1 := HT1.out.pa; have he1 := HT1.out.pb; have hf1 := HT1.out.fa; have hg1 := HT1.out.fb)
                | (go_at_call 37; refine (HD.out _).mono ?_; rintro e W2 ⟨rfl, hb2⟩; have HT2 := Aside0.mk (HT1.out.below hb2); clear hb2; have ha2 := HT2.out.e; have hb2 := HT2.out.ra; have hc2 := HT2.out.rb; have hd2 := HT2.out.pa; have he2 := HT2.out.pb; have hf2 := HT2.out.fa; have hg2 := HT2.out.fb))
              refine bodyPost_ret (v := takeV ev (some (l, d, q))) (by simp [results, Tryz.results54, go_sem, takeV, emptyB, hb2, hc2]) rfl ⟨rfl, (HT2.out.bel.setCell (p := ⟨w.heap.size, 0, none⟩) (Nat.le_refl _) _).setCell (p := ⟨w.heap.size, 1, none⟩) (Nat.le_refl _) _⟩
end Go.Proofs.YtjggdkcfpdhoaaaGreatDoor.Take
/- smtp.number: the number of one to nine digits; smtp.after: what is behind words, whatever their letters. -/
namespace Go.Proofs.YtjggdkcfpdhoaaaGreatDoor.Number
open Go Go.RowKit Go.Proofs.YtjggdkcfpdhoaaaGreatDoorW.PrintWords Go.Proofs.YtjggdkcfpdhoaaaGreatDoor.Large Go.Proofs.YtjggdkcfpdhoaaaGreatDoor.Take
set_option linter.unusedVariables false
set_option linter.unusedSimpArgs false
def digI (c : Int) : Bool := decide (48 ≤ c) && decide (c ≤ 57)
def valL (l : List Int) : Int := l.foldl (fun n c => 10 * n + (c - 48)) 0
/-- Is a text one to nine digits? -/
def numF (s : ByteArray) : Bool := decide (1 ≤ s.size) && (decide (s.size ≤ 9) && (bytesOf s).all digI)
def numV (s : ByteArray) : Int := if numF s = true then valL (bytesOf s) else 0
def tens : List UInt8 := [48, 49, 50, 51, 52, 53, 54, 55, 56, 57]
theorem tens_dig (b : UInt8) : tens.contains b = digI (b.toNat : Int) := by
  have h : ∀ n : Fin 256, tens.contains (UInt8.ofNat n.val) = digI (n.val : Int) := by decide +kernel
  have h1 := h ⟨b.toNat, b.toNat_lt⟩
  simpa using h1
theorem drop_nil (p : UInt8 → Bool) : ∀ l : List UInt8, l.dropWhile p = [] ↔ ∀ a ∈ l, p a = true
  | [] => by simp
  | a :: l => by
    cases h : p a with
    | true => simp [List.dropWhile_cons, h, drop_nil p l]
    | false => simp [List.dropWhile_cons, h]
theorem drop_head (p : UInt8 → Bool) (b : UInt8) (r : List UInt8) : ∀ l : List UInt8, l.dropWhile p = b :: r → p b = false
  | [], h => by simp at h
  | a :: l, h => by
    cases h1 : p a with
    | true => rw [List.dropWhile_cons, h1] at h; exact drop_head p b r l h
    | false =>
      rw [List.dropWhile_cons, h1] at h
      have h2 : a :: l = b :: r := h
      rw [List.cons.injEq] at h2
      rw [← h2.1]; exact h1
theorem trim_nil (l : List UInt8) : (Lib.trimS l tens).isEmpty = l.all (fun b => tens.contains b) := by
  have key : ∀ x : List UInt8, x.dropWhile (tens.contains ·) = [] ↔ ∀ a ∈ x, tens.contains a = true := fun x => drop_nil _ x
  rw [Bool.eq_iff_iff, List.isEmpty_iff, List.all_eq_true]
  show (Lib.trimRightS l tens).dropWhile (tens.contains ·) = [] ↔ _
  rw [key]
  constructor
  · intro h a ha
    have h2 : (l.reverse.dropWhile (tens.contains ·)) = [] := by
      cases h3 : l.reverse.dropWhile (tens.contains ·) with
      | nil => rfl
      | cons b r =>
        have h4 := h b (by show b ∈ (l.reverse.dropWhile (tens.contains ·)).reverse; rw [h3]; simp)
        have h5 := drop_head _ b r _ h3
        rw [h4] at h5
        exact absurd h5 (by simp)
    exact (key _).1 h2 a (by simpa using ha)
  · intro h a ha
    have h1 : a ∈ (l.reverse.dropWhile (tens.contains ·)).reverse := ha
    rw [List.mem_reverse] at h1
    exact h a (by simpa using (List.dropWhile_sublist _).subset h1)
theorem decFrom_digits : ∀ (l : List UInt8) (acc : Nat), (l.all fun b => tens.contains b) = true → Lib.decFrom acc l = some (l.foldl (fun n b => n * 10 + (b.toNat - 48)) acc) := by
  intro l
  induction l with
  | nil => intro acc _; rfl
  | cons b r ih =>
    intro acc h
    rw [List.all_cons, Bool.and_eq_true] at h
    have hd := h.1
    rw [tens_dig, digI, Bool.and_eq_true, decide_eq_true_eq, decide_eq_true_eq] at hd
    have hv : Lib.digitVal b = some (b.toNat - 48) := if_pos (by omega)
    rw [Lib.decFrom, hv, List.foldl_cons]
    exact ih _ h.2
theorem fold_val : ∀ (l : List UInt8) (acc : Nat), (l.all fun b => tens.contains b) = true →
    ((l.foldl (fun n b => n * 10 + (b.toNat - 48)) acc : Nat) : Int) = (l.map fun b : UInt8 => (b.toNat : Int)).foldl (fun n c => 10 * n + (c - 48)) (acc : Int) := by
  intro l
  induction l with
  | nil => intro acc _; rfl
  | cons b r ih =>
    intro acc h
    rw [List.all_cons, Bool.and_eq_true] at h
    have hd := h.1
    rw [tens_dig, digI, Bool.and_eq_true, decide_eq_true_eq, decide_eq_true_eq] at hd
    rw [List.foldl_cons, List.map_cons, List.foldl_cons, ih _ h.2]
    congr 1
    omega
theorem all_dig (s : ByteArray) : (s.data.toList.all fun b => tens.contains b) = (bytesOf s).all digI := by
  rw [bytesOf, List.all_map]
  congr 1
  funext b
  exact tens_dig b
theorem atoi_val (s : ByteArray) (h0 : 1 ≤ s.size) (h : (bytesOf s).all digI = true) : Lib.atoi s.data.toList = some (valL (bytesOf s)) := by
  rw [← all_dig] at h
  have hl : s.data.toList.length = s.size := data_length s
  have e : valL (bytesOf s) = ((s.data.toList.foldl (fun n b => n * 10 + (b.toNat - 48)) 0 : Nat) : Int) := by rw [fold_val _ _ h]; rfl
  rw [e]
  cases h1 : s.data.toList with
  | nil => rw [h1] at hl; simp at hl; omega
  | cons b r =>
    rw [h1] at h
    have hb := h
    rw [List.all_cons, Bool.and_eq_true] at hb
    have hd := hb.1
    rw [tens_dig, digI, Bool.and_eq_true, decide_eq_true_eq, decide_eq_true_eq] at hd
    have n1 : (b == 45) = false := by
      cases h2 : b == 45 with
      | false => rfl
      | true => rw [beq_iff_eq] at h2; rw [h2] at hd; exact absurd hd (by decide)
    have n2 : (b == 43) = false := by
      cases h2 : b == 43 with
      | false => rfl
      | true => rw [beq_iff_eq] at h2; rw [h2] at hd; exact absurd hd (by decide)
    rw [Lib.atoi, n1, n2]
    simp only [Bool.false_eq_true, if_false]
    rw [Lib.decNat, List.isEmpty_cons, if_neg (by simp), decFrom_digits _ _ h]
    rfl
set_option maxHeartbeats 1000000 in
theorem number_calls (s : ByteArray) (hs : s.size ≤ 1000000) (w : World) : Calls Tryz.prog 32 #[.string s] w fun e w' => e = .returned (.tuple #[.int .i64 (numV s), .bool (numF s)]) ∧ Below w.heap.size w w' := by
  have HT := Aside0.mk (fun W => Any.strings_Trim_laid Tryz.lays160 (by kernel_rfl) s ⟨#[48, 49, 50, 51, 52, 53, 54, 55, 56, 57]⟩ W (by omega) (by decide) (ascii_of_all (by decide)))
  obtain ⟨T, hT⟩ : ∃ T : ByteArray, T = ⟨(Lib.trimS s.data.toList tens).toArray⟩ := ⟨_, rfl⟩
  have HT : Aside0 (∀ W, Calls Tryz.prog 47 #[.string s, .string ⟨#[48, 49, 50, 51, 52, 53, 54, 55, 56, 57]⟩] W fun e w' => e = .returned (.string T) ∧ Below W.heap.size W w') := by rw [hT]; exact ⟨fun W => HT.out W⟩
  have hTe : T.toList.isEmpty = (bytesOf s).all digI := by rw [hT, Dots.toList_data, ← all_dig, ← trim_nil]
  clear hT
  by_cases h1 : 1 ≤ s.size
  · by_cases h9 : s.size ≤ 9
    · cases hd : (bytesOf s).all digI with
      | true =>
        have e1 : numF s = true := by rw [numF, decide_eq_true h1, decide_eq_true h9, hd]; rfl
        have e2 : numV s = valL (bytesOf s) := if_pos e1
        have HA := Aside0.mk (fun W => Tryz.strconv_Atoi s _ (by omega) (atoi_val s h1 hd) W)
        rw [hd] at hTe
        rw [e1, e2]
        clear e1 e2 hd
        have t1 : decide ((s.size : Int) < 1) = false := decide_eq_false (by omega)
        have t2 : decide (9 < (s.size : Int)) = false := decide_eq_false (by omega)
        go_enter Tryz.func32, Tryz.ntmps32
        go_wp2_with (first
          | (go_at_call 47; refine (HT.out _).mono ?_; rintro e w1 ⟨rfl, hb1⟩; have HB1 := Aside0.mk hb1; clear hb1)
          | (go_at_call 48; refine (HA.out _).mono ?_; rintro e w2 ⟨rfl, hb2⟩; have HB2 := Aside0.mk hb2; clear hb2))
        go_region
        go_wp2
        refine bodyPost_ret (v := .tuple #[.int .i64 (valL (bytesOf s)), .bool true]) (by simp [results, Tryz.results32, go_sem]) rfl ⟨rfl, pw_below_drewN ?_ 1⟩
        obtain ⟨t, ht⟩ := HB2.out
        rw [ht]
        exact HB1.out.trans (((Below.refl _ w1).grown (Go.Proofs.YtjggdkcfpdhoaaaGreatDoorW.SRows.bytes_grown w1 _ t) (Nat.le_refl _) (fun k e => by cases e)).mono HB1.out.size)
      | false =>
        have e1 : numF s = false := by rw [numF, hd, Bool.and_false, Bool.and_false]
        have e2 : numV s = 0 := if_neg (by rw [e1]; simp)
        rw [hd] at hTe
        rw [e1, e2]
        clear e1 e2 hd
        have t1 : decide ((s.size : Int) < 1) = false := decide_eq_false (by omega)
        have t2 : decide (9 < (s.size : Int)) = false := decide_eq_false (by omega)
        go_enter Tryz.func32, Tryz.ntmps32
        go_wp2_with (go_at_call 47; refine (HT.out _).mono ?_; rintro e w1 ⟨rfl, hb1⟩; have HB1 := Aside0.mk hb1; clear hb1)
        refine bodyPost_ret (v := .tuple #[.int .i64 0, .bool false]) (by simp [results, Tryz.results32, go_sem]) rfl ⟨rfl, HB1.out⟩
    · have e1 : numF s = false := by rw [numF, decide_eq_false h9, Bool.false_and, Bool.and_false]
      have e2 : numV s = 0 := if_neg (by rw [e1]; simp)
      rw [e1, e2]
      clear e1 e2 hTe
      have t1 : decide ((s.size : Int) < 1) = false := decide_eq_false (by omega)
      have t2 : decide (9 < (s.size : Int)) = true := decide_eq_true (by omega)
      go_enter Tryz.func32, Tryz.ntmps32
      go_wp2
      refine bodyPost_ret (v := .tuple #[.int .i64 0, .bool false]) (by simp [results, Tryz.results32, go_sem]) rfl ⟨rfl, Below.refl _ _⟩
  · have e1 : numF s = false := by rw [numF, decide_eq_false h1, Bool.false_and]
    have e2 : numV s = 0 := if_neg (by rw [e1]; simp)
    rw [e1, e2]
    clear e1 e2 hTe
    have t1 : decide ((s.size : Int) < 1) = true := decide_eq_true (by omega)
    go_enter Tryz.func32, Tryz.ntmps32
    go_wp2
    refine bodyPost_ret (v := .tuple #[.int .i64 0, .bool false]) (by simp [results, Tryz.results32, go_sem]) rfl ⟨rfl, Below.refl _ _⟩
/-- What is behind words, whatever their letters. -/
def aftF (s words : ByteArray) : Bool := decide (words.size ≤ s.size) && (largeB (s.extract 0 words.size)).toList == words.toList
def aftV (s words : ByteArray) : ByteArray := if aftF s words = true then s.extract words.size s.size else ⟨#[]⟩
set_option maxHeartbeats 1000000 in
theorem after_calls (s words : ByteArray) (hs : s.size ≤ 1000000) (hw : words.size ≤ 1000) (w : World) :
    Calls Tryz.prog 53 #[.string s, .string words] w fun e w' => e = .returned (.tuple #[.string (aftV s words), .bool (aftF s words)]) ∧ Below w.heap.size w w' := by
  by_cases h1 : words.size ≤ s.size
  · have HL := Aside0.mk (fun W => large_calls (s.extract 0 words.size) (by rw [ByteArray.size_extract]; omega) W)
    obtain ⟨u, hu⟩ : ∃ u, u = largeB (s.extract 0 words.size) := ⟨_, rfl⟩
    rw [← hu] at HL
    have hd : aftF s words = (u.toList == words.toList) := by rw [aftF, decide_eq_true h1, Bool.true_and, ← hu]
    clear hu
    have t1 : decide ((s.size : Int) < (words.size : Int)) = false := decide_eq_false (by omega)
    have t2 : decide (s.size < words.size) = false := decide_eq_false (by omega)
    cases hb : u.toList == words.toList with
    | true =>
      have e2 : aftV s words = s.extract words.size s.size := if_pos (hd.trans hb)
      rw [hd.trans hb, e2]
      clear e2 hd
      go_enter Tryz.func53, Tryz.ntmps53
      go_wp2_with (go_at_call 16; refine (HL.out _).mono ?_; rintro e w1 ⟨rfl, hb1⟩; have HB1 := Aside0.mk hb1; clear hb1)
      refine bodyPost_ret (v := .tuple #[.string (s.extract words.size s.size), .bool true]) (by simp [results, Tryz.results53, go_sem]) rfl ⟨rfl, HB1.out⟩
    | false =>
      have e2 : aftV s words = ⟨#[]⟩ := if_neg (by rw [hd.trans hb]; simp)
      rw [hd.trans hb, e2]
      clear e2 hd
      go_enter Tryz.func53, Tryz.ntmps53
      go_wp2_with (go_at_call 16; refine (HL.out _).mono ?_; rintro e w1 ⟨rfl, hb1⟩; have HB1 := Aside0.mk hb1; clear hb1)
      refine bodyPost_ret (v := .tuple #[.string ⟨#[]⟩, .bool false]) (by simp [results, Tryz.results53, go_sem]) rfl ⟨rfl, HB1.out⟩
  · have hd : aftF s words = false := by rw [aftF, decide_eq_false h1, Bool.false_and]
    have e2 : aftV s words = ⟨#[]⟩ := if_neg (by rw [hd]; simp)
    rw [hd, e2]
    clear e2 hd
    have t1 : decide ((s.size : Int) < (words.size : Int)) = true := decide_eq_true (by omega)
    have t2 : decide (s.size < words.size) = true := decide_eq_true (by omega)
    go_enter Tryz.func53, Tryz.ntmps53
    go_wp2
    refine bodyPost_ret (v := .tuple #[.string ⟨#[]⟩, .bool false]) (by simp [results, Tryz.results53, go_sem]) rfl ⟨rfl, Below.refl _ _⟩
end Go.Proofs.YtjggdkcfpdhoaaaGreatDoor.Number
/- smtp's Command in its place; option: one of MAIL's options. -/
namespace Go.Proofs.YtjggdkcfpdhoaaaGreatDoor.Opt
open Go Go.RowKit Go.Proofs.YtjggdkcfpdhoaaaGreatDoorW.PrintWords Go.Proofs.YtjggdkcfpdhoaaaGreatDoor.Large Go.Proofs.YtjggdkcfpdhoaaaGreatDoor.Take Go.Proofs.YtjggdkcfpdhoaaaGreatDoor.Number
set_option linter.unusedVariables false
set_option linter.unusedSimpArgs false
structure CmdR where
  v : ByteArray
  l : ByteArray
  d : ByteArray
  a : ByteArray
  n : Int
  b : ByteArray
/-- A command lies in block B. -/
structure CmdAt (B : Nat) (c : CmdR) (W : World) : Prop where
  c0 : W.cell? ⟨B, 0, none⟩ = some (.string c.v)
  c1 : W.cell? ⟨B, 1, none⟩ = some (.string c.l)
  c2 : W.cell? ⟨B, 2, none⟩ = some (.string c.d)
  c3 : W.cell? ⟨B, 3, none⟩ = some (.string c.a)
  c4 : W.cell? ⟨B, 4, none⟩ = some (.int .i64 c.n)
  c5 : W.cell? ⟨B, 5, none⟩ = some (.string c.b)
  fr : ∀ i, W.frozen? ⟨B, i, none⟩ = false
theorem CmdAt.lt {B : Nat} {c : CmdR} {W : World} (h : CmdAt B c W) : B < W.heap.size := World.block_lt_of_cell? W _ h.c0
theorem CmdAt.heap {B : Nat} {c : CmdR} {W W' : World} (h : CmdAt B c W) (hk : W'.heap[B]? = W.heap[B]?) : CmdAt B c W' := by
  have hc : ∀ i v, W.cell? ⟨B, i, none⟩ = some v → W'.cell? ⟨B, i, none⟩ = some v := fun i v hv => by simpa [World.cell?, hk] using hv
  exact ⟨hc _ _ h.c0, hc _ _ h.c1, hc _ _ h.c2, hc _ _ h.c3, hc _ _ h.c4, hc _ _ h.c5, fun i => by have := h.fr i; simpa [World.frozen?, hk] using this⟩
theorem CmdAt.below {B : Nat} {c : CmdR} {W W' : World} (h : CmdAt B c W) (hb : Below W.heap.size W W') : CmdAt B c W' := h.heap (hb.block B h.lt)
theorem CmdAt.setN {B : Nat} {c : CmdR} {W : World} (h : CmdAt B c W) (n : Int) : CmdAt B { c with n := n } (W.setCell ⟨B, 4, none⟩ (.int .i64 n)) := by
  refine ⟨?_, ?_, ?_, ?_, World.cell?_setCell_same' _ _ _ (by rw [h.c4]; rfl), ?_, fun i => by rw [World.frozen?_setCell]; exact h.fr i⟩
  · exact (World.cell?_setCell_other _ _ _ _ (by simp)).trans h.c0
  · exact (World.cell?_setCell_other _ _ _ _ (by simp)).trans h.c1
  · exact (World.cell?_setCell_other _ _ _ _ (by simp)).trans h.c2
  · exact (World.cell?_setCell_other _ _ _ _ (by simp)).trans h.c3
  · exact (World.cell?_setCell_other _ _ _ _ (by simp)).trans h.c5
theorem CmdAt.setB {B : Nat} {c : CmdR} {W : World} (h : CmdAt B c W) (b : ByteArray) : CmdAt B { c with b := b } (W.setCell ⟨B, 5, none⟩ (.string b)) := by
  refine ⟨?_, ?_, ?_, ?_, ?_, World.cell?_setCell_same' _ _ _ (by rw [h.c5]; rfl), fun i => by rw [World.frozen?_setCell]; exact h.fr i⟩
  · exact (World.cell?_setCell_other _ _ _ _ (by simp)).trans h.c0
  · exact (World.cell?_setCell_other _ _ _ _ (by simp)).trans h.c1
  · exact (World.cell?_setCell_other _ _ _ _ (by simp)).trans h.c2
  · exact (World.cell?_setCell_other _ _ _ _ (by simp)).trans h.c3
  · exact (World.cell?_setCell_other _ _ _ _ (by simp)).trans h.c4
theorem CmdAt.setA {B : Nat} {c : CmdR} {W : World} (h : CmdAt B c W) (a : ByteArray) : CmdAt B { c with a := a } (W.setCell ⟨B, 3, none⟩ (.string a)) := by
  refine ⟨?_, ?_, ?_, World.cell?_setCell_same' _ _ _ (by rw [h.c3]; rfl), ?_, ?_, fun i => by rw [World.frozen?_setCell]; exact h.fr i⟩
  · exact (World.cell?_setCell_other _ _ _ _ (by simp)).trans h.c0
  · exact (World.cell?_setCell_other _ _ _ _ (by simp)).trans h.c1
  · exact (World.cell?_setCell_other _ _ _ _ (by simp)).trans h.c2
  · exact (World.cell?_setCell_other _ _ _ _ (by simp)).trans h.c4
  · exact (World.cell?_setCell_other _ _ _ _ (by simp)).trans h.c5
theorem CmdAt.setP {B : Nat} {c : CmdR} {W : World} (h : CmdAt B c W) (l d : ByteArray) : CmdAt B { c with l := l, d := d } ((W.setCell ⟨B, 1, none⟩ (.string l)).setCell ⟨B, 2, none⟩ (.string d)) := by
  refine ⟨?_, ?_, ?_, ?_, ?_, ?_, fun i => by rw [World.frozen?_setCell, World.frozen?_setCell]; exact h.fr i⟩
  · exact (World.cell?_setCell_other _ _ _ _ (by simp)).trans ((World.cell?_setCell_other _ _ _ _ (by simp)).trans h.c0)
  · exact (World.cell?_setCell_other _ _ _ _ (by simp)).trans (World.cell?_setCell_same' _ _ _ (by rw [h.c1]; rfl))
  · exact World.cell?_setCell_same' _ _ _ (by rw [World.cell?_setCell_other _ _ _ _ (by simp), h.c2]; rfl)
  · exact (World.cell?_setCell_other _ _ _ _ (by simp)).trans ((World.cell?_setCell_other _ _ _ _ (by simp)).trans h.c3)
  · exact (World.cell?_setCell_other _ _ _ _ (by simp)).trans ((World.cell?_setCell_other _ _ _ _ (by simp)).trans h.c4)
  · exact (World.cell?_setCell_other _ _ _ _ (by simp)).trans ((World.cell?_setCell_other _ _ _ _ (by simp)).trans h.c5)
/-- One of MAIL's options, read into a command. -/
def optC (c : CmdR) (s : ByteArray) : Option CmdR :=
  if ((largeB (cutA s 61)).toList == ([83, 73, 90, 69] : List UInt8)) = true then
    if numF (cutB s 61) = true then if 0 ≤ c.n then none else some { c with n := numV (cutB s 61) } else none
  else if ((largeB (cutA s 61)).toList == ([66, 79, 68, 89] : List UInt8)) = true then
    if c.b.toList.isEmpty = true then
      if ((largeB (cutB s 61)).toList == ([55, 66, 73, 84] : List UInt8) || (largeB (cutB s 61)).toList == ([56, 66, 73, 84, 77, 73, 77, 69] : List UInt8)) = true then some { c with b := largeB (cutB s 61) } else none
    else none
  else none
/-- What a call that writes block B keeps. -/
structure KB (B : Nat) (w W : World) : Prop where
  os : W.os = w.os
  tape : W.tape = w.tape
  output : W.output = w.output
  size : w.heap.size ≤ W.heap.size
  block : ∀ i, i < w.heap.size → i ≠ B → W.heap[i]? = w.heap[i]?
theorem KB.refl (B : Nat) (w : World) : KB B w w := ⟨rfl, rfl, rfl, Nat.le_refl _, fun _ _ _ => rfl⟩
theorem KB.then_ {B : Nat} {w W W2 : World} (h : KB B w W) (k : KB B W W2) : KB B w W2 :=
  ⟨k.os.trans h.os, k.tape.trans h.tape, k.output.trans h.output, Nat.le_trans h.size k.size, fun i hi hn => (k.block i (Nat.lt_of_lt_of_le hi h.size) hn).trans (h.block i hi hn)⟩
theorem kept_below {B : Nat} {w W : World} (h : Below w.heap.size w W) : KB B w W := ⟨h.os, h.tape, h.output, h.size, fun i hi _ => h.block i hi⟩
theorem KB.below {B : Nat} {w W W2 : World} (h : KB B w W) (hb : Below W.heap.size W W2) : KB B w W2 := h.then_ (kept_below hb)
theorem KB.setCell {B : Nat} {w W : World} (h : KB B w W) {p : Addr} (hp : p.block = B ∨ w.heap.size ≤ p.block) (u : Value) : KB B w (W.setCell p u) :=
  ⟨h.os, h.tape, h.output, by rw [World.size_setCell]; exact h.size, fun i hi hn => (Below.heap_setCell W p u i (by omega)).trans (h.block i hi hn)⟩
theorem KB.toBelow {B : Nat} {w W : World} (h : KB B w W) (n : Nat) (hn : n ≤ B) (hw : n ≤ w.heap.size) : Below n w W := ⟨h.os, h.tape, h.output, h.size, fun k hk => h.block k (by omega) (by omega)⟩
theorem kept_drew {B n : Nat} {w W : World} (h : Below (w.drewN n).heap.size (w.drewN n) W) : KB B w W := ⟨h.os, h.tape, h.output, h.size, fun i hi _ => h.block i hi⟩
theorem size_upd (s : ByteArray) (hs : s.size ≤ 1000000) : (cutA s 61).size ≤ 1000000 ∧ (cutB s 61).size ≤ 1000000 := ⟨Nat.le_trans (cutA_size s 61) hs, Nat.le_trans (cutB_size s 61) hs⟩
set_option maxHeartbeats 2000000 in
theorem option_calls (B : Nat) (c : CmdR) (s : ByteArray) (hs : s.size ≤ 1000000) (w : World) (h : CmdAt B c w) :
    Calls Tryz.prog 56 #[.pointer (some ⟨B, 0, none⟩), .string s] w fun e w' => e = .returned (.bool (optC c s).isSome) ∧ CmdAt B ((optC c s).getD c) w' ∧ KB B w w' := by
  obtain ⟨r, hr⟩ : ∃ r, r = optC c s := ⟨_, rfl⟩
  rw [← hr]
  unfold optC at hr
  obtain ⟨k1, k2⟩ := size_upd s hs
  have HC := Aside0.mk (fun W => cut_calls s 61 hs W)
  have HL := Aside0.mk (fun W => large_calls (cutA s 61) k1 W)
  have HV := Aside0.mk (fun W => large_calls (cutB s 61) k2 W)
  have HN := Aside0.mk (fun W => number_calls (cutB s 61) k2 W)
  obtain ⟨nm, hnm⟩ : ∃ x, x = cutA s 61 := ⟨_, rfl⟩
  obtain ⟨va, hva⟩ : ∃ x, x = cutB s 61 := ⟨_, rfl⟩
  rw [← hnm] at hr HC HL
  rw [← hva] at hr HC HV HN
  obtain ⟨u, hu⟩ : ∃ x, x = largeB nm := ⟨_, rfl⟩
  obtain ⟨uv, huv⟩ : ∃ x, x = largeB va := ⟨_, rfl⟩
  rw [← hu] at hr HL
  rw [← huv] at hr HV
  obtain ⟨nf, hnf⟩ : ∃ x, x = numF va := ⟨_, rfl⟩
  obtain ⟨nv, hnv⟩ : ∃ x, x = numV va := ⟨_, rfl⟩
  rw [← hnf] at hr HN
  rw [← hnv] at hr HN
  have HCA := Aside0.mk h
  clear hu huv hnf hnv hnm hva k1 k2 h
  cases b1 : u.toList == [83, 73, 90, 69] with
  | true =>
    rw [b1] at hr
    cases b2 : nf with
    | true =>
      rw [b2] at hr HN
      by_cases b3 : 0 ≤ c.n
      · have t1 : decide (0 ≤ c.n) = true := decide_eq_true b3
        rw [if_pos rfl, if_pos rfl, if_pos b3] at hr
        subst hr
        go_enter Tryz.func56, Tryz.ntmps56
        go_wp2_with (first
          | (go_at_call 15; refine (HC.out _).mono ?_; rintro e w' ⟨rfl, n1, rfl⟩)
          | (go_at_call 16; first | (with_reducible refine (HL.out _).mono ?_; rintro e w1 ⟨rfl, hb1⟩; have HB1 := Aside0.mk hb1; have HC1 := Aside0.mk ((HCA.out.heap (W' := w.drewN n1) rfl).below hb1); clear hb1; have x4 := HC1.out.c4; have x5 := HC1.out.c5; have y4 := HC1.out.fr 4; have y5 := HC1.out.fr 5) | (with_reducible refine (HV.out _).mono ?_; rintro e w2 ⟨rfl, hb2⟩; have HB2 := Aside0.mk (HB1.out.trans (hb2.mono HB1.out.size)); have HC2 := Aside0.mk (HC1.out.below hb2); clear hb2; have x4 := HC2.out.c4; have x5 := HC2.out.c5; have y4 := HC2.out.fr 4; have y5 := HC2.out.fr 5))
          | (go_at_call 32; refine (HN.out _).mono ?_; rintro e w2 ⟨rfl, hb2⟩; have HB2 := Aside0.mk (HB1.out.trans (hb2.mono HB1.out.size)); have HC2 := Aside0.mk (HC1.out.below hb2); clear hb2; have x4 := HC2.out.c4; have x5 := HC2.out.c5; have y4 := HC2.out.fr 4; have y5 := HC2.out.fr 5))
        go_ret
        exact ⟨rfl, HC2.out, kept_drew HB2.out⟩
      · have t1 : decide (0 ≤ c.n) = false := decide_eq_false b3
        rw [if_pos rfl, if_pos rfl, if_neg b3] at hr
        subst hr
        go_enter Tryz.func56, Tryz.ntmps56
        go_wp2_with (first
          | (go_at_call 15; refine (HC.out _).mono ?_; rintro e w' ⟨rfl, n1, rfl⟩)
          | (go_at_call 16; first | (with_reducible refine (HL.out _).mono ?_; rintro e w1 ⟨rfl, hb1⟩; have HB1 := Aside0.mk hb1; have HC1 := Aside0.mk ((HCA.out.heap (W' := w.drewN n1) rfl).below hb1); clear hb1; have x4 := HC1.out.c4; have x5 := HC1.out.c5; have y4 := HC1.out.fr 4; have y5 := HC1.out.fr 5) | (with_reducible refine (HV.out _).mono ?_; rintro e w2 ⟨rfl, hb2⟩; have HB2 := Aside0.mk (HB1.out.trans (hb2.mono HB1.out.size)); have HC2 := Aside0.mk (HC1.out.below hb2); clear hb2; have x4 := HC2.out.c4; have x5 := HC2.out.c5; have y4 := HC2.out.fr 4; have y5 := HC2.out.fr 5))
          | (go_at_call 32; refine (HN.out _).mono ?_; rintro e w2 ⟨rfl, hb2⟩; have HB2 := Aside0.mk (HB1.out.trans (hb2.mono HB1.out.size)); have HC2 := Aside0.mk (HC1.out.below hb2); clear hb2; have x4 := HC2.out.c4; have x5 := HC2.out.c5; have y4 := HC2.out.fr 4; have y5 := HC2.out.fr 5))
        go_ret
        exact ⟨rfl, HC2.out.setN _, (kept_drew HB2.out).setCell (p := ⟨B, 4, none⟩) (.inl rfl) _⟩
    | false =>
      rw [b2] at hr HN
      rw [if_pos rfl, if_neg (by simp)] at hr
      subst hr
      go_enter Tryz.func56, Tryz.ntmps56
      go_wp2_with (first
        | (go_at_call 15; refine (HC.out _).mono ?_; rintro e w' ⟨rfl, n1, rfl⟩)
        | (go_at_call 16; first | (with_reducible refine (HL.out _).mono ?_; rintro e w1 ⟨rfl, hb1⟩; have HB1 := Aside0.mk hb1; have HC1 := Aside0.mk ((HCA.out.heap (W' := w.drewN n1) rfl).below hb1); clear hb1; have x4 := HC1.out.c4; have x5 := HC1.out.c5; have y4 := HC1.out.fr 4; have y5 := HC1.out.fr 5) | (with_reducible refine (HV.out _).mono ?_; rintro e w2 ⟨rfl, hb2⟩; have HB2 := Aside0.mk (HB1.out.trans (hb2.mono HB1.out.size)); have HC2 := Aside0.mk (HC1.out.below hb2); clear hb2; have x4 := HC2.out.c4; have x5 := HC2.out.c5; have y4 := HC2.out.fr 4; have y5 := HC2.out.fr 5))
        | (go_at_call 32; refine (HN.out _).mono ?_; rintro e w2 ⟨rfl, hb2⟩; have HB2 := Aside0.mk (HB1.out.trans (hb2.mono HB1.out.size)); have HC2 := Aside0.mk (HC1.out.below hb2); clear hb2; have x4 := HC2.out.c4; have x5 := HC2.out.c5; have y4 := HC2.out.fr 4; have y5 := HC2.out.fr 5))
      go_ret
      exact ⟨rfl, HC2.out, kept_drew HB2.out⟩
  | false =>
    rw [b1] at hr
    cases b2 : u.toList == [66, 79, 68, 89] with
    | false =>
      rw [b2] at hr
      rw [if_neg (by simp), if_neg (by simp)] at hr
      subst hr
      go_enter Tryz.func56, Tryz.ntmps56
      go_wp2_with (first
        | (go_at_call 15; refine (HC.out _).mono ?_; rintro e w' ⟨rfl, n1, rfl⟩)
        | (go_at_call 16; first | (with_reducible refine (HL.out _).mono ?_; rintro e w1 ⟨rfl, hb1⟩; have HB1 := Aside0.mk hb1; have HC1 := Aside0.mk ((HCA.out.heap (W' := w.drewN n1) rfl).below hb1); clear hb1; have x4 := HC1.out.c4; have x5 := HC1.out.c5; have y4 := HC1.out.fr 4; have y5 := HC1.out.fr 5) | (with_reducible refine (HV.out _).mono ?_; rintro e w2 ⟨rfl, hb2⟩; have HB2 := Aside0.mk (HB1.out.trans (hb2.mono HB1.out.size)); have HC2 := Aside0.mk (HC1.out.below hb2); clear hb2; have x4 := HC2.out.c4; have x5 := HC2.out.c5; have y4 := HC2.out.fr 4; have y5 := HC2.out.fr 5))
        | (go_at_call 32; refine (HN.out _).mono ?_; rintro e w2 ⟨rfl, hb2⟩; have HB2 := Aside0.mk (HB1.out.trans (hb2.mono HB1.out.size)); have HC2 := Aside0.mk (HC1.out.below hb2); clear hb2; have x4 := HC2.out.c4; have x5 := HC2.out.c5; have y4 := HC2.out.fr 4; have y5 := HC2.out.fr 5))
      go_ret
      exact ⟨rfl, HC1.out, kept_drew HB1.out⟩
    | true =>
      rw [b2] at hr
      cases b3 : c.b.toList.isEmpty with
      | false =>
        rw [b3] at hr
        rw [if_neg (by simp), if_pos rfl, if_neg (by simp)] at hr
        subst hr
        go_enter Tryz.func56, Tryz.ntmps56
        go_wp2_with (first
          | (go_at_call 15; refine (HC.out _).mono ?_; rintro e w' ⟨rfl, n1, rfl⟩)
          | (go_at_call 16; first | (with_reducible refine (HL.out _).mono ?_; rintro e w1 ⟨rfl, hb1⟩; have HB1 := Aside0.mk hb1; have HC1 := Aside0.mk ((HCA.out.heap (W' := w.drewN n1) rfl).below hb1); clear hb1; have x4 := HC1.out.c4; have x5 := HC1.out.c5; have y4 := HC1.out.fr 4; have y5 := HC1.out.fr 5) | (with_reducible refine (HV.out _).mono ?_; rintro e w2 ⟨rfl, hb2⟩; have HB2 := Aside0.mk (HB1.out.trans (hb2.mono HB1.out.size)); have HC2 := Aside0.mk (HC1.out.below hb2); clear hb2; have x4 := HC2.out.c4; have x5 := HC2.out.c5; have y4 := HC2.out.fr 4; have y5 := HC2.out.fr 5))
          | (go_at_call 32; refine (HN.out _).mono ?_; rintro e w2 ⟨rfl, hb2⟩; have HB2 := Aside0.mk (HB1.out.trans (hb2.mono HB1.out.size)); have HC2 := Aside0.mk (HC1.out.below hb2); clear hb2; have x4 := HC2.out.c4; have x5 := HC2.out.c5; have y4 := HC2.out.fr 4; have y5 := HC2.out.fr 5))
        go_ret
        exact ⟨rfl, HC2.out, kept_drew HB2.out⟩
      | true =>
        rw [b3] at hr
        cases b4 : uv.toList == [55, 66, 73, 84] with
        | true =>
          rw [b4] at hr
          rw [if_neg (by simp), if_pos rfl, if_pos rfl, if_pos (by simp)] at hr
          subst hr
          go_enter Tryz.func56, Tryz.ntmps56
          go_wp2_with (first
            | (go_at_call 15; refine (HC.out _).mono ?_; rintro e w' ⟨rfl, n1, rfl⟩)
            | (go_at_call 16; first | (with_reducible refine (HL.out _).mono ?_; rintro e w1 ⟨rfl, hb1⟩; have HB1 := Aside0.mk hb1; have HC1 := Aside0.mk ((HCA.out.heap (W' := w.drewN n1) rfl).below hb1); clear hb1; have x4 := HC1.out.c4; have x5 := HC1.out.c5; have y4 := HC1.out.fr 4; have y5 := HC1.out.fr 5) | (with_reducible refine (HV.out _).mono ?_; rintro e w2 ⟨rfl, hb2⟩; have HB2 := Aside0.mk (HB1.out.trans (hb2.mono HB1.out.size)); have HC2 := Aside0.mk (HC1.out.below hb2); clear hb2; have x4 := HC2.out.c4; have x5 := HC2.out.c5; have y4 := HC2.out.fr 4; have y5 := HC2.out.fr 5))
            | (go_at_call 32; refine (HN.out _).mono ?_; rintro e w2 ⟨rfl, hb2⟩; have HB2 := Aside0.mk (HB1.out.trans (hb2.mono HB1.out.size)); have HC2 := Aside0.mk (HC1.out.below hb2); clear hb2; have x4 := HC2.out.c4; have x5 := HC2.out.c5; have y4 := HC2.out.fr 4; have y5 := HC2.out.fr 5))
          go_ret
          exact ⟨rfl, HC2.out.setB _, (kept_drew HB2.out).setCell (p := ⟨B, 5, none⟩) (.inl rfl) _⟩
        | false =>
          rw [b4] at hr
          cases b5 : uv.toList == [56, 66, 73, 84, 77, 73, 77, 69] with
          | true =>
            rw [b5] at hr
            rw [if_neg (by simp), if_pos rfl, if_pos rfl, if_pos (by simp)] at hr
            subst hr
            go_enter Tryz.func56, Tryz.ntmps56
            go_wp2_with (first
              | (go_at_call 15; refine (HC.out _).mono ?_; rintro e w' ⟨rfl, n1, rfl⟩)
              | (go_at_call 16; first | (with_reducible refine (HL.out _).mono ?_; rintro e w1 ⟨rfl, hb1⟩; have HB1 := Aside0.mk hb1; have HC1 := Aside0.mk ((HCA.out.heap (W' := w.drewN n1) rfl).below hb1); clear hb1; have x4 := HC1.out.c4; have x5 := HC1.out.c5; have y4 := HC1.out.fr 4; have y5 := HC1.out.fr 5) | (with_reducible refine (HV.out _).mono ?_; rintro e w2 ⟨rfl, hb2⟩; have HB2 := Aside0.mk (HB1.out.trans (hb2.mono HB1.out.size)); have HC2 := Aside0.mk (HC1.out.below hb2); clear hb2; have x4 := HC2.out.c4; have x5 := HC2.out.c5; have y4 := HC2.out.fr 4; have y5 := HC2.out.fr 5))
              | (go_at_call 32; refine (HN.out _).mono ?_; rintro e w2 ⟨rfl, hb2⟩; have HB2 := Aside0.mk (HB1.out.trans (hb2.mono HB1.out.size)); have HC2 := Aside0.mk (HC1.out.below hb2); clear hb2; have x4 := HC2.out.c4; have x5 := HC2.out.c5; have y4 := HC2.out.fr 4; have y5 := HC2.out.fr 5))
            go_ret
            exact ⟨rfl, HC2.out.setB _, (kept_drew HB2.out).setCell (p := ⟨B, 5, none⟩) (.inl rfl) _⟩
          | false =>
            rw [b5] at hr
            rw [if_neg (by simp), if_pos rfl, if_pos rfl, if_neg (by simp)] at hr
            subst hr
            go_enter Tryz.func56, Tryz.ntmps56
            go_wp2_with (first
              | (go_at_call 15; refine (HC.out _).mono ?_; rintro e w' ⟨rfl, n1, rfl⟩)
              | (go_at_call 16; first | (with_reducible refine (HL.out _).mono ?_; rintro e w1 ⟨rfl, hb1⟩; have HB1 := Aside0.mk hb1; have HC1 := Aside0.mk ((HCA.out.heap (W' := w.drewN n1) rfl).below hb1); clear hb1; have x4 := HC1.out.c4; have x5 := HC1.out.c5; have y4 := HC1.out.fr 4; have y5 := HC1.out.fr 5) | (with_reducible refine (HV.out _).mono ?_; rintro e w2 ⟨rfl, hb2⟩; have HB2 := Aside0.mk (HB1.out.trans (hb2.mono HB1.out.size)); have HC2 := Aside0.mk (HC1.out.below hb2); clear hb2; have x4 := HC2.out.c4; have x5 := HC2.out.c5; have y4 := HC2.out.fr 4; have y5 := HC2.out.fr 5))
              | (go_at_call 32; refine (HN.out _).mono ?_; rintro e w2 ⟨rfl, hb2⟩; have HB2 := Aside0.mk (HB1.out.trans (hb2.mono HB1.out.size)); have HC2 := Aside0.mk (HC1.out.below hb2); clear hb2; have x4 := HC2.out.c4; have x5 := HC2.out.c5; have y4 := HC2.out.fr 4; have y5 := HC2.out.fr 5))
            go_ret
            exact ⟨rfl, HC2.out, kept_drew HB2.out⟩
end Go.Proofs.YtjggdkcfpdhoaaaGreatDoor.Opt
/- Command.mail: what is behind MAIL or RCPT. -/
namespace Go.Proofs.YtjggdkcfpdhoaaaGreatDoor.Mail
open Go Go.RowKit Go.Proofs.YtjggdkcfpdhoaaaGreatDoorW.PrintWords Go.Proofs.YtjggdkcfpdhoaaaGreatDoor.Large Go.Proofs.YtjggdkcfpdhoaaaGreatDoor.Take Go.Proofs.YtjggdkcfpdhoaaaGreatDoor.Number Go.Proofs.YtjggdkcfpdhoaaaGreatDoor.Opt
set_option linter.unusedVariables false
set_option linter.unusedSimpArgs false
/-- MAIL's options, one behind the other. -/
def optsO : Nat → CmdR → ByteArray → Option CmdR
  | 0, c, o => if o.toList.isEmpty = true then some c else none
  | k + 1, c, o =>
    if o.toList.isEmpty = true then some c
    else if preF o 32 = false then none
    else match optC c (cutA (preT o 32) 32) with
      | none => none
      | some c' => optsO k c' (o.extract (1 + (cutA (preT o 32) 32).size) o.size)
def mailO (c : CmdR) (rest words : ByteArray) : Option CmdR :=
  if aftF rest words = false then none else
    match takeB (aftV rest words) with
    | none => none
    | some (l, d, o) =>
      if (c.v.toList == [82, 67, 80, 84]) = true then (if o.toList.isEmpty = true then some { c with l := l, d := d } else none)
      else optsO o.size { c with l := l, d := d, n := -1 } o
theorem takeG_rest (b1 b2 b3 b4 b5 b6 : Bool) (l' d' q l d o : ByteArray) (h : takeG b1 b2 b3 b4 b5 b6 l' d' q = some (l, d, o)) : o = q := by
  cases b1 <;> cases b2 <;> cases b3 <;> cases b4 <;> cases b5 <;> cases b6 <;> simp [takeG] at h <;> exact h.2.2.symm
theorem takeB_rest (s l d o : ByteArray) (h : takeB s = some (l, d, o)) : o = cutB s 62 := takeG_rest _ _ _ _ _ _ _ _ _ _ _ _ h
theorem preF_size (o : ByteArray) (d : UInt8) (h : preF o d = true) : (preT o d).size + 1 = o.size := by
  have e : (preT o d).size = (Lib.trimPrefix o.data.toList [d]).length := by show (Lib.trimPrefix o.data.toList [d]).toArray.size = _; simp
  have e2 : o.data.toList.length = o.size := data_length o
  have h2 : Lib.hasPrefix o.data.toList [d] = true := h
  rw [e, ← e2]
  unfold Lib.trimPrefix
  rw [if_pos h2]
  unfold Lib.hasPrefix at h2
  cases h3 : o.data.toList with
  | nil => rw [h3] at h2; simp at h2
  | cons a l => simp
def sizeV : Value → Nat
  | .string o => o.size
  | _ => 0
theorem empty_size (o : ByteArray) (h : o.toList.isEmpty = true) : o.size = 0 := by
  rw [Dots.toList_data] at h
  have := data_length o
  rw [List.isEmpty_iff] at h
  rw [h] at this
  simpa using this.symm
theorem optsO_more : ∀ (k m : Nat) (c : CmdR) (o : ByteArray), o.size ≤ k → o.size ≤ m → optsO k c o = optsO m c o := by
  intro k
  induction k with
  | zero =>
    intro m c o hk hm
    have h : o.toList.isEmpty = true := by rw [Dots.toList_data, List.isEmpty_iff, ← List.length_eq_zero_iff, data_length]; omega
    cases m with
    | zero => rfl
    | succ m => simp only [optsO, h, if_true]
  | succ k ih =>
    intro m c o hk hm
    cases m with
    | zero =>
      have h : o.toList.isEmpty = true := by rw [Dots.toList_data, List.isEmpty_iff, ← List.length_eq_zero_iff, data_length]; omega
      simp only [optsO, h, if_true]
    | succ m =>
      simp only [optsO]
      split
      · rfl
      · split
        · rfl
        · split
          · rfl
          · exact ih m _ _ (by rw [ByteArray.size_extract]; omega) (by rw [ByteArray.size_extract]; omega)
theorem kept_drewL {B n : Nat} {w W : World} (h : KB B (w.drewN n) W) : KB B w W := ⟨h.os, h.tape, h.output, h.size, h.block⟩
def PostM (B : Nat) (w : World) (r : Option CmdR) (e : Ending) (w' : World) : Prop :=
  e = .returned (.bool r.isSome) ∧ (∃ c2, CmdAt B c2 w' ∧ ∀ q, r = some q → c2 = q) ∧ KB B w w'
set_option maxRecDepth 100000 in
set_option maxHeartbeats 4000000 in
theorem mail_calls (B : Nat) (c : CmdR) (rest words : ByteArray) (hs : rest.size ≤ 1000000) (hw : words.size ≤ 1000) (t : Nat) (pv : Value) (w : World) (hE : w.cell? ⟨1, 0, none⟩ = some (.iface t pv)) (h : CmdAt B c w) :
    Calls Tryz.prog 38 #[.pointer (some ⟨B, 0, none⟩), .string rest, .string words] w (PostM B w (mailO c rest words)) := by
  obtain ⟨r, hr⟩ : ∃ r, r = mailO c rest words := ⟨_, rfl⟩
  rw [← hr]
  unfold mailO at hr
  have HF := Aside0.mk (fun W => after_calls rest words hs hw W)
  have hvs : (aftV rest words).size ≤ 1000000 := by
    unfold aftV
    split
    · rw [ByteArray.size_extract]; omega
    · exact Nat.zero_le _
  have HT := Aside0.mk (fun W hW => take_calls (aftV rest words) hvs (.iface t pv) W hW)
  obtain ⟨v, hv⟩ : ∃ x, x = aftV rest words := ⟨_, rfl⟩
  obtain ⟨f, hf⟩ : ∃ x, x = aftF rest words := ⟨_, rfl⟩
  rw [← hv] at hr HF HT hvs
  rw [← hf] at hr HF
  clear hv hf
  obtain ⟨tb, htb⟩ : ∃ x, x = takeB v := ⟨_, rfl⟩
  rw [← htb] at hr HT
  have hsz : ∀ l d o, tb = some (l, d, o) → o.size ≤ 1000000 := fun l d o h9 => by
    rw [htb] at h9
    rw [takeB_rest v l d o h9]
    exact Nat.le_trans (cutB_size v 62) hvs
  clear htb
  have HCA := Aside0.mk h
  have HE := Aside0.mk hE
  clear h hE
  cases tb with
  | none =>
    have hr2 : r = none := by rw [hr]; split <;> rfl
    clear hr hsz
    subst hr2
    simp only [takeV, emptyB] at HT
    go_enter Tryz.func38, Tryz.ntmps38
    go_upto_region 3 with (first
      | (go_at_call 53; refine (HF.out _).mono ?_; rintro e w1 ⟨rfl, hb1⟩; have HB1 := Aside0.mk hb1; have HE1 := Aside0.mk ((hb1.cell (p := ⟨1, 0, none⟩) (World.block_lt_of_cell? w _ HE.out)).trans HE.out); clear hb1)
      | (go_at_call 54; refine (HT.out _ HE1.out).mono ?_; rintro e w2 ⟨rfl, hb2⟩; have HB2 := Aside0.mk (HB1.out.trans (hb2.mono HB1.out.size)); clear hb2))
    clear HF HT HE HE1
    obtain ⟨W, hW⟩ : ∃ W, W = w2.alloc (Obj.cells #[Value.string ⟨#[]⟩, Value.string ⟨#[]⟩] 24) := ⟨_, rfl⟩
    have HBW := Aside0.mk (show Below w.heap.size w W by rw [hW]; exact HB2.out.alloc HB2.out.size _)
    have HCW := Aside0.mk (HCA.out.below HBW.out)
    have HKW := Aside0.mk (kept_below (B := B) HBW.out)
    have hp0 : W.cell? ⟨w2.heap.size, 0, none⟩ = some (.string ⟨#[]⟩) := by rw [hW]; exact World.cell?_alloc_at _ _ _ _ rfl
    have hp1 : W.cell? ⟨w2.heap.size, 1, none⟩ = some (.string ⟨#[]⟩) := by rw [hW]; exact World.cell?_alloc_at _ _ _ _ rfl
    rw [← hW]
    clear hW HB1 HB2 HBW
    cases f with
    | false =>
      go_wp2
      go_ret
      exact ⟨rfl, ⟨c, HCW.out, fun q hq => by cases hq⟩, HKW.out⟩
    | true =>
      go_wp2
      go_ret
      exact ⟨rfl, ⟨c, HCW.out, fun q hq => by cases hq⟩, HKW.out⟩
  | some p =>
    obtain ⟨l, d, o⟩ := p
    have ho := hsz l d o rfl
    clear hsz
    cases f with
    | false =>
      have hr2 : r = none := by rw [hr]; rfl
      clear hr
      subst hr2
      simp only [takeV, emptyB] at HT
      go_enter Tryz.func38, Tryz.ntmps38
      go_upto_region 3 with (first
        | (go_at_call 53; refine (HF.out _).mono ?_; rintro e w1 ⟨rfl, hb1⟩; have HB1 := Aside0.mk hb1; have HE1 := Aside0.mk ((hb1.cell (p := ⟨1, 0, none⟩) (World.block_lt_of_cell? w _ HE.out)).trans HE.out); clear hb1)
        | (go_at_call 54; refine (HT.out _ HE1.out).mono ?_; rintro e w2 ⟨rfl, hb2⟩; have HB2 := Aside0.mk (HB1.out.trans (hb2.mono HB1.out.size)); clear hb2))
      clear HF HT HE HE1
      obtain ⟨W, hW⟩ : ∃ W, W = w2.alloc (Obj.cells #[Value.string l, Value.string d] 24) := ⟨_, rfl⟩
      have HBW := Aside0.mk (show Below w.heap.size w W by rw [hW]; exact HB2.out.alloc HB2.out.size _)
      have HCW := Aside0.mk (HCA.out.below HBW.out)
      have HKW := Aside0.mk (kept_below (B := B) HBW.out)
      have hp0 : W.cell? ⟨w2.heap.size, 0, none⟩ = some (.string l) := by rw [hW]; exact World.cell?_alloc_at _ _ _ _ rfl
      have hp1 : W.cell? ⟨w2.heap.size, 1, none⟩ = some (.string d) := by rw [hW]; exact World.cell?_alloc_at _ _ _ _ rfl
      rw [← hW]
      clear hW HB1 HB2 HBW
      go_wp2
      go_ret
      exact ⟨rfl, ⟨c, HCW.out, fun q hq => by cases hq⟩, HKW.out⟩
    | true =>
      have hr2 : r = if (c.v.toList == [82, 67, 80, 84]) = true then (if o.toList.isEmpty = true then some { c with l := l, d := d } else none) else optsO o.size { c with l := l, d := d, n := -1 } o := hr
      clear hr
      simp only [takeV, emptyB] at HT
      go_enter Tryz.func38, Tryz.ntmps38
      go_upto_region 3 with (first
        | (go_at_call 53; refine (HF.out _).mono ?_; rintro e w1 ⟨rfl, hb1⟩; have HB1 := Aside0.mk hb1; have HE1 := Aside0.mk ((hb1.cell (p := ⟨1, 0, none⟩) (World.block_lt_of_cell? w _ HE.out)).trans HE.out); clear hb1)
        | (go_at_call 54; refine (HT.out _ HE1.out).mono ?_; rintro e w2 ⟨rfl, hb2⟩; have HB2 := Aside0.mk (HB1.out.trans (hb2.mono HB1.out.size)); clear hb2))
      clear HF HT HE HE1
      obtain ⟨W, hW⟩ : ∃ W, W = w2.alloc (Obj.cells #[Value.string l, Value.string d] 24) := ⟨_, rfl⟩
      have HBW := Aside0.mk (show Below w.heap.size w W by rw [hW]; exact HB2.out.alloc HB2.out.size _)
      have HCW := Aside0.mk (HCA.out.below HBW.out)
      have HKW := Aside0.mk (kept_below (B := B) HBW.out)
      have hp0 : W.cell? ⟨w2.heap.size, 0, none⟩ = some (.string l) := by rw [hW]; exact World.cell?_alloc_at _ _ _ _ rfl
      have hp1 : W.cell? ⟨w2.heap.size, 1, none⟩ = some (.string d) := by rw [hW]; exact World.cell?_alloc_at _ _ _ _ rfl
      rw [← hW]
      clear hW HB1 HB2 HBW
      have hv0 := HCW.out.c0
      have hv1 := HCW.out.c1
      have hv2 := HCW.out.c2
      have hz0 := HCW.out.fr
      have HCP := Aside0.mk (HCW.out.setP l d)
      have HKP := Aside0.mk ((HKW.out.setCell (p := ⟨B, 1, none⟩) (.inl rfl) (.string l)).setCell (p := ⟨B, 2, none⟩) (.inl rfl) (.string d))
      cases b1 : c.v.toList == [82, 67, 80, 84] with
      | true =>
        rw [b1, if_pos rfl] at hr2
        have hc0 := HCP.out.c0
        cases b2 : o.toList.isEmpty with
        | true =>
          rw [b2, if_pos rfl] at hr2
          subst hr2
          go_wp2
          go_ret
          exact ⟨rfl, ⟨_, HCP.out, fun q hq => by cases hq; rfl⟩, HKP.out⟩
        | false =>
          rw [b2, if_neg (by simp)] at hr2
          subst hr2
          go_wp2
          go_ret
          exact ⟨rfl, ⟨_, HCP.out, fun q hq => by cases hq⟩, HKP.out⟩
      | false =>
        rw [b1, if_neg (by simp)] at hr2
        have HR := Aside0.mk hr2
        clear hr2
        have hc0 := HCP.out.c0
        have hc4 := HCP.out.c4
        have HCN := Aside0.mk (HCP.out.setN (-1))
        have HKN := Aside0.mk (HKP.out.setCell (p := ⟨B, 4, none⟩) (.inl rfl) (.int .i64 (-1)))
        go_wp2
        go_loopw [9] (fun i wr => ∃ (o2 : ByteArray) (c2 : CmdR), i = .string o2 ∧ o2.size ≤ 1000000 ∧ Aside0 (CmdAt B c2 wr) ∧ Aside0 (KB B w wr) ∧ Aside0 (r = optsO o2.size c2 o2)) (fun i _ => sizeV i)
        case atStart => exact ⟨o, _, rfl, ho, HCN, HKN, HR⟩
        case round =>
          clear HCA HCP HCW HCN HKN HKP HKW HR hv0 hv1 hv2 hz0 hc0 hc4 hp0 hp1 ho
          obtain ⟨o2, c2, rfl, ho2, HC2, HK2, HR⟩ := hrel
          cases e1 : o2.toList.isEmpty with
          | true =>
            have hr3 : r = some c2 := by
              rw [HR.out]
              cases o2.size with
              | zero => simp only [optsO, e1, if_true]
              | succ k => simp only [optsO, e1, if_true]
            clear HR
            subst hr3
            go_wp2
            go_ret
            exact ⟨rfl, ⟨_, HC2.out, fun q hq => by cases hq; rfl⟩, HK2.out⟩
          | false =>
            obtain ⟨k, hk⟩ : ∃ k, o2.size = k + 1 := by
              refine ⟨o2.size - 1, ?_⟩
              have h9 := data_length o2
              rw [Dots.toList_data] at e1
              cases h8 : o2.data.toList with
              | nil => rw [h8] at e1; simp at e1
              | cons a l => rw [h8] at h9; simp at h9; omega
            have hr3 : r = if preF o2 32 = false then none
              else match optC c2 (cutA (preT o2 32) 32) with
                | none => none
                | some c' => optsO k c' (o2.extract (1 + (cutA (preT o2 32) 32).size) o2.size) := by
              rw [HR.out]
              conv => lhs; rw [hk]
              rw [optsO, if_neg (by rw [e1]; simp)]
            clear HR
            have hpz := preF_size o2 32
            have HP := Aside0.mk (fun W => prefix_calls o2 32 W)
            have hz1 := preT_size o2 32
            obtain ⟨x, hx⟩ : ∃ x, x = preT o2 32 := ⟨_, rfl⟩
            rw [← hx] at hr3 HP hpz hz1
            clear hx
            have hz2 := cutA_size x 32
            have HCu := Aside0.mk (fun W => cut_calls x 32 (by omega) W)
            obtain ⟨y, hy⟩ : ∃ y, y = cutA x 32 := ⟨_, rfl⟩
            rw [← hy] at hr3 HCu hz2
            clear hy
            have HO := Aside0.mk (fun W hW => option_calls B c2 y (by omega) W hW)
            cases e2 : preF o2 32 with
            | false =>
              rw [e2] at hr3 HP
              have hr4 : r = none := hr3
              clear hr3 hpz
              subst hr4
              go_wp2_with (go_at_call 55; refine (HP.out _).mono ?_; rintro e w' ⟨rfl, rfl⟩)
              go_ret
              exact ⟨rfl, ⟨_, HC2.out, fun q hq => by cases hq⟩, HK2.out⟩
            | true =>
              rw [e2] at hr3 HP
              have hxs := hpz e2
              have hr4 : r = match optC c2 y with
                | none => none
                | some c' => optsO k c' (o2.extract (1 + y.size) o2.size) := hr3
              clear hr3 hpz
              have hw1 : wrap64 (1 + (y.size : Int)) = 1 + y.size := by unfold wrap64; omega
              have hle : 1 + y.size ≤ o2.size := by omega
              cases e3 : optC c2 y with
              | none =>
                rw [e3] at hr4 HO
                simp only [Option.isSome_none, Option.getD_none] at HO
                have hr5 : r = none := hr4
                clear hr4
                subst hr5
                go_wp2_with (first
                  | (go_at_call 55; refine (HP.out _).mono ?_; rintro e w' ⟨rfl, rfl⟩)
                  | (go_at_call 15; refine (HCu.out _).mono ?_; rintro e w' ⟨rfl, n1, rfl⟩)
                  | (go_at_call 56; refine (HO.out _ (HC2.out.heap (by first | rfl | exact rfl))).mono ?_; rintro e w3 ⟨rfl, hc3, hk3⟩; have HC3 := Aside0.mk hc3; have HK3 := Aside0.mk (HK2.out.then_ (kept_drewL hk3)); clear hc3 hk3))
                go_ret
                exact ⟨rfl, ⟨_, HC3.out, fun q hq => by cases hq⟩, HK3.out⟩
              | some c3 =>
                rw [e3] at hr4 HO
                simp only [Option.isSome_some, Option.getD_some] at HO
                have hr5 : r = optsO k c3 (o2.extract (1 + y.size) o2.size) := hr4
                have hz4 : (o2.extract (1 + y.size) o2.size).size ≤ k := by rw [ByteArray.size_extract]; omega
                have HR5 := Aside0.mk (hr5.trans (optsO_more k (o2.extract (1 + y.size) o2.size).size c3 _ hz4 (Nat.le_refl _)))
                clear hr4 hr5
                have hz5 : (o2.extract (1 + y.size) o2.size).size ≤ 1000000 := by omega
                have hz6 : (o2.extract (1 + y.size) o2.size).size < o2.size := by omega
                clear hz4 hk hxs
                go_wp2_with (first
                  | (go_at_call 55; refine (HP.out _).mono ?_; rintro e w' ⟨rfl, rfl⟩)
                  | (go_at_call 15; refine (HCu.out _).mono ?_; rintro e w' ⟨rfl, n1, rfl⟩)
                  | (go_at_call 56; refine (HO.out _ (HC2.out.heap (by first | rfl | exact rfl))).mono ?_; rintro e w3 ⟨rfl, hc3, hk3⟩; have HC3 := Aside0.mk hc3; have HK3 := Aside0.mk (HK2.out.then_ (kept_drewL hk3)); clear hc3 hk3))
                go_roundw
                case rel => exact ⟨_, c3, rfl, hz5, HC3, HK3, HR5⟩
                case measure => exact hz6
end Go.Proofs.YtjggdkcfpdhoaaaGreatDoor.Mail
/- Command.read: what is behind a verb. -/
namespace Go.Proofs.YtjggdkcfpdhoaaaGreatDoor.Read
open Go Go.RowKit Go.Proofs.YtjggdkcfpdhoaaaGreatDoorW.PrintWords Go.Proofs.YtjggdkcfpdhoaaaGreatDoor.Large Go.Proofs.YtjggdkcfpdhoaaaGreatDoor.Take Go.Proofs.YtjggdkcfpdhoaaaGreatDoor.Number Go.Proofs.YtjggdkcfpdhoaaaGreatDoor.Opt Go.Proofs.YtjggdkcfpdhoaaaGreatDoor.Mail Go.Proofs.YtjggdkcfpdhoaaaGreatDoor.Dotted
set_option linter.unusedVariables false
set_option linter.unusedSimpArgs false
def fromS : ByteArray := ⟨#[70, 82, 79, 77, 58]⟩
def toS : ByteArray := ⟨#[84, 79, 58]⟩
def readG (b1 b2 b3 b4 b5 b6 dom emp more : Bool) (c ca : CmdR) (m1 m2 : Option CmdR) : Option CmdR :=
  if b1 = true then (if dom = true then some ca else none)
  else if b2 = true then (if dom = true then some ca else none)
  else if b3 = true then m1
  else if b4 = true then m2
  else if b5 = true then some ca
  else if b6 = true then (if emp = true then none else some ca)
  else if more = true then none else some c
/-- A command read on behind its verb. -/
def readO (c : CmdR) (rest : ByteArray) (more : Bool) : Option CmdR :=
  readG (c.v.toList == [72, 69, 76, 79]) (c.v.toList == [69, 72, 76, 79]) (c.v.toList == [77, 65, 73, 76]) (c.v.toList == [82, 67, 80, 84]) (c.v.toList == [78, 79, 79, 80]) (c.v.toList == [86, 82, 70, 89])
    (domainB rest) rest.toList.isEmpty more c { c with a := rest } (mailO c rest fromS) (mailO c rest toS)
set_option maxRecDepth 100000 in
set_option maxHeartbeats 4000000 in
theorem read_calls (B : Nat) (c : CmdR) (rest : ByteArray) (more : Bool) (hs : rest.size ≤ 1000000) (t : Nat) (pv : Value) (w : World) (hE : w.cell? ⟨1, 0, none⟩ = some (.iface t pv)) (h : CmdAt B c w) :
    Calls Tryz.prog 19 #[.pointer (some ⟨B, 0, none⟩), .string rest, .bool more] w (PostM B w (readO c rest more)) := by
  obtain ⟨r, hr⟩ : ∃ r, r = readO c rest more := ⟨_, rfl⟩
  rw [← hr]
  unfold readO at hr
  have HD := Aside0.mk (fun W => domain_calls rest hs W)
  obtain ⟨dm, hdm⟩ : ∃ x, x = domainB rest := ⟨_, rfl⟩
  rw [← hdm] at hr HD
  have HM1 := Aside0.mk (mail_calls B c rest fromS hs (by decide) t pv w hE h)
  have HM2 := Aside0.mk (mail_calls B c rest toS hs (by decide) t pv w hE h)
  obtain ⟨m1, hm1⟩ : ∃ x, x = mailO c rest fromS := ⟨_, rfl⟩
  obtain ⟨m2, hm2⟩ : ∃ x, x = mailO c rest toS := ⟨_, rfl⟩
  rw [← hm1] at hr HM1
  rw [← hm2] at hr HM2
  have HCA := Aside0.mk h
  have hv0 := h.c0
  have hv3 := h.c3
  have hz3 := h.fr 3
  have HA := Aside0.mk (h.setA rest)
  have HKA := Aside0.mk ((KB.refl B w).setCell (p := ⟨B, 3, none⟩) (.inl rfl) (.string rest))
  clear h hE hdm hm1 hm2
  cases b1 : c.v.toList == [72, 69, 76, 79] with
  | true =>
    rw [b1] at hr
    cases dm with
    | true =>
      have hr2 : r = some { c with a := rest } := hr
      clear hr
      subst hr2
      go_enter Tryz.func19, Tryz.ntmps19
      go_wp2_with (go_at_call 37; refine (HD.out _).mono ?_; rintro e w1 ⟨rfl, hb1⟩; have HB1 := Aside0.mk hb1; clear hb1)
      go_ret
      exact ⟨rfl, ⟨_, HA.out.below HB1.out, fun q hq => by cases hq; rfl⟩, HKA.out.below HB1.out⟩
    | false =>
      have hr2 : r = none := hr
      clear hr
      subst hr2
      go_enter Tryz.func19, Tryz.ntmps19
      go_wp2_with (go_at_call 37; refine (HD.out _).mono ?_; rintro e w1 ⟨rfl, hb1⟩; have HB1 := Aside0.mk hb1; clear hb1)
      go_ret
      exact ⟨rfl, ⟨_, HA.out.below HB1.out, fun q hq => by cases hq⟩, HKA.out.below HB1.out⟩
  | false =>
    rw [b1] at hr
    cases b2 : c.v.toList == [69, 72, 76, 79] with
    | true =>
      rw [b2] at hr
      cases dm with
      | true =>
        have hr2 : r = some { c with a := rest } := hr
        clear hr
        subst hr2
        go_enter Tryz.func19, Tryz.ntmps19
        go_wp2_with (go_at_call 37; refine (HD.out _).mono ?_; rintro e w1 ⟨rfl, hb1⟩; have HB1 := Aside0.mk hb1; clear hb1)
        go_ret
        exact ⟨rfl, ⟨_, HA.out.below HB1.out, fun q hq => by cases hq; rfl⟩, HKA.out.below HB1.out⟩
      | false =>
        have hr2 : r = none := hr
        clear hr
        subst hr2
        go_enter Tryz.func19, Tryz.ntmps19
        go_wp2_with (go_at_call 37; refine (HD.out _).mono ?_; rintro e w1 ⟨rfl, hb1⟩; have HB1 := Aside0.mk hb1; clear hb1)
        go_ret
        exact ⟨rfl, ⟨_, HA.out.below HB1.out, fun q hq => by cases hq⟩, HKA.out.below HB1.out⟩
    | false =>
      rw [b2] at hr
      cases b3 : c.v.toList == [77, 65, 73, 76] with
      | true =>
        rw [b3] at hr
        have hr2 : r = m1 := hr
        clear hr
        subst hr2
        go_enter Tryz.func19, Tryz.ntmps19
        go_wp2_with (go_at_call 38; refine HM1.out.mono ?_; rintro e w1 ⟨rfl, hp1, hp2⟩; have HP1 := Aside0.mk hp1; have HP2 := Aside0.mk hp2; clear hp1 hp2)
        go_ret
        exact ⟨rfl, HP1.out, HP2.out⟩
      | false =>
        rw [b3] at hr
        cases b4 : c.v.toList == [82, 67, 80, 84] with
        | true =>
          rw [b4] at hr
          have hr2 : r = m2 := hr
          clear hr
          subst hr2
          go_enter Tryz.func19, Tryz.ntmps19
          go_wp2_with (go_at_call 38; refine HM2.out.mono ?_; rintro e w1 ⟨rfl, hp1, hp2⟩; have HP1 := Aside0.mk hp1; have HP2 := Aside0.mk hp2; clear hp1 hp2)
          go_ret
          exact ⟨rfl, HP1.out, HP2.out⟩
        | false =>
          rw [b4] at hr
          cases b5 : c.v.toList == [78, 79, 79, 80] with
          | true =>
            rw [b5] at hr
            have hr2 : r = some { c with a := rest } := hr
            clear hr
            subst hr2
            go_enter Tryz.func19, Tryz.ntmps19
            go_wp2
            go_ret
            exact ⟨rfl, ⟨_, HA.out, fun q hq => by cases hq; rfl⟩, HKA.out⟩
          | false =>
            rw [b5] at hr
            cases b6 : c.v.toList == [86, 82, 70, 89] with
            | true =>
              rw [b6] at hr
              cases be : rest.toList.isEmpty with
              | true =>
                rw [be] at hr
                have hr2 : r = none := hr
                clear hr
                subst hr2
                go_enter Tryz.func19, Tryz.ntmps19
                go_wp2
                go_ret
                exact ⟨rfl, ⟨_, HA.out, fun q hq => by cases hq⟩, HKA.out⟩
              | false =>
                rw [be] at hr
                have hr2 : r = some { c with a := rest } := hr
                clear hr
                subst hr2
                go_enter Tryz.func19, Tryz.ntmps19
                go_wp2
                go_ret
                exact ⟨rfl, ⟨_, HA.out, fun q hq => by cases hq; rfl⟩, HKA.out⟩
            | false =>
              rw [b6] at hr
              cases more with
              | true =>
                have hr2 : r = none := hr
                clear hr
                subst hr2
                go_enter Tryz.func19, Tryz.ntmps19
                go_wp2
                go_ret
                exact ⟨rfl, ⟨_, HCA.out, fun q hq => by cases hq⟩, KB.refl _ w⟩
              | false =>
                have hr2 : r = some c := hr
                clear hr
                subst hr2
                go_enter Tryz.func19, Tryz.ntmps19
                go_wp2
                go_ret
                exact ⟨rfl, ⟨_, HCA.out, fun q hq => by cases hq; rfl⟩, KB.refl _ w⟩
end Go.Proofs.YtjggdkcfpdhoaaaGreatDoor.Read
/- smtp.Parse: the command of a text, or its code. -/
namespace Go.Proofs.YtjggdkcfpdhoaaaGreatDoor.Parse
open Go Go.RowKit Go.Proofs.YtjggdkcfpdhoaaaGreatDoorW.PrintWords Go.Proofs.YtjggdkcfpdhoaaaGreatDoor.Large Go.Proofs.YtjggdkcfpdhoaaaGreatDoor.Take Go.Proofs.YtjggdkcfpdhoaaaGreatDoor.Number Go.Proofs.YtjggdkcfpdhoaaaGreatDoor.Opt Go.Proofs.YtjggdkcfpdhoaaaGreatDoor.Mail Go.Proofs.YtjggdkcfpdhoaaaGreatDoor.Read
set_option linter.unusedVariables false
set_option linter.unusedSimpArgs false
def verbsL : List ByteArray := [⟨#[72, 69, 76, 79]⟩, ⟨#[69, 72, 76, 79]⟩, ⟨#[77, 65, 73, 76]⟩, ⟨#[82, 67, 80, 84]⟩, ⟨#[68, 65, 84, 65]⟩, ⟨#[82, 83, 69, 84]⟩, ⟨#[78, 79, 79, 80]⟩, ⟨#[81, 85, 73, 84]⟩, ⟨#[86, 82, 70, 89]⟩]
def emptyC : CmdR := ⟨emptyB, emptyB, emptyB, emptyB, 0, emptyB⟩
/-- A command as a value. -/
def cmdV (c : CmdR) : Value := .agg #[.string c.v, .string c.l, .string c.d, .string c.a, .int .i64 c.n, .string c.b]
/-- The command of a text, and its code. -/
def parseC (s : ByteArray) : CmdR × Int :=
  if Lib.containsS verbsL (largeB (cutA s 32)) = false then (emptyC, 500)
  else match readO { emptyC with v := largeB (cutA s 32) } (cutB s 32) (cutF s 32) with
    | none => (emptyC, 501)
    | some c => (c, 0)
theorem verbs_calls (w : World) : Calls Tryz.prog 18 #[] w fun e w' =>
    e = .returned (.slice (some ⟨w.heap.size, 0, none⟩) 9 9) ∧ w' = w.alloc (.cells ((verbsL.map Value.string).toArray) 9) := by
  go_enter Tryz.func18, Tryz.ntmps18
  go_wp2
  go_ret
  exact ⟨rfl, rfl⟩
theorem verbs_cells (w1 w2 : World) (hw : w2 = w1.alloc (.cells ((verbsL.map Value.string).toArray) 9)) : ∀ j, j < verbsL.length → w2.cell? ⟨w1.heap.size, 0 + j, none⟩ = some (.string (verbsL.getD j ByteArray.empty)) := by
  intro j hj
  rw [hw, World.cell?_alloc_new, Nat.zero_add]
  have h9 : verbsL.length = 9 := rfl
  rw [h9] at hj
  match j, hj with
  | 0, _ => rfl
  | 1, _ => rfl
  | 2, _ => rfl
  | 3, _ => rfl
  | 4, _ => rfl
  | 5, _ => rfl
  | 6, _ => rfl
  | 7, _ => rfl
  | 8, _ => rfl
def cmdO (c : CmdR) : Obj := .cells #[.string c.v, .string c.l, .string c.d, .string c.a, .int .i64 c.n, .string c.b] 26
theorem cmdAt_new (w : World) (c : CmdR) : CmdAt w.heap.size c (w.alloc (cmdO c)) :=
  ⟨World.cell?_alloc_at _ _ _ _ rfl, World.cell?_alloc_at _ _ _ _ rfl, World.cell?_alloc_at _ _ _ _ rfl, World.cell?_alloc_at _ _ _ _ rfl, World.cell?_alloc_at _ _ _ _ rfl, World.cell?_alloc_at _ _ _ _ rfl, fun i => World.frozen?_alloc_at _ _ _ _ rfl⟩
/-- What lies there while a text is parsed: the result's place, the command's. -/
structure PW (w : World) (Q : Nat) (c : CmdR) (t : Nat) (pv : Value) (W : World) : Prop where
  r0 : CmdAt w.heap.size emptyC W
  cq : CmdAt Q c W
  e : W.cell? ⟨1, 0, none⟩ = some (.iface t pv)
  lt : w.heap.size < Q
  bel : Below w.heap.size w W
theorem PW.below {w W W2 : World} {Q t : Nat} {c : CmdR} {pv : Value} (h : PW w Q c t pv W) (hb : Below W.heap.size W W2) : PW w Q c t pv W2 :=
  ⟨h.r0.below hb, h.cq.below hb, (hb.cell (p := ⟨1, 0, none⟩) (World.block_lt_of_cell? W _ h.e)).trans h.e, h.lt, h.bel.trans (hb.mono h.bel.size)⟩
theorem PW.start (w w1 : World) (n : Nat) (v : ByteArray) (t : Nat) (pv : Value) (hE : w.cell? ⟨1, 0, none⟩ = some (.iface t pv))
    (hb : Below ((w.alloc (cmdO emptyC)).drewN n).heap.size ((w.alloc (cmdO emptyC)).drewN n) w1) : PW w w1.heap.size { emptyC with v := v } t pv (w1.alloc (cmdO { emptyC with v := v })) := by
  have hlt := World.block_lt_of_cell? w _ hE
  have e1 : ((w.alloc (cmdO emptyC)).drewN n).heap.size = w.heap.size + 1 := World.size_alloc _ _
  have h0 : CmdAt w.heap.size emptyC ((w.alloc (cmdO emptyC)).drewN n) := (cmdAt_new w emptyC).heap rfl
  have hb0 : Below w.heap.size w ((w.alloc (cmdO emptyC)).drewN n) := pw_below_drewN ((Below.refl _ w).alloc (Nat.le_refl _) _) n
  have hb1 : Below w.heap.size w w1 := hb0.trans (hb.mono hb0.size)
  have h1 := h0.below hb
  have hz := hb.size
  have hb2 : Below w1.heap.size w1 (w1.alloc (cmdO { emptyC with v := v })) := (Below.refl _ w1).alloc (Nat.le_refl _) _
  have hb3 : Below w.heap.size w (w1.alloc (cmdO { emptyC with v := v })) := hb1.trans (hb2.mono hb1.size)
  exact ⟨h1.below hb2, cmdAt_new w1 _, (hb3.cell (p := ⟨1, 0, none⟩) hlt).trans hE, by omega, hb3⟩
theorem PW.read {w W W2 : World} {Q t : Nat} {c c2 : CmdR} {pv : Value} (h : PW w Q c t pv W) (hc : CmdAt Q c2 W2) (hk : KB Q W W2) : PW w Q c2 t pv W2 := by
  have h1 := h.lt
  have h2 := h.r0.lt
  have h3 := World.block_lt_of_cell? W _ h.e
  have hlt : 1 < W.heap.size := h3
  have hg : 1 ≠ Q → W2.cell? ⟨1, 0, none⟩ = some (.iface t pv) := fun hn => by
    have h9 := hk.block 1 hlt hn
    have h8 := h.e
    simpa [World.cell?, h9] using h8
  refine ⟨h.r0.heap (hk.block _ h2 (by omega)), hc, hg (fun e => ?_), h.lt, h.bel.trans (hk.toBelow _ (by omega) h.bel.size)⟩
  have h8 := h.e
  have h7 := h.cq.c0
  rw [e] at h8
  rw [h7] at h8
  cases h8
set_option maxRecDepth 100000 in
set_option maxHeartbeats 4000000 in
theorem parse_calls (s : ByteArray) (hs : s.size ≤ 1000000) (t : Nat) (pv : Value) (w : World) (hE : w.cell? ⟨1, 0, none⟩ = some (.iface t pv)) :
    Calls Tryz.prog 7 #[.string s] w fun e w' => e = .returned (.tuple #[cmdV (parseC s).1, .int .i64 (parseC s).2]) ∧ Below w.heap.size w w' := by
  obtain ⟨r, hr⟩ : ∃ r, r = parseC s := ⟨_, rfl⟩
  rw [← hr]
  unfold parseC at hr
  have z1 := cutA_size s 32
  have z2 := cutB_size s 32
  have HC := Aside0.mk (fun W => cut_calls s 32 hs W)
  have HL := Aside0.mk (fun W => large_calls (cutA s 32) (by omega) W)
  obtain ⟨q, hq⟩ : ∃ x, x = cutB s 32 := ⟨_, rfl⟩
  obtain ⟨f, hf⟩ : ∃ x, x = cutF s 32 := ⟨_, rfl⟩
  obtain ⟨a, ha⟩ : ∃ x, x = cutA s 32 := ⟨_, rfl⟩
  obtain ⟨v, hv⟩ : ∃ x, x = largeB (cutA s 32) := ⟨_, rfl⟩
  rw [← hv] at hr HL
  rw [← hq] at hr HC z2
  rw [← hf] at hr HC
  rw [← ha] at HC HL
  have HR := Aside0.mk (fun B W (h : CmdAt B { emptyC with v := v } W) (hE : W.cell? ⟨1, 0, none⟩ = some (.iface t pv)) => read_calls B { emptyC with v := v } q f (by omega) t pv W hE h)
  have HE := Aside0.mk hE
  clear hq hf ha hv z1 z2 hE
  go_enter Tryz.func7, Tryz.ntmps7
  go_upto_region 3 with (first
    | (go_at_call 15; refine (HC.out _).mono ?_; rintro e w' ⟨rfl, n1, rfl⟩)
    | (go_at_call 16; refine (HL.out _).mono ?_; rintro e w1 ⟨rfl, hb1⟩; have HB1 := Aside0.mk hb1; clear hb1))
  obtain ⟨W, hW⟩ : ∃ W, W = w1.alloc (cmdO { emptyC with v := v }) := ⟨_, rfl⟩
  have HW := Aside0.mk (PW.start w w1 n1 v t pv HE.out HB1.out)
  obtain ⟨Q, hQ⟩ : ∃ Q, Q = w1.heap.size := ⟨_, rfl⟩
  rw [← hW, ← hQ] at HW
  have hW2 : w1.alloc (Obj.cells #[Value.string v, Value.string ⟨#[]⟩, Value.string ⟨#[]⟩, Value.string ⟨#[]⟩, Value.int IntKind.i64 0, Value.string ⟨#[]⟩] 26) = W := hW.symm
  rw [hW2, ← hQ]
  clear hW hW2 HB1 HC HL hQ
  have hv0 := HW.out.cq.c0
  have HVS := Aside0.mk verbs_calls
  obtain ⟨ok, hok⟩ : ∃ x, x = Lib.containsS verbsL v := ⟨_, rfl⟩
  have HCN := Aside0.mk (fun b W (hc : ∀ j, j < verbsL.length → W.cell? ⟨b, 0 + j, none⟩ = some (.string (verbsL.getD j ByteArray.empty))) => Tryz.slices_Contains_string b 0 9 9 verbsL v W (by decide) (by decide) hc)
  have HCN : Aside0 (∀ b W, (∀ j, j < verbsL.length → W.cell? ⟨b, 0 + j, none⟩ = some (.string (verbsL.getD j ByteArray.empty))) → Calls Tryz.prog 17 #[.slice (some ⟨b, 0, none⟩) 9 9, .string v] W fun e w' => e = .returned (.bool ok) ∧ w' = W) := ⟨fun b W hc => by rw [hok]; exact HCN.out b W hc⟩
  rw [← hok] at hr
  clear hok
  go_region_with (first
    | (go_at_call 18; refine (HVS.out _).mono ?_; rintro e w2 ⟨rfl, hw2⟩; have HL2 := Aside0.mk (verbs_cells _ w2 hw2); have HW2 := Aside0.mk (HW.out.below (show Below W.heap.size W w2 by rw [hw2]; exact ((Below.refl _ W).drew).alloc (Nat.le_refl _) _)); have hv2 := HW2.out.cq.c0; clear hw2)
    | (go_at_call 17; refine (HCN.out _ _ HL2.out).mono ?_; rintro e w' ⟨rfl, rfl⟩))
  all_goals clear hv2 hv0 HL2 HVS HCN HE HW
  all_goals
    cases ok with
    | false =>
      have hr2 : r = (emptyC, 500) := hr
      clear hr HR
      subst hr2
      have HB := Aside0.mk HW2.out.bel
      have m0 := HW2.out.r0.c0; have m1 := HW2.out.r0.c1; have m2 := HW2.out.r0.c2; have m3 := HW2.out.r0.c3; have m4 := HW2.out.r0.c4; have m5 := HW2.out.r0.c5
      have mf := HW2.out.r0.fr
      simp only [emptyC, emptyB] at m0 m1 m2 m3 m4 m5
      go_wp2
      refine bodyPost_ret (v := .tuple #[cmdV emptyC, .int .i64 500]) (by simp [results, Tryz.results7, go_sem, cmdV, emptyC, emptyB, m0, m1, m2, m3, m4, m5]) rfl ⟨rfl, ((((((HW2.out.bel.setCell (p := ⟨w.heap.size, 0, none⟩) (Nat.le_refl _) _).setCell (p := ⟨w.heap.size, 1, none⟩) (Nat.le_refl _) _).setCell (p := ⟨w.heap.size, 2, none⟩) (Nat.le_refl _) _).setCell (p := ⟨w.heap.size, 3, none⟩) (Nat.le_refl _) _).setCell (p := ⟨w.heap.size, 4, none⟩) (Nat.le_refl _) _).setCell (p := ⟨w.heap.size, 5, none⟩) (Nat.le_refl _) _)⟩
    | true =>
      have HRD := Aside0.mk (HR.out Q w' HW2.out.cq HW2.out.e)
      obtain ⟨ro, hro⟩ : ∃ x, x = readO { emptyC with v := v } q f := ⟨_, rfl⟩
      rw [← hro] at hr HRD
      clear hro HR
      cases ro with
      | none =>
        have hr2 : r = (emptyC, 501) := hr
        clear hr
        subst hr2
        go_wp2_with (go_at_call 19; refine HRD.out.mono ?_; rintro e w3 ⟨rfl, hp1, hp2⟩; obtain ⟨c2, hc2, _⟩ := hp1; have HW3 := Aside0.mk (HW2.out.read hc2 hp2); clear hc2 hp2; have m0 := HW3.out.r0.c0; have m1 := HW3.out.r0.c1; have m2 := HW3.out.r0.c2; have m3 := HW3.out.r0.c3; have m4 := HW3.out.r0.c4; have m5 := HW3.out.r0.c5; have mf := HW3.out.r0.fr; simp only [emptyC, emptyB] at m0 m1 m2 m3 m4 m5)
        refine bodyPost_ret (v := .tuple #[cmdV emptyC, .int .i64 501]) (by simp [results, Tryz.results7, go_sem, cmdV, emptyC, emptyB, m0, m1, m2, m3, m4, m5]) rfl ⟨rfl, ((((((HW3.out.bel.setCell (p := ⟨w.heap.size, 0, none⟩) (Nat.le_refl _) _).setCell (p := ⟨w.heap.size, 1, none⟩) (Nat.le_refl _) _).setCell (p := ⟨w.heap.size, 2, none⟩) (Nat.le_refl _) _).setCell (p := ⟨w.heap.size, 3, none⟩) (Nat.le_refl _) _).setCell (p := ⟨w.heap.size, 4, none⟩) (Nat.le_refl _) _).setCell (p := ⟨w.heap.size, 5, none⟩) (Nat.le_refl _) _)⟩
      | some c =>
        have hr2 : r = (c, 0) := hr
        clear hr
        subst hr2
        go_wp2_with (go_at_call 19; refine HRD.out.mono ?_; rintro e w3 ⟨rfl, hp1, hp2⟩; obtain ⟨c2, hc2, hc3⟩ := hp1; have hc4 := hc3 c rfl; subst hc4; have HW3 := Aside0.mk (HW2.out.read hc2 hp2); clear hc2 hp2 hc3; have m0 := HW3.out.r0.c0; have m1 := HW3.out.r0.c1; have m2 := HW3.out.r0.c2; have m3 := HW3.out.r0.c3; have m4 := HW3.out.r0.c4; have m5 := HW3.out.r0.c5; have mf := HW3.out.r0.fr; simp only [emptyC, emptyB] at m0 m1 m2 m3 m4 m5; have n0 := HW3.out.cq.c0; have n1 := HW3.out.cq.c1; have n2 := HW3.out.cq.c2; have n3 := HW3.out.cq.c3; have n4 := HW3.out.cq.c4; have n5 := HW3.out.cq.c5)
        refine bodyPost_ret (v := .tuple #[cmdV c2, .int .i64 0]) (by simp [results, Tryz.results7, go_sem, cmdV, emptyC, emptyB, m0, m1, m2, m3, m4, m5]) rfl ⟨rfl, ((((((HW3.out.bel.setCell (p := ⟨w.heap.size, 0, none⟩) (Nat.le_refl _) _).setCell (p := ⟨w.heap.size, 1, none⟩) (Nat.le_refl _) _).setCell (p := ⟨w.heap.size, 2, none⟩) (Nat.le_refl _) _).setCell (p := ⟨w.heap.size, 3, none⟩) (Nat.le_refl _) _).setCell (p := ⟨w.heap.size, 4, none⟩) (Nat.le_refl _) _).setCell (p := ⟨w.heap.size, 5, none⟩) (Nat.le_refl _) _)⟩
end Go.Proofs.YtjggdkcfpdhoaaaGreatDoor.Parse
