/- Rows of bytes that a conversion of a text makes: they may be read and written in place; small letters. -/
import Derived.Test.YtjggdkcfpdhoaaaGreatDoorWWords
import Derived.Lib.ConvBytes
open Go Go.RowKit
namespace Go.Proofs.YtjggdkcfpdhoaaaGreatDoorW.SRows
open Go.Proofs.YtjggdkcfpdhoaaaGreatDoorW.PrintWords
def lowI (c : Int) : Int := if 65 ≤ c ∧ c ≤ 90 then c + 32 else c
/-- A text's bytes, with small letters for capital ones. -/
def smallL (s : ByteArray) : List Int := s.data.toList.map fun b => lowI (b.toNat : Int)
theorem smallL_eq (s : ByteArray) : smallL s = (bytesOf s).map lowI := by simp [smallL, bytesOf]
theorem smallL_length (s : ByteArray) : (smallL s).length = s.size := by simp [smallL]
theorem smallL_get (s : ByteArray) (k : Nat) (hk : k < s.size) : (smallL s)[k]? = some (lowI ((s.data.toList.getD k 0).toNat : Int)) := by
  have h : k < s.data.toList.length := by simpa using hk
  simp only [smallL, List.getElem?_map, List.getElem?_eq_getElem h, Option.map_some, List.getD_eq_getElem?_getD, Option.getD_some]
theorem bytesOf_getD (s : ByteArray) (k : Nat) (hk : k < s.size) : (bytesOf s).getD k 0 = ((s.data.toList.getD k 0).toNat : Int) := by
  have h : k < s.data.toList.length := by simpa using hk
  simp only [bytesOf, List.getD_eq_getElem?_getD, List.getElem?_map, List.getElem?_eq_getElem h, Option.map_some, Option.getD_some]
theorem bytesOf_range (s : ByteArray) (x : Int) (h : x ∈ bytesOf s) : 0 ≤ x ∧ x ≤ 255 := by
  obtain ⟨b, _, rfl⟩ := List.mem_map.1 h
  exact ⟨by omega, by have := b.toNat_lt; omega⟩
theorem bytes_grown (w : World) (e : TypeId) (s : ByteArray) : w.grownBy (Lib.bytesWorld w e s) none := by
  refine ⟨?_, ?_, ?_, by rw [Lib.bytesWorld_size]; omega, fun k hk _ => Lib.bytesWorld_at_old w e s k hk⟩
  all_goals (simp only [Lib.bytesWorld, World.freeze]; split <;> rfl)
/-- A row of the call's own (block B) that may be read and written in place: its first cells. A conversion of a text makes one, or 'make'. -/
structure SRow {α : Type} (enc : α → Value) (d : α) (w : World) (e : TypeId) (B : Nat) (xs : List α) : Prop where
  size : xs.length ≤ 9223372036854775807
  row : ∃ (cells : Array Value) (fr : Nat × Nat), w.heap[B]? = some (.cells cells e fr) ∧ (fr = (0, 0) ∨ fr = (cells.size, cells.size + 1)) ∧ xs.length ≤ cells.size ∧ ∀ j, j < xs.length → cells[j]? = some (enc (xs.getD j d))
theorem SRow.new (w : World) (e : TypeId) (s : ByteArray) (hs : s.size ≤ 9223372036854775807) : SRow (Value.int .u8) 0 (Lib.bytesWorld w e s) e w.heap.size (bytesOf s) := by
  refine ⟨by rw [bytesOf_length]; exact hs, _, _, Lib.bytesWorld_at_new w e s, .inr rfl, ?_, fun j hj => ?_⟩
  · rw [bytesOf_length]
    simp [Lib.bytesCells]
  · rw [bytesOf_length] at hj
    have h := Lib.bytesWorld_cell w e s j hj
    rw [bytesOf_getD s j hj]
    simpa [World.cell?, Lib.bytesWorld_at_new] using h
section
variable {α : Type} {enc : α → Value} {d : α} {w w' : World} {e : TypeId} {B : Nat} {xs : List α}
theorem SRow.lt (h : SRow enc d w e B xs) : B < w.heap.size := by
  obtain ⟨cells, fr, hb, _⟩ := h.row
  exact (Array.getElem?_eq_some_iff.1 hb).1
theorem SRow.cell (h : SRow enc d w e B xs) (j : Nat) (hj : j < xs.length) : w.cell? ⟨B, j, none⟩ = some (enc (xs.getD j d)) := by
  obtain ⟨cells, fr, hb, _, _, hc⟩ := h.row
  simp [World.cell?, hb, hc j hj]
theorem SRow.free (h : SRow enc d w e B xs) (j : Nat) (hj : j < xs.length) : w.frozen? ⟨B, j, none⟩ = false := by
  obtain ⟨cells, fr, hb, hfr, hl, _⟩ := h.row
  have : ¬ cells.size ≤ j := by omega
  rcases hfr with rfl | rfl
  · simp [World.frozen?, hb]
  · simp [World.frozen?, hb, this]
theorem SRow.kept (h : SRow enc d w e B xs) (hk : w'.heap[B]? = w.heap[B]?) : SRow enc d w' e B xs := by
  obtain ⟨cells, fr, hb, hl, hc⟩ := h.row
  exact ⟨h.size, cells, fr, hk.trans hb, hl, hc⟩
theorem SRow.below (h : SRow enc d w e B xs) (hb : Below w.heap.size w w') : SRow enc d w' e B xs := h.kept (hb.block B h.lt)
theorem SRow.set (h : SRow enc d w e B xs) (j : Nat) (hj : j < xs.length) (v : α) : SRow enc d (w.setCell ⟨B, j, none⟩ (enc v)) e B (xs.set j v) := by
  obtain ⟨cells, fr, hb, hfr, hl, hc⟩ := h.row
  obtain ⟨hlt, hk⟩ := Array.getElem?_eq_some_iff.1 hb
  refine ⟨by rw [List.length_set]; exact h.size, cells.setIfInBounds j (enc v), fr, ?_, by rw [Array.size_setIfInBounds]; exact hfr, by rw [List.length_set, Array.size_setIfInBounds]; exact hl, fun i hi => ?_⟩
  · show (w.heap.modify B _)[B]? = _
    rw [Array.getElem?_eq_getElem (by rw [Array.size_modify]; exact hlt), Array.getElem_modify_self, hk]
    simp
  · rw [List.length_set] at hi
    by_cases e : j = i
    · subst e
      rw [Array.getElem?_setIfInBounds_self_of_lt (by omega)]
      simp [List.getD_eq_getElem?_getD, hi]
    · rw [Array.getElem?_setIfInBounds_ne e, hc i hi]
      simp [List.getD_eq_getElem?_getD, List.getElem?_set_ne e]
theorem SRow.other {B' j : Nat} {v : Value} (h : SRow enc d w e B xs) (hn : B ≠ B') : SRow enc d (w.setCell ⟨B', j, none⟩ v) e B xs := h.kept (Below.heap_setCell _ _ _ B hn)
theorem SRow.C {h1 : ∀ x, (enc x).oneCell' = true} (h : SRow enc d w e B xs) : (Kd.scalar enc h1).C w (some ⟨B, 0, none⟩) xs.length xs :=
  Kd.C_of_reads (d := d) ⟨rfl, h.size, fun _ => ⟨_, rfl, fun j hj => by
    have e : (⟨B, 0, none⟩ : Addr).add j = ⟨B, j, none⟩ := by simp [Addr.add]; omega
    rw [e]
    exact h.cell j hj⟩⟩
/-- What 'make' makes is one. -/
theorem SRow.made {h1 : ∀ x, (enc x).oneCell' = true} {base : Nat} {ok : Nat → Prop} {v : Value} (h : (Kd.scalar enc h1).R e w base ok v xs) (h0 : 0 < xs.length) : ∃ B c, v = .slice (some ⟨B, 0, none⟩) xs.length c ∧ base ≤ B ∧ xs.length ≤ c ∧ SRow enc d w e B xs := by
  rcases (Kd.own_of_R h).2 with ⟨_, hn⟩ | ⟨g, cap, cur, rfl, hg, hh, h1', h2', h3, h4⟩
  · omega
  · refine ⟨g, cap, rfl, hg, h1', by unfold maxLen at h2'; omega, cur, (0, 0), hh, .inl rfl, by omega, fun j hj => ?_⟩
    rw [Nat.mul_one] at h4
    have := congrArg (fun l => l[j]?) h4
    simp only [List.getElem?_take_of_lt hj] at this
    rw [encs_get xs j hj] at this
    simpa using this
end
theorem bne_nil_ (l : List UInt8) : (l != []) = !l.isEmpty := by cases l <;> rfl
end Go.Proofs.YtjggdkcfpdhoaaaGreatDoorW.SRows
