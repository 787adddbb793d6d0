/- Texts cut at a byte: what strings.Split and its kin give, in plain Lean. -/
import Derived.Test.YtjggdkcfpdhoaaaGreatDoorWWords
import Derived.Lib.SplitLaws
import Derived.Lib.IndexBytes
import Derived.Lib.IndexLaws
namespace Go.Proofs.YtjggdkcfpdhoaaaGreatDoor.Dots
open Go Go.RowKit Go.Proofs.YtjggdkcfpdhoaaaGreatDoorW.PrintWords
theorem toList_data (s : ByteArray) : s.toList = s.data.toList := ByteArray.toList_eq s
theorem bytesOf_append (a b : ByteArray) : bytesOf (a ++ b) = bytesOf a ++ bytesOf b := by
  have : (a ++ b).data = a.data ++ b.data := ByteArray.data_append
  simp [bytesOf, this]
theorem bytesOf_inj {a b : ByteArray} (h : bytesOf a = bytesOf b) : a = b := by
  have h1 : a.data.toList = b.data.toList := by
    refine (List.map_inj_right (f := fun x : UInt8 => (x.toNat : Int)) (fun x y e => ?_)).1 h
    have e2 : (x.toNat : Int) = (y.toNat : Int) := e
    exact UInt8.toNat_inj.1 (by omega)
  have h2 : a.data = b.data := Array.toList_inj.1 h1
  exact ByteArray.ext h2
theorem toList_inj {a b : ByteArray} (h : a.toList = b.toList) : a = b := by
  rw [toList_data, toList_data] at h
  exact ByteArray.ext (Array.toList_inj.1 h)
theorem bytesOf_cut (s : ByteArray) (j i : Nat) : bytesOf (s.extract j i) = ((bytesOf s).drop j).take (i - j) := by
  have e : (s.extract j i).data.toList = (s.data.toList.drop j).take (i - j) := by
    obtain ⟨⟨l⟩⟩ := s
    rw [ByteArray.extract_mk]
  rw [bytesOf, e, List.map_take, List.map_drop, ← bytesOf]
theorem bytes_range (s : ByteArray) (x : Int) (h : x ∈ bytesOf s) : 0 ≤ x ∧ x ≤ 255 := by
  obtain ⟨b, _, rfl⟩ := List.mem_map.1 h
  exact ⟨by omega, by have := b.toNat_lt; omega⟩
theorem btD_at (s : ByteArray) (i : Nat) (h : i < s.size) : bt s (i : Int) = (bytesOf s).getD i 0 := by
  have hl : i < s.data.toList.length := by rw [data_length]; exact h
  unfold bt
  rw [dif_pos (by simpa using h), bytesOf, List.getD_eq_getElem?_getD, List.getElem?_map, List.getElem?_eq_getElem hl]
  simp
  rfl
theorem drop_bt (s : ByteArray) (i : Nat) (h : i < s.size) : (bytesOf s).drop i = bt s (i : Int) :: (bytesOf s).drop (i + 1) := by
  have hl : i < (bytesOf s).length := by rw [bytesOf_length]; exact h
  rw [btD_at s i h, List.drop_eq_getElem_cons hl, List.getD_eq_getElem?_getD, List.getElem?_eq_getElem hl]
  rfl
theorem bt_range (s : ByteArray) (i : Nat) (h : i < s.size) : 0 ≤ bt s (i : Int) ∧ bt s (i : Int) ≤ 255 := by
  have hl : i < (bytesOf s).length := by rw [bytesOf_length]; exact h
  rw [btD_at s i h, List.getD_eq_getElem?_getD, List.getElem?_eq_getElem hl]
  exact bytes_range s _ (List.getElem_mem hl)
/-- A list cut at d, cur being what has come of its first part. -/
def cutsA (d : Int) : List Int → List Int → List (List Int)
  | cur, [] => [cur]
  | cur, c :: l => if c = d then cur :: cutsA d [] l else cutsA d (cur ++ [c]) l
def cuts (d : Int) (l : List Int) : List (List Int) := cutsA d [] l
theorem cutsA_plain (d : Int) : ∀ (cur l : List Int), d ∉ l → cutsA d cur l = [cur ++ l]
  | cur, [], _ => by simp [cutsA]
  | cur, c :: l, h => by
    have h1 : ¬ c = d := fun e => h (by simp [e])
    rw [cutsA, if_neg h1, cutsA_plain d (cur ++ [c]) l (fun m => h (List.mem_cons_of_mem _ m)), List.append_assoc]
    rfl
theorem cutsA_hit (d : Int) : ∀ (cur p r : List Int), d ∉ p → cutsA d cur (p ++ d :: r) = (cur ++ p) :: cutsA d [] r
  | cur, [], r, _ => by simp [cutsA]
  | cur, c :: p, r, h => by
    have h1 : ¬ c = d := fun e => h (by simp [e])
    rw [List.cons_append, cutsA, if_neg h1, cutsA_hit d (cur ++ [c]) p r (fun m => h (List.mem_cons_of_mem _ m)), List.append_assoc]
    rfl
/-- A text of one byte. -/
def one (d : UInt8) : ByteArray := ⟨#[d]⟩
theorem index_miss (s : ByteArray) (d : UInt8) (h : Lib.indexB s (one d) = -1) : (d.toNat : Int) ∉ bytesOf s := by
  intro hm
  obtain ⟨b, hb, he⟩ := List.mem_map.1 hm
  obtain ⟨j, hj, rfl⟩ := List.mem_iff_getElem.1 hb
  have h1 : Lib.indexByte s.data.toList d = -1 := by rw [← Lib.index_one]; exact h
  refine Lib.indexByte_none h1 j ?_
  rw [List.getElem?_eq_getElem hj]
  congr 1
  exact UInt8.toNat_inj.1 (by omega)
theorem index_hit (s : ByteArray) (d : UInt8) (i : Nat) (h : Lib.indexB s (one d) = i) : (d.toNat : Int) ∉ (bytesOf s).take i ∧ (bytesOf s).drop i = (d.toNat : Int) :: (bytesOf s).drop (i + 1) ∧ i < s.size := by
  have h1 : Lib.indexByte s.data.toList d = i := by rw [← Lib.index_one]; exact h
  obtain ⟨h2, h3⟩ := Lib.indexByte_some h1
  have hl := (List.getElem?_eq_some_iff.1 h2).1
  have hl2 : i < (bytesOf s).length := by have := bytesOf_length s; have := data_length s; omega
  refine ⟨?_, ?_, by rw [← bytesOf_length]; exact hl2⟩
  · intro hm
    obtain ⟨j, hj, he⟩ := List.mem_iff_getElem.1 hm
    rw [List.length_take] at hj
    rw [List.getElem_take] at he
    have hj2 : j < s.data.toList.length := by have := bytesOf_length s; have := data_length s; omega
    refine h3 j (by omega) ?_
    rw [List.getElem?_eq_getElem hj2]
    congr 1
    simp only [bytesOf, List.getElem_map] at he
    exact UInt8.toNat_inj.1 (by omega)
  · rw [List.drop_eq_getElem_cons hl2]
    congr 1
    have := (List.getElem?_eq_some_iff.1 h2).2
    simp only [bytesOf, List.getElem_map, this]
theorem split_cuts (d : UInt8) : ∀ (k : Nat) (s : ByteArray), Lib.countB s (one d) = k → (Lib.splitB (one d) 0 k s).map bytesOf = cuts (d.toNat : Int) (bytesOf s) := by
  intro k
  have hz : (one d).size = 1 := rfl
  induction k with
  | zero =>
    intro s hk
    rcases Lib.indexB_cases s (one d) with hix | ⟨i, hix, _⟩
    · rw [Lib.splitB_zero, cuts, cutsA_plain _ _ _ (index_miss s d hix)]
      rfl
    · have := Lib.countB_hit s (one d) i (by rw [hz]; exact Nat.le_refl _) hix
      omega
  | succ k ih =>
    intro s hk
    rcases Lib.indexB_cases s (one d) with hix | ⟨i, hix, hroom⟩
    · have := Lib.countB_miss s (one d) hix
      omega
    · have hc := Lib.countB_hit s (one d) i (by rw [hz]; exact Nat.le_refl _) hix
      obtain ⟨h1, h2, _⟩ := index_hit s d i hix
      rw [Lib.splitB_hit (one d) 0 k s i hix, List.map_cons, ih _ (by omega), hz, Nat.add_zero]
      have e1 : bytesOf s = (bytesOf s).take i ++ (d.toNat : Int) :: (bytesOf s).drop (i + 1) := by rw [← h2, List.take_append_drop]
      have e2 : bytesOf (s.extract (i + 1) s.size) = (bytesOf s).drop (i + 1) := by
        rw [bytesOf_cut]
        exact List.take_of_length_le (by rw [List.length_drop, bytesOf_length]; omega)
      have e3 : bytesOf (s.extract 0 i) = (bytesOf s).take i := by rw [bytesOf_cut, List.drop_zero, Nat.sub_zero]
      have e4 := cutsA_hit (d.toNat : Int) [] ((bytesOf s).take i) ((bytesOf s).drop (i + 1)) h1
      rw [← e1] at e4
      rw [e2, e3]
      exact e4.symm
end Go.Proofs.YtjggdkcfpdhoaaaGreatDoor.Dots
