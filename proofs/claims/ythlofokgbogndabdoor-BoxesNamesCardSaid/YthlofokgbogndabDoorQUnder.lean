/- BoxesUnder, the plain law: a name that is in form is under all that stands above it, and goes along and back. -/
import Derived.Test.YthlofokgbogndabDoorQAlive
namespace Go.Proofs.YthlofokgbogndabDoor
/-- Has a text, cut at its slashes, an empty part? behind the beginning or a slash: bad; behind another byte: bad1. -/
def bad : Bool → List Int → Bool
  | b, [] => b
  | b, c :: l => if c = 47 then b || bad true l else bad false l
theorem bad_last : ∀ (b : Bool) (l : List Int) (i : Nat), bad b l = false → l[i]? = some 47 → i + 1 < l.length
  | _, [], i, _, h => by simp at h
  | b, c :: l, 0, hb, h => by
    obtain rfl : c = 47 := by simpa using h
    cases l with
    | nil => simp [bad] at hb
    | cons d l => simp
  | b, c :: l, i + 1, hb, h => by
    have hi : l[i]? = some 47 := by simpa using h
    have : ∃ b', bad b' l = false := by
      rw [bad] at hb
      split at hb
      · rw [Bool.or_eq_false_iff] at hb
        exact ⟨true, hb.2⟩
      · exact ⟨false, hb⟩
    obtain ⟨b', hb'⟩ := this
    have := bad_last b' l i hb' hi
    simpa using this
theorem bad_plain : ∀ (b : Bool) (l : List Int), 47 ∉ l → bad b l = (b && l.isEmpty)
  | b, [], _ => by simp [bad]
  | b, c :: l, h => by
    have h1 : ¬ c = 47 := fun e => h (by simp [e])
    rw [bad, if_neg h1, bad_plain false l (fun m => h (List.mem_cons_of_mem _ m))]
    simp
theorem bad_cut : ∀ (b : Bool) (p r : List Int), 47 ∉ p → bad b (p ++ 47 :: r) = ((b && p.isEmpty) || bad true r)
  | b, [], r, _ => by simp [bad]
  | b, c :: p, r, h => by
    have h1 : ¬ c = 47 := fun e => h (by simp [e])
    rw [List.cons_append, bad, if_neg h1, bad_cut false p r (fun m => h (List.mem_cons_of_mem _ m))]
    simp
end Go.Proofs.YthlofokgbogndabDoor
namespace Go.Proofs.YthlofokgbogndabDoor.GBoxes
open Go.RowKit Go.Proofs.YthlofokgbogndabDoorW.PrintWords Go.Proofs.YthlofokgbogndabDoorW.PrintLast Go.Proofs.YthlofokgbogndabDoorW.PrintMore Go.Proofs.YthlofokgbogndabDoorW.SRows
theorem bytesOf_app (a b : ByteArray) : bytesOf (a ++ b) = bytesOf a ++ bytesOf b := by
  have : (a ++ b).data = a.data ++ b.data := ByteArray.data_append
  simp [bytesOf, this]
theorem bytesOf_inj {a b : ByteArray} (h : bytesOf a = bytesOf b) : a.toList = b.toList := by
  rw [toList_eq_data, toList_eq_data]
  refine (List.map_inj_right (f := fun x : UInt8 => (x.toNat : Int)) (fun x y e => ?_)).1 h
  have e2 : (x.toNat : Int) = (y.toNat : Int) := e
  exact UInt8.toNat_inj.1 (by omega)
theorem inj_bytesOf {a b : ByteArray} (h : a.toList = b.toList) : bytesOf a = bytesOf b := by
  rw [toList_eq_data, toList_eq_data] at h
  rw [bytesOf, bytesOf, h]
theorem bt_get (s : ByteArray) (i : Nat) (h : i < s.size) : bt s (i : Int) = (bytesOf s).getD i 0 := by
  rw [← at_bytes s i h]
  unfold bt
  rw [dif_pos (by simpa using h)]
  simp
theorem drop_at (s : ByteArray) (i : Nat) (h : i < s.size) : (bytesOf s).drop i = bt s (i : Int) :: (bytesOf s).drop (i + 1) := by
  have hl : i < (bytesOf s).length := by rw [bytesOf_length]; exact h
  rw [bt_get s i h, List.drop_eq_getElem_cons hl, List.getD_eq_getElem?_getD, List.getElem?_eq_getElem hl]
  rfl
/-! ### What stands above -/
def ab (a : ByteArray) : Nat → List ByteArray
  | 0 => []
  | i + 1 => if bt a i = 47 then ab a i ++ [a.extract 0 i] else ab a i
theorem ab_le (a : ByteArray) : ∀ i, (ab a i).length ≤ i
  | 0 => Nat.le_refl _
  | i + 1 => by
    have := ab_le a i
    rw [ab]
    split
    · simp; omega
    · omega
theorem ab_mem (a x : ByteArray) : ∀ n, x ∈ ab a n → ∃ i, i < n ∧ bt a i = 47 ∧ x = a.extract 0 i
  | 0, h => by simp [ab] at h
  | n + 1, h => by
    rw [ab] at h
    split at h
    · rcases List.mem_append.1 h with h | h
      · obtain ⟨i, h1, h2, h3⟩ := ab_mem a x n h
        exact ⟨i, by omega, h2, h3⟩
      · exact ⟨n, by omega, by assumption, by simpa using h⟩
    · obtain ⟨i, h1, h2, h3⟩ := ab_mem a x n h
      exact ⟨i, by omega, h2, h3⟩
theorem up1 (i n : Nat) (h : i < n) (hn : n ≤ 1000) : wrap64 ((i : Int) + 1) = ((i + 1 : Nat) : Int) := by unfold wrap64; omega
theorem above_l0 (a : ByteArray) (ha : a.size ≤ 1000) : ∀ d k i, i + d = a.size → d < k → boxes_Above.l0 k a (ab a i) (a.size : Int) (i : Int) = some (ab a a.size) := by
  intro d
  induction d with
  | zero =>
    intro k i hi hk
    obtain ⟨k, rfl⟩ : ∃ m, k = m + 1 := ⟨k - 1, by omega⟩
    simp only [boxes_Above.l0]
    rw [if_neg (by omega), show i = a.size by omega]
  | succ d ih =>
    intro k i hi hk
    obtain ⟨k, rfl⟩ : ∃ m, k = m + 1 := ⟨k - 1, by omega⟩
    have h47 : bt (⟨#[47]⟩ : ByteArray) 0 = 47 := rfl
    have hl := ab_le a i
    simp only [boxes_Above.l0]
    rw [if_pos (by omega), if_pos (by omega), if_pos (by omega), if_pos (by omega), h47, up1 i a.size (by omega) ha, Int.toNat_natCast]
    by_cases hb : bt a i = 47
    · have e : ab a (i + 1) = ab a i ++ [a.extract 0 i] := by rw [ab, if_pos hb]
      rw [if_pos hb, if_pos (by omega), if_pos (by omega), ← e]
      exact ih k (i + 1) (by omega) (by omega)
    · have e : ab a (i + 1) = ab a i := by rw [ab, if_neg hb]
      rw [if_neg hb, ← e]
      exact ih k (i + 1) (by omega) (by omega)
theorem un_self (a b : ByteArray) (h : a.toList = b.toList) : un a b = false := by
  have h1 := congrArg List.length h
  rw [len_toList, len_toList] at h1
  exact decide_eq_false fun hh => by omega
def zz : ByteArray := ⟨#[122, 122]⟩
theorem there_size (a : ByteArray) (i : Nat) : (zz ++ a.extract i a.size).size = 2 + (a.size - i) := by
  rw [ByteArray.size_append, ByteArray.size_extract, Nat.min_self]
  rfl
section
variable (a : ByteArray) (i : Nat) (hi : i + 1 < a.size) (hs : bt a (i : Int) = 47)
include hi hs
theorem under_up : un a (a.extract 0 i) = true := by
  have hz : (a.extract 0 i).size = i := by rw [ByteArray.size_extract]; omega
  refine decide_eq_true ⟨by omega, bytesOf_inj ?_⟩
  rw [hz, bytesOf_extract, bytesOf_app, bytesOf_extract, List.drop_zero, Nat.sub_zero, Nat.sub_zero]
  have hl : i < (bytesOf a).length := by rw [bytesOf_length]; omega
  have hd := drop_at a i (by omega)
  rw [hs] at hd
  have : (bytesOf a).take (i + 1) = (bytesOf a).take i ++ ((bytesOf a).drop i).take 1 := by rw [List.take_add]
  rw [this, hd]
  rfl
theorem mv_there : mv a (a.extract 0 i) zz = (zz ++ a.extract i a.size, true) := by
  have hz : (a.extract 0 i).size = i := by rw [ByteArray.size_extract]; omega
  have hne : ¬ a.toList = (a.extract 0 i).toList := fun e => by
    have := congrArg List.length e
    rw [len_toList, len_toList] at this
    omega
  rw [mv, if_neg hne, if_pos (under_up a i hi hs), hz]
theorem there_bytes : bytesOf (zz ++ a.extract i a.size) = 122 :: 122 :: 47 :: (bytesOf a).drop (i + 1) := by
  have hd := drop_at a i (by omega)
  rw [hs] at hd
  rw [bytesOf_app, bytesOf_extract, hd]
  have hl : ((47 : Int) :: (bytesOf a).drop (i + 1)).length ≤ a.size - i := by
    rw [List.length_cons, List.length_drop, bytesOf_length]
    omega
  rw [List.take_of_length_le hl]
  rfl
theorem mv_back : (mv (zz ++ a.extract i a.size) zz (a.extract 0 i)).2 = true ∧ (mv (zz ++ a.extract i a.size) zz (a.extract 0 i)).1.toList = a.toList := by
  have hb := there_bytes a i hi hs
  have hz := there_size a i
  have z2 : zz.size = 2 := rfl
  have hne : ¬ (zz ++ a.extract i a.size).toList = zz.toList := fun e => by
    have := congrArg List.length e
    rw [len_toList, len_toList] at this
    omega
  have hun : un (zz ++ a.extract i a.size) zz = true := by
    refine decide_eq_true ⟨by omega, bytesOf_inj ?_⟩
    rw [bytesOf_extract, hb, z2]
    rfl
  rw [mv, if_neg hne, if_pos hun]
  refine ⟨rfl, bytesOf_inj ?_⟩
  rw [bytesOf_app, bytesOf_extract, bytesOf_extract, hb, z2, List.drop_zero, Nat.sub_zero]
  have hd := drop_at a i (by omega)
  rw [hs] at hd
  show (bytesOf a).take i ++ ((47 :: (bytesOf a).drop (i + 1)).take _) = bytesOf a
  rw [← hd, List.take_of_length_le (l := (bytesOf a).drop i) (by rw [List.length_drop, bytesOf_length, hz]; omega), List.take_append_drop]
end
theorem under_l0 (a : ByteArray) (ha : a.size ≤ 200) (l : List ByteArray) (hl : l.length ≤ 200) (hm : ∀ x ∈ l, ∃ i, i + 1 < a.size ∧ bt a i = 47 ∧ x = a.extract 0 i) : ∀ d k j, j + d = l.length → d < k → postbaglaw13_BoxesUnder.l0 k a l (l.length : Int) (j : Int) = some true := by
  intro d
  induction d with
  | zero =>
    intro k j hj hk
    obtain ⟨k, rfl⟩ : ∃ m, k = m + 1 := ⟨k - 1, by omega⟩
    simp only [postbaglaw13_BoxesUnder.l0]
    rw [if_neg (by omega), under_f a a (by omega), Option.bind_some, un_self a a rfl]
    rfl
  | succ d ih =>
    intro k j hj hk
    obtain ⟨k, rfl⟩ : ∃ m, k = m + 1 := ⟨k - 1, by omega⟩
    have hlt : j < l.length := by omega
    obtain ⟨i, hi, hs, hx⟩ := hm (l.getD j ByteArray.empty) (by rw [List.getD_eq_getElem?_getD, List.getElem?_eq_getElem hlt]; exact List.getElem_mem hlt)
    have hr : rdOf ByteArray.empty l (j : Int) = a.extract 0 i := hx
    have hz : (a.extract 0 i).size = i := by rw [ByteArray.size_extract]; omega
    have hbk := mv_back a i hi hs
    have hts := there_size a i
    have z2 : zz.size = 2 := rfl
    have m1 : boxes_Moved.f a (a.extract 0 i) (⟨#[122, 122]⟩ : ByteArray) = some (zz ++ a.extract i a.size, true) := by
      rw [moved_f a _ _ (by omega) (by omega) (by decide)]
      exact congrArg some (mv_there a i hi hs)
    have m2 : boxes_Moved.f (zz ++ a.extract i a.size) (⟨#[122, 122]⟩ : ByteArray) (a.extract 0 i) = some (mv (zz ++ a.extract i a.size) zz (a.extract 0 i)) := moved_f _ zz _ (by omega) (by omega) (by omega)
    have m3 : boxes_Under.f a (a.extract 0 i) = some true := by rw [under_f a _ (by omega), under_up a i hi hs]
    have ew : wrap64 (wrap64 ((a.size : Int) - (i : Int)) + 2) = ((2 + (a.size - i) : Nat) : Int) := by
      have e1 : wrap64 ((a.size : Int) - (i : Int)) = ((a.size - i : Nat) : Int) := by unfold wrap64; omega
      rw [e1]
      unfold wrap64
      omega
    simp only [postbaglaw13_BoxesUnder.l0]
    rw [if_pos (by omega), if_pos (by omega), if_pos (by omega), hr, m1, Option.bind_some, m2, Option.bind_some, m3, Option.bind_some, if_pos rfl, if_pos rfl, if_pos hbk.1, if_pos hbk.2, hz, ew, if_pos (by rw [hts]), up1 j l.length (by omega) (by omega)]
    exact ih k (j + 1) (by omega) (by omega)
/-! ### Empty parts -/
theorem size_zero_bytes (s : ByteArray) : s = ByteArray.empty ↔ (bytesOf s).isEmpty = true := by
  constructor
  · rintro rfl
    rfl
  · intro h
    have h1 : (bytesOf s).length = 0 := by rw [List.isEmpty_iff.1 h]; rfl
    rw [bytesOf_length] at h1
    exact ByteArray.size_eq_zero_iff.1 h1
theorem mem47 (s : ByteArray) (h : Lib.indexB s slashS13 = -1) : 47 ∉ bytesOf s := by
  intro hm
  obtain ⟨b, hb, he⟩ := List.mem_map.1 hm
  obtain ⟨j, hj, rfl⟩ := List.mem_iff_getElem.1 hb
  have h1 : Lib.indexByte s.data.toList 47 = -1 := by rw [← Lib.index_one]; exact h
  refine Lib.indexByte_none h1 j ?_
  rw [List.getElem?_eq_getElem hj]
  congr 1
  exact UInt8.toNat_inj.1 (by have : (47 : UInt8).toNat = 47 := rfl; omega)
theorem hit47 (s : ByteArray) (i : Nat) (h : Lib.indexB s slashS13 = i) : 47 ∉ (bytesOf s).take i ∧ (bytesOf s).drop i = 47 :: (bytesOf s).drop (i + 1) := by
  have h1 : Lib.indexByte s.data.toList 47 = i := by rw [← Lib.index_one]; exact h
  obtain ⟨h2, h3⟩ := Lib.indexByte_some h1
  constructor
  · intro hm
    obtain ⟨j, hj, he⟩ := List.mem_iff_getElem.1 hm
    rw [List.length_take] at hj
    rw [List.getElem_take] at he
    have hj2 : j < s.data.toList.length := by have := bytesOf_length s; have := data_length s; omega
    refine h3 j (by omega) ?_
    rw [List.getElem?_eq_getElem hj2]
    congr 1
    simp only [bytesOf, List.getElem_map] at he
    exact UInt8.toNat_inj.1 (by have : (47 : UInt8).toNat = 47 := rfl; omega)
  · have hl := (List.getElem?_eq_some_iff.1 h2).1
    have hl2 : i < (bytesOf s).length := by have := bytesOf_length s; have := data_length s; omega
    rw [List.drop_eq_getElem_cons hl2]
    congr 1
    have := (List.getElem?_eq_some_iff.1 h2).2
    simp only [bytesOf, List.getElem_map, this]
    rfl
theorem parts_bad : ∀ (k : Nat) (s : ByteArray), Lib.countB s slashS13 = k → (ByteArray.empty ∈ Lib.splitB slashS13 0 k s ↔ bad true (bytesOf s) = true) := by
  intro k
  induction k with
  | zero =>
    intro s hk
    rcases Lib.indexB_cases s slashS13 with hix | ⟨i, hix, _⟩
    · rw [Lib.splitB_zero, bad_plain true _ (mem47 s hix), Bool.true_and, ← size_zero_bytes, List.mem_singleton]
      exact eq_comm
    · have := Lib.countB_hit s slashS13 i (by decide) hix
      omega
  | succ k ih =>
    intro s hk
    rcases Lib.indexB_cases s slashS13 with hix | ⟨i, hix, hroom⟩
    · have := Lib.countB_miss s slashS13 hix
      omega
    · have hc := Lib.countB_hit s slashS13 i (by decide) hix
      have hz : slashS13.size = 1 := rfl
      obtain ⟨h1, h2⟩ := hit47 s i hix
      rw [Lib.splitB_hit slashS13 0 k s i hix, List.mem_cons, ih _ (by omega), hz, Nat.add_zero]
      have e1 : bytesOf s = (bytesOf s).take i ++ 47 :: (bytesOf s).drop (i + 1) := by rw [← h2, List.take_append_drop]
      have e2 : bytesOf (s.extract (i + 1) s.size) = (bytesOf s).drop (i + 1) := by
        rw [bytesOf_extract]
        exact List.take_of_length_le (by rw [List.length_drop, bytesOf_length]; omega)
      have e3 : bytesOf (s.extract 0 i) = (bytesOf s).take i := by rw [bytesOf_extract, List.drop_zero, Nat.sub_zero]
      have e4 := bad_cut true ((bytesOf s).take i) ((bytesOf s).drop (i + 1)) h1
      rw [← e1] at e4
      rw [e2, e4, Bool.or_eq_true, Bool.true_and, ← e3, ← size_zero_bytes]
      exact or_congr eq_comm Iff.rfl
theorem contains_bad (s : ByteArray) : Lib.containsS (parts13 s) ByteArray.empty = bad true (bytesOf s) := by
  rw [Bool.eq_iff_iff, Lib.containsS_iff]
  exact parts_bad _ s rfl
/-! ### The name that a text is -/
theorem same_f13 (a b : ByteArray) (ha : a.size ≤ 1000000) (hb : b.size ≤ 1000000) : header_Same.f a b = some ((strOfNums (smallL a)).toList == (strOfNums (smallL b)).toList) := by
  rw [header_Same.f, header_small.f, if_pos ha, header_small.f, if_pos hb]
  rfl
def okName (a : ByteArray) : Bool := decide (a.size ≤ 60) && ((bytesOf a).all (okB13 barS13) && !bad true (bytesOf a))
def isInbox (a : ByteArray) : Bool := (strOfNums (smallL a)).toList == (strOfNums (smallL inboxS13)).toList
theorem name_f13 (a : ByteArray) : boxes_Name.f a = some (if okName a = true then (if isInbox a = true then inboxS13 else a, none) else (ByteArray.empty, some 4)) := by
  rw [boxes_Name.f, contains_bad]
  unfold okName
  by_cases h1 : 60 < a.size
  · rw [if_pos h1, decide_eq_false (by omega), Bool.false_and, if_neg (by decide)]
  · rw [if_neg h1, decide_eq_true (by omega), Bool.true_and]
    by_cases h2 : (bytesOf a).all (okB13 barS13) = true
    · rw [if_pos h2, h2, Bool.true_and]
      by_cases h3 : bad true (bytesOf a) = true
      · rw [if_pos h3, h3, if_neg (by decide)]
      · have h3' : bad true (bytesOf a) = false := by simpa using h3
        rw [if_neg h3, h3', same_f13 a inboxS13 (by omega) (by decide), Option.bind_some, Bool.not_false, if_pos rfl]
        unfold isInbox
        split <;> rfl
    · have h2' : (bytesOf a).all (okB13 barS13) = false := by simpa using h2
      rw [if_neg h2, h2', Bool.false_and, if_neg (by decide)]
theorem BoxesUnder : postbaglaw13_BoxesUnder.Pure := by
  intro a _
  by_cases h1 : (a.size : Int) > 200
  · refine ⟨0, ?_⟩
    rw [postbaglaw13_BoxesUnder.f, alive_true, Option.bind_some, if_pos rfl, if_pos h1]
  · refine ⟨a.size + 300, ?_⟩
    rw [postbaglaw13_BoxesUnder.f, alive_true, Option.bind_some, if_pos rfl, if_neg h1, name_f13, Option.bind_some]
    by_cases h2 : okName a = true
    · rw [if_pos h2]
      have h3 : bad true (bytesOf a) = false := by
        unfold okName at h2
        simp only [Bool.and_eq_true, Bool.not_eq_true'] at h2
        exact h2.2.2
      have hab : boxes_Above.f (a.size + 300) a = some (ab a a.size) := above_l0 a (by omega) a.size (a.size + 300) 0 (by omega) (by omega)
      have hl := ab_le a a.size
      rw [show ((if isInbox a = true then inboxS13 else a, none) : ByteArray × Option Int).2.isNone = true from rfl, if_pos rfl, hab, Option.bind_some]
      refine under_l0 a (by omega) _ (by omega) (fun x hx => ?_) (ab a a.size).length _ 0 (by omega) (by omega)
      obtain ⟨i, hi, h47, he⟩ := ab_mem a x a.size hx
      refine ⟨i, ?_, h47, he⟩
      have hl2 : i < (bytesOf a).length := by rw [bytesOf_length]; exact hi
      have := bad_last true (bytesOf a) i h3 (by
        rw [List.getElem?_eq_getElem hl2]
        rw [bt_get a i hi, List.getD_eq_getElem?_getD, List.getElem?_eq_getElem hl2] at h47
        simpa using h47)
      rw [bytesOf_length] at this
      exact this
    · rw [if_neg h2]
      rfl
end Go.Proofs.YthlofokgbogndabDoor.GBoxes
