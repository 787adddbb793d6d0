/- BoxesNames, the plain law: the same texts are names, and patterns. -/
import Derived.Test.YthlofokgbogndabDoorGBoxesx5
import Derived.Test.YthlofokgbogndabDoorQUnder
namespace Go.Proofs.YthlofokgbogndabDoor.GBoxes
open Go.RowKit Go.Proofs.YthlofokgbogndabDoorW.PrintWords Go.Proofs.YthlofokgbogndabDoorW.PrintLast Go.Proofs.YthlofokgbogndabDoorW.PrintMore Go.Proofs.YthlofokgbogndabDoorW.SRows
def barP : ByteArray := ⟨#[40, 41, 123, 34, 92]⟩
def plainI (c : Int) (p : Bool) : Bool := if c < 33 ∨ c > 126 then false else if c = 40 ∨ c = 41 ∨ c = 123 ∨ c = 34 ∨ c = 92 then false else if c = 37 ∨ c = 42 then p else true
theorem plain_f (k : Nat) (c : Int) (p : Bool) : postbagref13_plain.f (k + 2) c p = some (plainI c p) := by
  have j1 : ∀ (k : Nat) (b : Bool), postbagref13_plain.j1 (k + 1) p c b = some (if b = true then false else if c = 37 ∨ c = 42 then p else true) := by
    intro k b
    simp only [postbagref13_plain.j1]
    by_cases h : b = true
    · rw [if_pos h, if_pos h]
    · rw [if_neg h, if_neg h]
      by_cases h1 : c = 37
      · rw [if_pos h1, if_pos (.inl h1)]
      · rw [if_neg h1]
        by_cases h2 : c = 42
        · rw [if_pos h2, if_pos (.inr h2)]
        · rw [if_neg h2, if_neg (by omega)]
  have j0 : ∀ (k : Nat) (b : Bool), postbagref13_plain.j0 (k + 2) c p b = some (if b = true then false else if c = 40 ∨ c = 41 ∨ c = 123 ∨ c = 34 ∨ c = 92 then false else if c = 37 ∨ c = 42 then p else true) := by
    intro k b
    rw [show k + 2 = (k + 1) + 1 from rfl]
    simp only [postbagref13_plain.j0, j1]
    by_cases h : b = true
    · rw [if_pos h, if_pos h]
    · rw [if_neg h, if_neg h]
      by_cases h1 : c = 40
      · rw [if_pos h1, if_pos (by simpa using h1), if_pos (by omega)]
      · rw [if_neg h1]
        by_cases h2 : c = 41
        · rw [if_pos h2, if_pos (by simpa using h2), if_pos (by omega)]
        · rw [if_neg h2]
          by_cases h3 : c = 123
          · rw [if_pos h3, if_pos (by simpa using h3), if_pos (by omega)]
          · rw [if_neg h3]
            by_cases h4 : c = 34
            · rw [if_pos h4, if_pos (by simpa using h4), if_pos (by omega)]
            · rw [if_neg h4]
              by_cases h5 : c = 92
              · rw [if_pos (by simpa using h5), if_pos (by omega)]
              · rw [if_neg (show ¬ ((c == 92) = true) by simpa using h5), if_neg (show ¬ (c = 40 ∨ c = 41 ∨ c = 123 ∨ c = 34 ∨ c = 92) by omega)]
  rw [postbagref13_plain.f]
  unfold plainI
  by_cases h1 : c < 33
  · rw [if_pos h1, j0, if_pos rfl, if_pos (.inl h1)]
  · rw [if_neg h1, j0]
    by_cases h2 : c > 126
    · rw [if_pos (decide_eq_true h2), if_pos (.inr h2)]
    · rw [if_neg (show ¬ (decide (c > 126) = true) by simpa using h2), if_neg (show ¬ (c < 33 ∨ c > 126) by omega)]
theorem ok_plain : ∀ n : Fin 256, okB13 barS13 (n.val : Int) = plainI (n.val : Int) false := by decide +kernel
theorem ok_plainP : ∀ n : Fin 256, okB13 barP (n.val : Int) = plainI (n.val : Int) true := by decide +kernel
theorem bt_range (s : ByteArray) (i : Nat) (h : i < s.size) : 0 ≤ bt s (i : Int) ∧ bt s (i : Int) ≤ 255 := by
  have hl : i < (bytesOf s).length := by rw [bytesOf_length]; exact h
  rw [bt_get s i h, List.getD_eq_getElem?_getD, List.getElem?_eq_getElem hl]
  exact bytesOf_range s _ (List.getElem_mem hl)
theorem ok_at (c : Int) (h : 0 ≤ c ∧ c ≤ 255) : okB13 barS13 c = plainI c false ∧ okB13 barP c = plainI c true := by
  have h1 := ok_plain ⟨c.toNat, by omega⟩
  have h2 := ok_plainP ⟨c.toNat, by omega⟩
  have e : ((c.toNat : Nat) : Int) = c := by omega
  simp only [e] at h1 h2
  exact ⟨h1, h2⟩
def lastSlash (a : ByteArray) (i : Nat) : Bool := decide (0 < i ∧ bt a ((i : Int) - 1) = 47)
def fin13 (a : ByteArray) : ByteArray × Bool := (if isInbox a = true then inboxS13 else a, true)
theorem inbox_list : (strOfNums (smallL inboxS13)).toList = [105, 110, 98, 111, 120] := by
  rw [toList_eq_data]
  rfl
theorem ref_l0 (a : ByteArray) (ha : a.size ≤ 60) (h0 : bt a 0 ≠ 47) (hl : bt a ((a.size : Int) - 1) ≠ 47) : ∀ d k i, i + d = a.size → d + 2 < k → postbagref13_Name.l0 k a (i : Int) = some (if ((bytesOf a).drop i).all (okB13 barS13) = true ∧ bad (lastSlash a i) ((bytesOf a).drop i) = false then fin13 a else (⟨#[]⟩, false)) := by
  intro d
  induction d with
  | zero =>
    intro k i hi hk
    obtain ⟨k, rfl⟩ : ∃ m, k = m + 1 := ⟨k - 1, by omega⟩
    have e : i = a.size := by omega
    subst e
    have hd : (bytesOf a).drop a.size = [] := List.drop_of_length_le (by rw [bytesOf_length]; exact Nat.le_refl _)
    have hb : lastSlash a a.size = false := decide_eq_false fun h => hl h.2
    simp only [postbagref13_Name.l0]
    rw [if_neg (by omega), hd, hb, if_pos ⟨rfl, rfl⟩, postbagref08_Small.f, if_pos (by omega), Option.bind_some]
    unfold fin13 isInbox
    rw [inbox_list]
    by_cases h : (strOfNums (smallL a)).toList = [105, 110, 98, 111, 120]
    · rw [if_pos h, if_pos (by simpa using h)]
      rfl
    · rw [if_neg h, if_neg (by simpa using h)]
  | succ d ih =>
    intro k i hi hk
    obtain ⟨k, rfl⟩ : ∃ m, k = m + 3 := ⟨k - 3, by omega⟩
    have hlt : i < a.size := by omega
    have hr := bt_range a i hlt
    have hi2 := ih (k + 2) (i + 1) (by omega) (by omega)
    have ew : wrap64 ((i : Int) + 1) = ((i + 1 : Nat) : Int) := by unfold wrap64; omega
    have em : wrap64 ((i : Int) - 1) = (i : Int) - 1 := by unfold wrap64; omega
    rw [show k + 3 = (k + 2) + 1 from rfl]
    simp only [postbagref13_Name.l0]
    rw [if_pos (by omega), if_pos (by omega), plain_f, Option.bind_some, drop_at a i hlt, List.all_cons, (ok_at _ hr).1, bad]
    have els : lastSlash a (i + 1) = decide (bt a (i : Int) = 47) := by
      unfold lastSlash
      have : ((i + 1 : Nat) : Int) - 1 = (i : Int) := by omega
      rw [this]
      simp
    rw [els] at hi2
    by_cases hp : plainI (bt a (i : Int)) false = true
    · rw [if_pos hp, hp, Bool.true_and]
      by_cases h47 : bt a (i : Int) = 47
      · have hi0 : 0 < i := by
          rcases Nat.eq_zero_or_pos i with e | e
          · subst e
            exact absurd h47 h0
          · exact e
        rw [if_pos h47, if_pos h47, em, if_pos (by omega), if_pos (by omega)]
        rw [decide_eq_true h47] at hi2
        by_cases hb : bt a ((i : Int) - 1) = 47
        · have : lastSlash a i = true := decide_eq_true ⟨hi0, hb⟩
          rw [if_pos hb, this, Bool.true_or, if_neg (by simp)]
        · have : lastSlash a i = false := decide_eq_false fun h => hb h.2
          rw [if_neg hb, this, Bool.false_or, ew]
          exact hi2
      · rw [if_neg h47, if_neg h47, ew]
        rw [decide_eq_false h47] at hi2
        exact hi2
    · have hp' : plainI (bt a (i : Int)) false = false := by simpa using hp
      rw [if_neg hp, hp', Bool.false_and, if_neg (by simp)]
theorem ref_name (a : ByteArray) (k : Nat) (hk : a.size + 10 < k) : postbagref13_Name.f k a = some (if okName a = true then fin13 a else (⟨#[]⟩, false)) := by
  obtain ⟨k, rfl⟩ : ∃ m, k = m + 1 := ⟨k - 1, by omega⟩
  have jt : postbagref13_Name.j0 (k + 1) a true = some (⟨#[]⟩, false) := by simp only [postbagref13_Name.j0, if_true]
  rw [postbagref13_Name.f]
  by_cases h1 : (a.size : Int) < 1
  · have hz : bytesOf a = [] := List.eq_nil_of_length_eq_zero (by rw [bytesOf_length]; omega)
    rw [if_pos h1, jt, okName, hz]
    simp [bad]
  · rw [if_neg h1]
    by_cases h2 : (a.size : Int) > 60
    · rw [if_pos h2, jt, okName, decide_eq_false (by omega), Bool.false_and]
      rfl
    · rw [if_neg h2, if_pos (by omega)]
      have hd := drop_at a 0 (by omega)
      rw [List.drop_zero] at hd
      by_cases h3 : bt a 0 = 47
      · have : bad true (bytesOf a) = true := by
          rw [hd, bad, if_pos (show bt a ((0 : Nat) : Int) = 47 from h3)]
          rfl
        rw [if_pos h3, jt, okName, this]
        simp
      · have ew : wrap64 ((a.size : Int) - 1) = (a.size : Int) - 1 := by unfold wrap64; omega
        have hb1 : bad true (bytesOf a) = bad false (bytesOf a) := by
          rw [hd]
          have : ¬ bt a ((0 : Nat) : Int) = 47 := h3
          rw [bad, bad, if_neg this, if_neg this]
        rw [if_neg h3, ew, if_pos (by omega), if_pos (by omega)]
        by_cases h4 : bt a ((a.size : Int) - 1) = 47
        · have e : (bt a ((a.size : Int) - 1) == 47) = true := by simpa using h4
          have hl : a.size - 1 < (bytesOf a).length := by rw [bytesOf_length]; omega
          have hx : (bytesOf a)[a.size - 1]? = some 47 := by
            have h5 := bt_get a (a.size - 1) (by omega)
            rw [show (((a.size - 1 : Nat)) : Int) = (a.size : Int) - 1 by omega, h4, List.getD_eq_getElem?_getD, List.getElem?_eq_getElem hl] at h5
            rw [List.getElem?_eq_getElem hl]
            simpa using h5.symm
          have : bad true (bytesOf a) = true := by
            cases hb : bad true (bytesOf a) with
            | true => rfl
            | false =>
              have := bad_last true (bytesOf a) (a.size - 1) hb hx
              rw [bytesOf_length] at this
              omega
          rw [e, jt, okName, this]
          simp
        · have e : (bt a ((a.size : Int) - 1) == 47) = false := by simpa using h4
          rw [e]
          simp only [postbagref13_Name.j0]
          have hL := ref_l0 a (by omega) h3 h4 a.size k 0 (by omega) (by omega)
          have hls : lastSlash a 0 = false := decide_eq_false fun h => Nat.lt_irrefl _ h.1
          rw [List.drop_zero, hls, ← hb1] at hL
          rw [if_neg (by decide), show (0 : Int) = ((0 : Nat) : Int) from rfl, hL, okName, decide_eq_true (by omega), Bool.true_and]
          congr 1
          by_cases h5 : (bytesOf a).all (okB13 barS13) = true ∧ bad true (bytesOf a) = false
          · rw [if_pos h5, h5.1, h5.2, if_pos (by decide)]
          · rw [if_neg h5, if_neg (by simpa using h5)]
def okPat (a : ByteArray) : Bool := decide (a.size ≤ 100) && (bytesOf a).all (okB13 barP)
theorem pattern_f (a : ByteArray) : boxes_Pattern.f a = some (okPat a) := by
  rw [boxes_Pattern.f]
  unfold okPat
  by_cases h : (a.size : Int) ≤ 100
  · rw [if_pos h, boxes_each.f, if_pos (by omega), decide_eq_true (by omega)]
    rfl
  · rw [if_neg h, decide_eq_false (by omega), Bool.false_and]
theorem refpat_l0 (a : ByteArray) (ha : a.size ≤ 1000) : ∀ d k i, i + d = a.size → d + 2 < k → postbagref13_Pattern.l0 k a (i : Int) = some (decide (a.size ≤ 100) && ((bytesOf a).drop i).all (okB13 barP)) := by
  intro d
  induction d with
  | zero =>
    intro k i hi hk
    obtain ⟨k, rfl⟩ : ∃ m, k = m + 1 := ⟨k - 1, by omega⟩
    have e : i = a.size := by omega
    subst e
    have hd : (bytesOf a).drop a.size = [] := List.drop_of_length_le (by rw [bytesOf_length]; exact Nat.le_refl _)
    have hq : decide ((a.size : Int) ≤ 100) = decide (a.size ≤ 100) := by
      rw [decide_eq_decide]
      omega
    simp only [postbagref13_Pattern.l0]
    rw [if_neg (by omega), hd, hq]
    simp
  | succ d ih =>
    intro k i hi hk
    obtain ⟨k, rfl⟩ : ∃ m, k = m + 3 := ⟨k - 3, by omega⟩
    have hlt : i < a.size := by omega
    have hr := bt_range a i hlt
    have hi2 := ih (k + 2) (i + 1) (by omega) (by omega)
    have ew : wrap64 ((i : Int) + 1) = ((i + 1 : Nat) : Int) := by unfold wrap64; omega
    rw [show k + 3 = (k + 2) + 1 from rfl]
    simp only [postbagref13_Pattern.l0]
    rw [if_pos (by omega), if_pos (by omega), plain_f, Option.bind_some, drop_at a i hlt, List.all_cons, (ok_at _ hr).2]
    by_cases hp : plainI (bt a (i : Int)) true = true
    · rw [if_pos hp, hp, Bool.true_and, ew]
      exact hi2
    · have hp' : plainI (bt a (i : Int)) true = false := by simpa using hp
      rw [if_neg hp, hp', Bool.false_and, Bool.and_false]
theorem BoxesNames : postbaglaw13_BoxesNames.Pure := by
  intro a _
  by_cases h1 : (a.size : Int) > 1000
  · refine ⟨0, ?_⟩
    rw [postbaglaw13_BoxesNames.f, alive_true, Option.bind_some, if_pos rfl, if_pos h1]
  · refine ⟨a.size + 20, ?_⟩
    have hp : postbagref13_Pattern.f (a.size + 20) a = some (okPat a) := by
      have := refpat_l0 a (by omega) a.size (a.size + 20) 0 (by omega) (by omega)
      rw [List.drop_zero] at this
      exact this
    rw [postbaglaw13_BoxesNames.f, alive_true, Option.bind_some, if_pos rfl, if_neg h1, name_f13, Option.bind_some, ref_name a _ (by omega), Option.bind_some, pattern_f, hp]
    by_cases h2 : okName a = true
    · rw [if_pos h2, if_pos h2]
      unfold fin13
      simp
    · rw [if_neg h2, if_neg h2]
      have e4 : postbagnum_Num.f (some 4) = some 4 := by rw [postbagnum_Num.f, Is.numF, if_pos (by decide)]
      have e0 : ByteArray.empty.toList = (⟨#[]⟩ : ByteArray).toList := rfl
      simp [e4, e0]
end Go.Proofs.YthlofokgbogndabDoor.GBoxes
