/- BoxesMoves, the plain law: names go along alike, and the same stands above. -/
import Derived.Test.YthlofokgbogndabGBoxesx6
import Derived.Test.YthlofokgbogndabQAlive
namespace Go.Proofs.Ythlofokgbogndab.GBoxes
open Go.RowKit Go.Proofs.YthlofokgbogndabW.PrintWords Go.Proofs.YthlofokgbogndabW.PrintLast Go.Proofs.YthlofokgbogndabW.PrintMore Go.Proofs.YthlofokgbogndabW.SRows
theorem ref_moved_f (a b c : ByteArray) (ha : a.size ≤ 1000) (hb : b.size ≤ 1000) (hc : c.size ≤ 1000) : postbagref13_Moved.f a b c = some (mv a b c) := by
  have w1 : wrap64 ((b.size : Int) + 1) = ((b.size + 1 : Nat) : Int) := by unfold wrap64; omega
  rw [postbagref13_Moved.f, w1]
  unfold mv
  by_cases h : a.toList = b.toList
  · rw [if_pos h, if_pos h]
  · rw [if_neg h, if_neg h]
    unfold un
    by_cases h1 : b.size + 1 < a.size
    · rw [if_pos (by omega), if_pos (by omega), if_pos (by omega), if_pos (by omega), Int.toNat_natCast, Int.toNat_natCast]
      by_cases h2 : (a.extract 0 (b.size + 1)).toList = (b ++ (⟨#[47]⟩ : ByteArray)).toList
      · rw [if_pos h2, if_pos (by omega), if_pos (by omega), if_pos (by rw [ByteArray.size_extract, Nat.min_self]; omega), if_pos (decide_eq_true ⟨h1, h2⟩)]
      · rw [if_neg h2, if_neg (by simp [h2])]
    · rw [if_neg (by omega), if_neg (by simp [h1])]
/-- What stands ahead of each slash among a name's first bytes. -/
def ab (a : ByteArray) : Nat → List ByteArray
  | 0 => []
  | i + 1 => if bt a i = 47 then ab a i ++ [a.extract 0 i] else ab a i
theorem ab_le (a : ByteArray) : ∀ i, (ab a i).length ≤ i
  | 0 => Nat.le_refl _
  | i + 1 => by
    have := ab_le a i
    rw [ab]
    split
    · simp; omega
    · omega
theorem up1 (i n : Nat) (h : i < n) (hn : n ≤ 1000) : wrap64 ((i : Int) + 1) = ((i + 1 : Nat) : Int) := by unfold wrap64; omega
theorem above_l0 (a : ByteArray) (ha : a.size ≤ 1000) : ∀ d k i, i + d = a.size → d < k → boxes_Above.l0 k a (ab a i) (a.size : Int) (i : Int) = some (ab a a.size) := by
  intro d
  induction d with
  | zero =>
    intro k i hi hk
    obtain ⟨k, rfl⟩ : ∃ m, k = m + 1 := ⟨k - 1, by omega⟩
    simp only [boxes_Above.l0]
    rw [if_neg (by omega), show i = a.size by omega]
  | succ d ih =>
    intro k i hi hk
    obtain ⟨k, rfl⟩ : ∃ m, k = m + 1 := ⟨k - 1, by omega⟩
    have h47 : bt (⟨#[47]⟩ : ByteArray) 0 = 47 := rfl
    have hl := ab_le a i
    simp only [boxes_Above.l0]
    rw [if_pos (by omega), if_pos (by omega), if_pos (by omega), if_pos (by omega), h47, up1 i a.size (by omega) ha, Int.toNat_natCast]
    by_cases hb : bt a i = 47
    · have e : ab a (i + 1) = ab a i ++ [a.extract 0 i] := by rw [ab, if_pos hb]
      rw [if_pos hb, if_pos (by omega), if_pos (by omega), ← e]
      exact ih k (i + 1) (by omega) (by omega)
    · have e : ab a (i + 1) = ab a i := by rw [ab, if_neg hb]
      rw [if_neg hb, ← e]
      exact ih k (i + 1) (by omega) (by omega)
theorem same_l0 (l : List ByteArray) (hl : l.length ≤ 1000) : ∀ d k i, i + d = l.length → d < k → postbagref02_Same.l0 k l l (l.length : Int) (i : Int) = some true := by
  intro d
  induction d with
  | zero =>
    intro k i hi hk
    obtain ⟨k, rfl⟩ : ∃ m, k = m + 1 := ⟨k - 1, by omega⟩
    simp only [postbagref02_Same.l0]
    rw [if_neg (by omega)]
  | succ d ih =>
    intro k i hi hk
    obtain ⟨k, rfl⟩ : ∃ m, k = m + 1 := ⟨k - 1, by omega⟩
    simp only [postbagref02_Same.l0]
    rw [if_pos (by omega), if_pos (by omega), if_pos (by omega), if_pos trivial, if_pos (by omega), up1 i l.length (by omega) hl]
    exact ih k (i + 1) (by omega) (by omega)
theorem same_f (l : List ByteArray) (hl : l.length ≤ 1000) (k : Nat) (hk : l.length < k) : postbagref02_Same.f k l l = some true := by
  rw [postbagref02_Same.f, if_pos rfl]
  exact same_l0 l hl l.length k 0 (by omega) hk
theorem un_self (a b : ByteArray) (h : a.toList = b.toList) : un a b = false := by
  have h1 := congrArg List.length h
  rw [len_toList, len_toList] at h1
  exact decide_eq_false fun hh => by omega
theorem moves_l0 (a b c : ByteArray) (ha : a.size ≤ 1000) (hb : b.size ≤ 1000) : ∀ d k i, i + d = a.size → d + a.size + 2 < k →
    postbaglaw13_BoxesMoves.l0 k a b (mv a b c).1 (mv a b c).2 (mv a b c).1 (mv a b c).2 (ab a i) (a.size : Int) (i : Int) = some true := by
  intro d
  induction d with
  | zero =>
    intro k i hi hk
    obtain ⟨k, rfl⟩ : ∃ m, k = m + 1 := ⟨k - 1, by omega⟩
    have he : i = a.size := by omega
    have hab := above_l0 a ha a.size k 0 (by omega) (by omega)
    have hab2 : boxes_Above.f k a = some (ab a a.size) := hab
    have hsf := same_f (ab a a.size) (by have := ab_le a a.size; omega) k (by have := ab_le a a.size; omega)
    subst he
    simp only [postbaglaw13_BoxesMoves.l0]
    rw [if_neg (by omega), if_pos trivial, if_pos (by simp), under_f a b hb, hab2]
    simp only [Option.bind_some, hsf]
    by_cases h : a.toList = b.toList
    · have hm : (mv a b c).2 = true := by rw [mv, if_pos h]
      rw [if_pos hm, if_pos (by rw [un_self a b h, h]; simp)]
    · by_cases hu : un a b = true
      · have hm : (mv a b c).2 = true := by rw [mv, if_neg h, if_pos hu]
        rw [if_pos hm, if_pos (by rw [hu]; simpa using h)]
      · have hm : ¬ (mv a b c).2 = true := by rw [mv, if_neg h, if_neg hu]; simp
        have hu2 : un a b = false := by simpa using hu
        rw [if_neg hm, if_pos (by rw [hu2]; rfl)]
  | succ d ih =>
    intro k i hi hk
    obtain ⟨k, rfl⟩ : ∃ m, k = m + 1 := ⟨k - 1, by omega⟩
    have hl := ab_le a i
    simp only [postbaglaw13_BoxesMoves.l0]
    rw [if_pos (by omega), if_pos (by omega), if_pos (by omega), up1 i a.size (by omega) ha, Int.toNat_natCast]
    by_cases hb2 : bt a i = 47
    · have e : ab a (i + 1) = ab a i ++ [a.extract 0 i] := by rw [ab, if_pos hb2]
      rw [if_pos hb2, if_pos (by omega), if_pos (by omega), ← e]
      exact ih k (i + 1) (by omega) (by omega)
    · have e : ab a (i + 1) = ab a i := by rw [ab, if_neg hb2]
      rw [if_neg hb2, ← e]
      exact ih k (i + 1) (by omega) (by omega)
theorem BoxesMoves : postbaglaw13_BoxesMoves.Pure := by
  intro a b c _ _ _
  refine ⟨a.size + a.size + 10, ?_⟩
  rw [postbaglaw13_BoxesMoves.f, alive_true, Option.bind_some, if_pos rfl]
  have j : ∀ x, (x = false → a.size ≤ 1000 ∧ b.size ≤ 1000 ∧ c.size ≤ 1000) → postbaglaw13_BoxesMoves.j0 (a.size + a.size + 10) a b c x = some true := by
    intro x hx
    simp only [postbaglaw13_BoxesMoves.j0]
    by_cases h : x = true
    · rw [if_pos h]
    · rw [if_neg h]
      obtain ⟨ha, hb, hc⟩ := hx (by simpa using h)
      rw [moved_f a b c ha hb hc, ref_moved_f a b c ha hb hc]
      exact moves_l0 a b c ha hb a.size _ 0 (by omega) (by omega)
  by_cases h1 : (a.size : Int) > 1000
  · rw [if_pos h1]
    exact j _ (by simp)
  · rw [if_neg h1]
    by_cases h2 : (b.size : Int) > 1000
    · rw [if_pos h2]
      exact j _ (by simp)
    · rw [if_neg h2]
      exact j _ (fun h3 => by have := of_decide_eq_false h3; omega)
end Go.Proofs.Ythlofokgbogndab.GBoxes
