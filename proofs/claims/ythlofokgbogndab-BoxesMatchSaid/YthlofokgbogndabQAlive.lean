/- The chapter's examples hold. -/
import Derived.Test.YthlofokgbogndabGBoxesx3
namespace Go.Proofs.Ythlofokgbogndab.GBoxes
open Go.RowKit Go.Proofs.YthlofokgbogndabW.PrintWords Go.Proofs.YthlofokgbogndabW.PrintLast Go.Proofs.YthlofokgbogndabW.PrintMore Go.Proofs.YthlofokgbogndabW.SRows
theorem fits_at (p n : ByteArray) (b : Bool) (h1 : p.size ≤ 1000000) (h2 : n.size ≤ 1000000) (h : fwB (decide (n.data.toList = [73, 78, 66, 79, 88])) (p.data.toList.map fun b => (b.toNat : Int)) (n.data.toList.map fun b => (b.toNat : Int)) n.size = b) : boxes_Fits.f p n = some b := by
  rw [boxes_Fits.f, if_pos ⟨h1, h2⟩, toList_eq_data, bytesOf, bytesOf, h]
def un (a b : ByteArray) : Bool := decide (b.size + 1 < a.size ∧ (a.extract 0 (b.size + 1)).toList = (b ++ (⟨#[47]⟩ : ByteArray)).toList)
theorem size_slash (b : ByteArray) : (b ++ (⟨#[47]⟩ : ByteArray)).size = b.size + 1 := by rw [ByteArray.size_append]; rfl
theorem len_toList (a : ByteArray) : a.toList.length = a.size := by rw [toList_eq_data, data_length]
theorem under_f (a b : ByteArray) (hb : b.size ≤ 1000) : boxes_Under.f a b = some (un a b) := by
  rw [boxes_Under.f, if_pos (by omega), strings_CutPrefix.f, stringslite_CutPrefix.f, stringslite_HasPrefix.f, size_slash]
  unfold un
  by_cases h1 : (a.size : Int) ≥ ((b.size + 1 : Nat) : Int)
  · rw [if_pos h1, if_pos (by omega), if_pos (by omega)]
    simp only [Int.toNat_natCast, Option.bind_some]
    by_cases h2 : (a.extract 0 (b.size + 1)).toList = (b ++ (⟨#[47]⟩ : ByteArray)).toList
    · rw [if_pos (by rw [h2]; exact beq_self_eq_true _), if_pos (by omega), if_pos (by omega)]
      simp only [Option.bind_some, h2, and_true, if_true]
      congr 1
      have hl := len_toList (a.extract (b.size + 1) a.size)
      rw [ByteArray.size_extract, Nat.min_self] at hl
      by_cases h3 : b.size + 1 < a.size
      · rw [decide_eq_true h3, bne_iff_ne]
        intro e
        rw [e] at hl
        simp at hl
        omega
      · rw [decide_eq_false h3, List.eq_nil_of_length_eq_zero (show (a.extract (b.size + 1) a.size).toList.length = 0 by omega)]
        rfl
    · rw [if_neg (by simpa using h2)]
      simp [h2]
  · rw [if_neg h1]
    have : ¬ b.size + 1 < a.size := by omega
    simp [this]
def mv (a b c : ByteArray) : ByteArray × Bool := if a.toList = b.toList then (c, true) else if un a b = true then (c ++ a.extract b.size a.size, true) else ((⟨#[]⟩ : ByteArray), false)
theorem moved_f (a b c : ByteArray) (ha : a.size ≤ 1000) (hb : b.size ≤ 1000) (hc : c.size ≤ 1000) : boxes_Moved.f a b c = some (mv a b c) := by
  rw [boxes_Moved.f, under_f a b hb]
  unfold mv
  by_cases h : a.toList = b.toList
  · rw [if_pos h, if_pos h]
  · rw [if_neg h, if_neg h, Option.bind_some]
    by_cases hu : un a b = true
    · have h1 : b.size + 1 < a.size := (of_decide_eq_true hu).1
      rw [if_pos hu, if_pos hu, if_pos (by omega), if_pos (by omega), Int.toNat_natCast, if_pos (by rw [ByteArray.size_extract, Nat.min_self]; omega)]
    · rw [if_neg hu, if_neg hu]
theorem alive_true : postbaglaw13_alive.f = some true := by
  have hm : boxes_Moved.f ⟨#[97, 47, 120]⟩ ⟨#[97]⟩ ⟨#[98, 47, 99]⟩ = some ((⟨#[98, 47, 99, 47, 120]⟩ : ByteArray), true) := by
    rw [moved_f _ _ _ (by decide) (by decide) (by decide)]
    simp only [mv, un, toList_eq_data]
    decide
  rw [postbaglaw13_alive.f, hm]
  rw [fits_at ⟨#[97, 47, 37]⟩ ⟨#[97, 47, 98]⟩ true (by decide) (by decide) (by decide)]
  rw [fits_at ⟨#[97, 47, 37]⟩ ⟨#[97, 47, 98, 47, 99]⟩ false (by decide) (by decide) (by decide)]
  rw [fits_at ⟨#[97, 42]⟩ ⟨#[97, 47, 98, 47, 99]⟩ true (by decide) (by decide) (by decide)]
  rw [fits_at ⟨#[73, 110, 66, 37]⟩ ⟨#[73, 78, 66, 79, 88]⟩ true (by decide) (by decide) (by decide)]
  simp only [Option.bind_some, if_true, Bool.false_eq_true, if_false, toList_eq_data]
  decide
end Go.Proofs.Ythlofokgbogndab.GBoxes
