/- BoxesMatch, the plain law: what is sorted and kept once is what was put in, each at its place. -/
import Derived.Test.YthlofokgbogndabGLawM
import Derived.Test.YthlofokgbogndabQSort
import Derived.Test.YthlofokgbogndabQBoxesMoves
import Derived.Sort.Walk0
namespace Go.Proofs.Ythlofokgbogndab.GBoxes
open Go.RowKit Go.Proofs.YthlofokgbogndabW.PrintWords Go.Proofs.YthlofokgbogndabW.SRows
theorem strB_toList (u : List UInt8) : (strB u).toList = u := by
  rw [toList_eq_data]
  show u.toArray.toList = u
  simp
theorem gtL_eq (y x : List UInt8) : gtL y x = decide (x < y) := by
  rw [gtL, strB_toList, strB_toList, bytesLess_eq]
  rcases So.tri y x with h | h | h
  · rw [decide_eq_true h, decide_eq_false (fun h2 => So.irr _ (So.tr h h2))]
    rfl
  · subst h
    rw [decide_eq_false (So.irr y)]
    simp
  · have hne : (y == x) = false := beq_eq_false_iff_ne.2 fun e => by subst e; exact So.irr _ h
    rw [decide_eq_false (fun h2 => So.irr _ (So.tr h h2)), hne, decide_eq_true h]
    rfl
theorem eqL_iff (y x : List UInt8) : eqL y x = true ↔ y = x := by rw [eqL, strB_toList, strB_toList, beq_iff_eq]
theorem kOf_so (out : List (List UInt8)) (x : List UInt8) : ∀ k, kOf out x k = So.kOf out x k
  | 0 => rfl
  | k + 1 => by
    rw [kOf, So.kOf, gtL_eq, kOf_so out x k]
    by_cases h : x < out.getD k []
    · rw [if_pos (decide_eq_true h), if_pos h]
    · rw [if_neg (by simpa using h), if_neg h]
theorem putIn_so (out : List (List UInt8)) (x : List UInt8) : putIn out x = So.putIn out x := by
  unfold putIn So.putIn
  rw [kOf_so]
  simp only [eqL_iff]
theorem both_so (q : List UInt8 → Bool) (l : List (List UInt8)) : Lib.compact (srt (l.filter q)) = refOut q l := by
  have h := So.both q l
  unfold refOut
  have e : (fun out x => if q x = true then putIn out x else out) = (fun out x => if q x = true then So.putIn out x else out) := by
    funext out x
    rw [putIn_so]
  rw [e, ← h]
  rfl
theorem matches_f (l : List ByteArray) (p : ByteArray) (h1 : l.length ≤ 60) (h2 : p.size ≤ 150) (h3 : ∀ s ∈ l, s.size ≤ 150) : ∃ r : List ByteArray, r.length ≤ 60 ∧ boxes_Match.f l p = some r ∧ postbagref13_Match.f l p = some r := by
  refine ⟨(refOut (fitQ p) (l.map bytesL)).map strB, ?_, ?_, ?_⟩
  · have := refOut_le (fitQ p) (l.map bytesL) l.length (by rw [List.length_map]; exact Nat.le_refl _)
    rw [List.take_of_length_le (by rw [List.length_map]; exact Nat.le_refl _)] at this
    rw [List.length_map]
    omega
  · rw [boxes_Match.f, if_pos ⟨by omega, by omega, fun s hs => Nat.le_trans (h3 s hs) (by decide)⟩, both_so]
  · rw [postbagref13_Match.f, if_pos ⟨by omega, by omega, fun s hs => Nat.le_trans (h3 s hs) (by decide)⟩]
theorem match_l0 (l : List ByteArray) (p : ByteArray) (h1 : l.length ≤ 60) (h2 : p.size ≤ 150) : ∀ d k i, i + d = l.length → d + 100 < k → (∀ j, j < i → (l.getD j ByteArray.empty).size ≤ 150) → postbaglaw13_BoxesMatch.l0 k l p l (l.length : Int) (i : Int) = some true := by
  intro d
  induction d with
  | zero =>
    intro k i hi hk hf
    obtain ⟨k, rfl⟩ : ∃ m, k = m + 1 := ⟨k - 1, by omega⟩
    obtain ⟨r, hr1, hr2, hr3⟩ := matches_f l p h1 h2 fun s hs => by
      obtain ⟨j, hj, rfl⟩ := List.mem_iff_getElem.1 hs
      have := hf j (by omega)
      rw [List.getD_eq_getElem?_getD, List.getElem?_eq_getElem hj] at this
      exact this
    simp only [postbaglaw13_BoxesMatch.l0]
    rw [if_neg (by omega), Option.bind_some, if_pos (by simp only [List.length_nil]; omega), Option.bind_some, List.nil_append, hr2, Option.bind_some, hr3, Option.bind_some, same_f r (by omega) k (by omega), Option.bind_some, if_pos rfl, same_f l (by omega) k (by omega), Option.bind_some]
  | succ d ih =>
    intro k i hi hk hf
    obtain ⟨k, rfl⟩ : ∃ m, k = m + 1 := ⟨k - 1, by omega⟩
    simp only [postbaglaw13_BoxesMatch.l0]
    rw [if_pos (by omega), if_pos (by omega), if_pos (by omega), up1 i l.length (by omega) (by omega)]
    have hr : rdOf ByteArray.empty l (i : Int) = l.getD i ByteArray.empty := rfl
    rw [hr]
    by_cases h : ((l.getD i ByteArray.empty).size : Int) > 150
    · rw [if_pos h]
    · rw [if_neg h]
      refine ih k (i + 1) (by omega) (by omega) fun j hj => ?_
      by_cases e : j = i
      · rw [e]; omega
      · exact hf j (by omega)
theorem BoxesMatch (l : List ByteArray) (p : ByteArray) : ∃ k, postbaglaw13_BoxesMatch.f k l p = some true := by
  refine ⟨l.length + 200, ?_⟩
  rw [postbaglaw13_BoxesMatch.f, alive_true, Option.bind_some, if_pos rfl]
  have j1 : ∀ k, postbaglaw13_BoxesMatch.j0 (k + 1) l p true = some true := fun k => by
    simp only [postbaglaw13_BoxesMatch.j0, if_true]
  rw [show l.length + 200 = (l.length + 199) + 1 from rfl]
  by_cases h1 : (l.length : Int) > 60
  · rw [if_pos h1, j1]
  · rw [if_neg h1]
    by_cases h2 : (p.size : Int) > 150
    · rw [decide_eq_true h2, j1]
    · rw [decide_eq_false h2]
      simp only [postbaglaw13_BoxesMatch.j0]
      rw [if_neg (by decide)]
      exact match_l0 l p (by omega) (by omega) l.length _ 0 (by omega) (by omega) fun j hj => absurd hj (Nat.not_lt_zero j)
end Go.Proofs.Ythlofokgbogndab.GBoxes
