/- Steps towards RDiskAll: DRnf. -/
import Derived.Test.YtpcfnkmljchiiaaGreatDoorZ27
import Derived.Test.YtpcfnkmljchiiaaGreatDoorZ04
set_option linter.unusedVariables false
set_option linter.unusedSimpArgs false
/- The document's look-up of a name, told plainly. -/
namespace Go.Proofs.YtpcfnkmljchiiaaGreatDoor.DRnf
open Go Go.RowKit Go.Maps Go.Proofs.YtpcfnkmljchiiaaGreatDoorW.PrintWords DPl DRl DRdp GRef
/-- What Find answers. -/
def Found (N S : Nms) (k : List UInt8) (r : Int) : Prop := (hasN S k = false ∧ r = -1) ∨ (hasN S k = true ∧ ∃ i : Nat, r = (i : Int) ∧ N[i]? = some (k, atN S k))
theorem find_l (N : Nms) (s : ByteArray) (hN : N.length ≤ 1000000000000) : ∀ (S P : Nms), N = P ++ S → ∃ r, postbagref05_Names_Find.l0 (S.length + 1) s (N.length : Int) (P.length : Int) (namesL N) (numsL N) = some r ∧ Found N S s.data.toList r
  | [], P, h => by
    refine ⟨-1, ?_, .inl ⟨rfl, rfl⟩⟩
    rw [postbagref05_Names_Find.l0, if_neg (by rw [h]; simp)]
  | q :: S, P, h => by
    have hl : N.length = P.length + (S.length + 1) := by rw [h]; simp
    have e1 : ((P.length : Int)).toNat = P.length := by omega
    have hq : N[P.length]? = some q := by rw [h]; simp
    have hrd : rdOf ByteArray.empty (namesL N) (P.length : Int) = nmS q.1 := by
      unfold rdOf namesL
      rw [e1, List.getD_eq_getElem?_getD, List.getElem?_map, hq]
      rfl
    rw [postbagref05_Names_Find.l0, if_pos (by omega), if_pos (by omega), if_pos (by rw [names_len]; omega), hrd, nmS_list, ByteArray.toList_eq]
    by_cases hk : q.1 = s.data.toList
    · rw [if_pos hk]
      refine ⟨_, rfl, .inr ⟨by simp [hasN, hk], P.length, rfl, ?_⟩⟩
      rw [hq]
      have : atN (q :: S) s.data.toList = q.2 := by unfold atN; rw [List.find?_cons_of_pos (by simpa using hk)]
      rw [this, ← hk]
    · rw [if_neg hk]
      obtain ⟨r, h1, h2⟩ := find_l N s hN S (P ++ [q]) (by rw [h]; simp)
      have e2 : wrap64 ((P.length : Int) + 1) = ((P ++ [q]).length : Int) := by rw [List.length_append, List.length_singleton]; unfold wrap64; omega
      have e3 : hasN (q :: S) s.data.toList = hasN S s.data.toList := by
        unfold hasN
        rw [List.any_cons, show (q.1 == s.data.toList) = false by simpa using hk, Bool.false_or]
      have e4 : atN (q :: S) s.data.toList = atN S s.data.toList := by unfold atN; rw [List.find?_cons_of_neg (by simpa using hk)]
      refine ⟨r, by rw [e2, List.length_cons]; exact h1, ?_⟩
      unfold Found at h2 ⊢
      rw [e3, e4]
      exact h2
theorem find_f (N : Nms) (s : ByteArray) (hN : N.length ≤ 1000000000000) : ∃ r, postbagref05_Names_Find.f (N.length + 1) (namesL N) (numsL N) s = some r ∧ Found N N s.data.toList r := by
  obtain ⟨r, h1, h2⟩ := find_l N s hN N [] rfl
  refine ⟨r, ?_, h2⟩
  unfold postbagref05_Names_Find.f
  rw [names_len]
  exact h1
/-- A name's file; -1: there is none. -/
def fileI (N : Nms) (k : List UInt8) : Int := if hasN N k = true then atN N k else -1
theorem file_f (N : Nms) (s : ByteArray) (hN : N.length ≤ 1000000000000) : postbagref05_Names_File.f (N.length + 1) (namesL N) (numsL N) s = some (fileI N s.data.toList) := by
  obtain ⟨r, h1, h2⟩ := find_f N s hN
  unfold postbagref05_Names_File.f fileI
  rw [h1]
  show (if r ≥ 0 then _ else _) = _
  rcases h2 with ⟨h3, rfl⟩ | ⟨h3, i, rfl, h4⟩
  · rw [if_neg (by omega), h3]
    rfl
  · have hl := (List.getElem?_eq_some_iff.1 h4).1
    rw [if_pos (by omega), if_pos (by omega), if_pos (by rw [nums_len]; omega), if_pos h3]
    have : rd (numsL N) (i : Int) = atN N s.data.toList := by
      unfold rd numsL
      rw [List.getD_eq_getElem?_getD, Int.toNat_natCast, List.getElem?_map, h4]
      rfl
    rw [this]
end Go.Proofs.YtpcfnkmljchiiaaGreatDoor.DRnf
