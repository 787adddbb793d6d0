/- Steps towards RDiskAll: DLsp. -/
import Derived.Test.YtpcfnkmljchiiaaGreatDoorZ27
import Derived.Sort.KeysCollected
set_option linter.unusedVariables false
set_option linter.unusedSimpArgs false
/- Names that rise are sorted. -/
namespace Go.Proofs.YtpcfnkmljchiiaaGreatDoor.DLsp
open Go Go.RowKit Go.Maps Go.WideShapes Go.Sort DPl DAt DDo DRdp DRl
theorem bb_lt : ∀ a b : List UInt8, bytesBefore a b = true → a < b
  | [], [], h => by simp [bytesBefore] at h
  | [], y :: b, _ => List.nil_lt_cons y b
  | x :: a, [], h => by simp [bytesBefore] at h
  | x :: a, y :: b, h => by
    rw [List.cons_lt_cons_iff]
    unfold bytesBefore at h
    by_cases hxy : x = y
    · subst hxy
      exact .inr ⟨rfl, bb_lt a b (by simpa using h)⟩
    · exact .inl (by simpa [hxy] using h)
theorem rising_sort {N : Nms} (hN : Rising N) : (N.map Prod.fst).mergeSort (fun x y => decide (x ≤ y)) = N.map Prod.fst := by
  refine List.mergeSort_of_pairwise ?_
  rw [List.pairwise_map]
  refine List.Pairwise.imp ?_ hN
  intro p q h
  exact decide_eq_true (List.le_of_lt (bb_lt _ _ h))
theorem keys_sorted {N : Nms} (hN : Rising N) {ss : List (List UInt8)} (hp : ss.Perm (N.map Prod.fst)) : ss.mergeSort (fun x y => decide (x ≤ y)) = N.map Prod.fst :=
  (mergeSort_of_perm hp).trans (rising_sort hN)
end Go.Proofs.YtpcfnkmljchiiaaGreatDoor.DLsp
