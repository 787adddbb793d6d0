/- Steps towards RDiskSure: DRnu. -/
import Derived.Test.YtpcfnkmljchiiaaDoorZ33
/- The document's new disk. -/
namespace Go.Proofs.YtpcfnkmljchiiaaDoor.DRnu
open Go Go.RowKit Go.Maps Go.Proofs.YtpcfnkmljchiiaaDoorW.PrintWords Go.Proofs.YtpcfnkmljchiiaaDoorW.PrintLast Go.Proofs.YtpcfnkmljchiiaaDoor.DPl Go.Proofs.YtpcfnkmljchiiaaDoor.DAt Go.Proofs.YtpcfnkmljchiiaaDoor.Is Go.Proofs.YtpcfnkmljchiiaaDoor.DRn Go.Proofs.YtpcfnkmljchiiaaDoor.DRd Go.Proofs.YtpcfnkmljchiiaaDoor.DRl Go.Proofs.YtpcfnkmljchiiaaDoor.DRlm
set_option linter.unusedVariables false
set_option linter.unusedSimpArgs false
set_option maxRecDepth 100000 in
set_option maxHeartbeats 4000000 in
theorem rnewO_calls (q : Int) (w : World) : Calls Tryd.prog 18 #[.int .i64 q] w fun e w' => e = .returned (.pointer (some ⟨w.heap.size, 0, none⟩)) ∧ w' = w.alloc (rdO (.slice none 0 0) (.slice none 0 0) (.slice none 0 0) (.slice none 0 0) q (-1) false 0) := by
  go_enter Tryd.func18, Tryd.ntmps18
  go_wp2
  all_goals try go_ret
  exact ⟨rfl, rfl⟩
theorem rnew_calls (q : Int) (B : Nat) (w : World) (hB : B ≤ w.heap.size) : Calls Tryd.prog 18 #[.int .i64 q] w fun e w' => ∃ p, e = .returned (.pointer (some ⟨p, 0, none⟩)) ∧ RDiskAt B w' p (newD q) ∧ Below w.heap.size w w' := by
  refine (rnewO_calls q w).mono ?_
  rintro e w' ⟨rfl, rfl⟩
  have ho := heap_alloc_new w (rdO (.slice none 0 0) (.slice none 0 0) (.slice none 0 0) (.slice none 0 0) q (-1) false 0)
  exact ⟨_, rfl, ⟨[], .slice none 0 0, .slice none 0 0, .slice none 0 0, .slice none 0 0, ⟨ho, hB, Kd.R_nil _ _ _ _ _, Kd.R_nil _ _ _ _ _, Kd.R_nil _ _ _ _ _, Kd.R_nil _ _ _ _ _, ⟨rfl, fun i x f hx => by simp at hx, fun x hx => by simp at hx, fun i j x y hx => by simp at hx⟩⟩⟩, (Below.refl _ _).alloc (Nat.le_refl _) _⟩
end Go.Proofs.YtpcfnkmljchiiaaDoor.DRnu
