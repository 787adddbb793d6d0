/- Steps towards RBoth: DNew. -/
import Derived.Test.YtpcfnkmljchiiaaGreatDoorProg
import Derived.Test.YtpcfnkmljchiiaaGreatDoorZ00
import Derived.Test.YtpcfnkmljchiiaaGreatDoorZ16
import Derived.Carry
set_option linter.unusedVariables false
set_option linter.unusedSimpArgs false
/- A new disk. -/
namespace Go.Proofs.YtpcfnkmljchiiaaGreatDoor.DNew
open Go Go.RowKit Go.Proofs.YtpcfnkmljchiiaaGreatDoorW.PrintWords Go.Proofs.YtpcfnkmljchiiaaGreatDoor.Moved
/-- A disk's struct: its two maps lie at a and b. -/
def newO (a b : Nat) (q : Int) : Obj := .cells #[.slice none 0 0, .map (some a), .map (some b), .slice none 0 0, .int .i64 q, .int .i64 (-1), .bool false, .int .i64 0] 87
set_option maxRecDepth 100000 in
set_option maxHeartbeats 4000000 in
theorem new_calls (q : Int) (h0 : 0 ≤ q) (h1 : q ≤ 1073741824) (w : World) : Calls Tryz.prog 9 #[.int .i64 q] w fun e w' => e = .returned (.tuple #[.pointer (some ⟨w.heap.size + 1 + 1, 0, none⟩), .nilIface]) ∧ w' = ((w.alloc (.map #[] 0)).alloc (.map #[] 0)).alloc (newO w.heap.size (w.heap.size + 1) q) := by
  have t1 : decide (q < 0) = false := decide_eq_false (by omega)
  have t2 : decide (1073741824 < q) = false := decide_eq_false (by omega)
  have hmk := fun W => run_makeMap (P := Tryz.prog) 83 W
  go_enter Tryz.func9, Tryz.ntmps9
  go_wp2
  refine bodyPost_ret (v := .tuple #[.pointer (some ⟨w.heap.size + 1 + 1, 0, none⟩), .nilIface]) (by simp [results, Tryz.results9, go_sem]) rfl ⟨rfl, rfl⟩
end Go.Proofs.YtpcfnkmljchiiaaGreatDoor.DNew
