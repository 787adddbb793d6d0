/- Steps towards RBoth: Num. -/
import Derived.Test.YtpcfnkmljchiiaaGreatDoorZ05
import Derived.LoopIn
import Derived.IntWalk
set_option linter.unusedVariables false
set_option linter.unusedSimpArgs false
/- postbagnum.Num: the number of the package's sentinel. -/
namespace Go.Proofs.YtpcfnkmljchiiaaGreatDoor.Is
open Go.RowKit Go.Extern.Stop Go.Stop Go.Extern
open Go.Proofs.YtpcfnkmljchiiaaGreatDoorW.PrintWords
def All (c : Int) : Prop := 1 ≤ c ∧ c ≤ 13
def numF : Option Int → Option Int
  | none => some 0
  | some c => if 1 ≤ c ∧ c ≤ 13 then some c else none
theorem below_lit (w : World) (o : Obj) : Below w.heap.size w (w.alloc o) := (Below.refl _ w).alloc (Nat.le_refl _) o
set_option maxHeartbeats 2000000 in
theorem num_calls (r : Option Int) (n : Int) (E : Int → Addr) (w : World) (hE : Errs All w E) (h : numF r = some n) :
    Calls Tryz.prog 20 #[errV E r] w fun e w' => e = .returned (.int .i64 n) ∧ Below w.heap.size w w' := by
  cases r with
  | none =>
    obtain rfl : 0 = n := by simpa [numF] using h
    rw [errV_none]
    go_enter Tryz.func20, Tryz.ntmps20
    go_wp2
    go_ret
    exact ⟨rfl, Below.refl _ _⟩
  | some c =>
    by_cases hc : 1 ≤ c ∧ c ≤ 13
    case neg =>
      rw [numF, if_neg hc] at h
      exact absurd h (by simp)
    obtain rfl : c = n := by rw [numF, if_pos hc] at h; exact Option.some.inj h
    clear h
    obtain ⟨hc1, hc2⟩ := hc
    have v1 : w.cell? ⟨0, 0, none⟩ = some (.iface 212 (.pointer (some (E 1)))) := hE.var 1 ⟨by decide, by decide⟩
    have v2 : w.cell? ⟨1, 0, none⟩ = some (.iface 212 (.pointer (some (E 2)))) := hE.var 2 ⟨by decide, by decide⟩
    have v3 : w.cell? ⟨2, 0, none⟩ = some (.iface 212 (.pointer (some (E 3)))) := hE.var 3 ⟨by decide, by decide⟩
    have v4 : w.cell? ⟨3, 0, none⟩ = some (.iface 212 (.pointer (some (E 4)))) := hE.var 4 ⟨by decide, by decide⟩
    have v5 : w.cell? ⟨4, 0, none⟩ = some (.iface 212 (.pointer (some (E 5)))) := hE.var 5 ⟨by decide, by decide⟩
    have v6 : w.cell? ⟨5, 0, none⟩ = some (.iface 212 (.pointer (some (E 6)))) := hE.var 6 ⟨by decide, by decide⟩
    have v7 : w.cell? ⟨6, 0, none⟩ = some (.iface 212 (.pointer (some (E 7)))) := hE.var 7 ⟨by decide, by decide⟩
    have v8 : w.cell? ⟨7, 0, none⟩ = some (.iface 212 (.pointer (some (E 8)))) := hE.var 8 ⟨by decide, by decide⟩
    have v9 : w.cell? ⟨8, 0, none⟩ = some (.iface 212 (.pointer (some (E 9)))) := hE.var 9 ⟨by decide, by decide⟩
    have v10 : w.cell? ⟨9, 0, none⟩ = some (.iface 212 (.pointer (some (E 10)))) := hE.var 10 ⟨by decide, by decide⟩
    have v11 : w.cell? ⟨10, 0, none⟩ = some (.iface 212 (.pointer (some (E 11)))) := hE.var 11 ⟨by decide, by decide⟩
    have v12 : w.cell? ⟨11, 0, none⟩ = some (.iface 212 (.pointer (some (E 12)))) := hE.var 12 ⟨by decide, by decide⟩
    have v13 : w.cell? ⟨12, 0, none⟩ = some (.iface 212 (.pointer (some (E 13)))) := hE.var 13 ⟨by decide, by decide⟩
    have HE := Aside0.mk hE
    clear hE
    rw [errV_some]
    go_enter Tryz.func20, Tryz.ntmps20
    go_wp2
    clear v1 v2 v3 v4 v5 v6 v7 v8 v9 v10 v11 v12 v13
    go_loopw [24] (fun i wr => ∃ k : Nat, (k : Int) + 1 ≤ c ∧ i = .int .i64 k ∧ Aside0 (∀ j : Nat, j < 13 → wr.cell? ⟨w.heap.size, j, none⟩ = some (.iface 212 (.pointer (some (E ((j : Int) + 1)))))) ∧ Aside0 (Below w.heap.size w wr)) (fun i _ => 13 - (Go.RowKit.intOf i).toNat)
    case atStart =>
      refine ⟨0, by omega, rfl, ⟨fun j hj => ?_⟩, ⟨below_lit _ _⟩⟩
      rw [World.cell?_alloc_new]
      match j, hj with
      | 0, _ => rfl
      | 1, _ => rfl
      | 2, _ => rfl
      | 3, _ => rfl
      | 4, _ => rfl
      | 5, _ => rfl
      | 6, _ => rfl
      | 7, _ => rfl
      | 8, _ => rfl
      | 9, _ => rfl
      | 10, _ => rfl
      | 11, _ => rfl
      | 12, _ => rfl
      | j + 13, hj => omega
    case round =>
      obtain ⟨k, hk, rfl, HC, HB⟩ := hrel
      have hcell := HC.out k (by omega)
      have HEr := Aside0.mk (HE.out.below HB.out)
      have t1 : decide (k < 13) = true := decide_eq_true (by omega)
      have t2 : decide ((k : Int) < 13) = true := decide_eq_true (by omega)
      by_cases he : c = (k : Int) + 1
      · have HQ := Aside0.mk he
        rw [← he] at hcell
        clear he
        go_wp2_with (first | (go_at_call 75; refine (is_same _ _).mono ?_; rintro e w' ⟨rfl, rfl⟩))
        go_ret
        exact ⟨by rw [HQ.out]; first | rfl | (congr 2; first | (simp [IntKind.wrap]; done) | (simp [IntKind.wrap]; omega)), HB.out⟩
      · obtain ⟨ca, ta, hca⟩ := HEr.out.row c ⟨by omega, by omega⟩
        obtain ⟨cb, tb, hcb⟩ := HEr.out.row ((k : Int) + 1) ⟨by omega, by omega⟩
        have HN := Aside0.mk (is_other (E c) (E ((k : Int) + 1)) ca cb ta tb wr (HEr.out.ne c _ ⟨by omega, by omega⟩ ⟨by omega, by omega⟩ he) hca hcb)
        clear hca hcb
        have hk2 : (k : Int) + 1 + 1 ≤ c := by omega
        clear he
        go_wp2_with (first | (go_at_call 75; refine HN.out.mono ?_; rintro e w' ⟨rfl, rfl⟩))
        go_roundw
        case rel => exact ⟨k + 1, by omega, by go_num, HC, HB⟩
        case measure => first | (simp [Go.RowKit.intOf]; done) | (simp [Go.RowKit.intOf]; omega)
end Go.Proofs.YtpcfnkmljchiiaaGreatDoor.Is
