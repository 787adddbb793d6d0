/- Steps towards RDiskAll: DLst. -/
import Derived.Test.YtpcfnkmljchiiaaGreatDoorZ46
set_option linter.unusedVariables false
set_option linter.unusedSimpArgs false
/- Disk.List. -/
namespace Go.Proofs.YtpcfnkmljchiiaaGreatDoor.DLst
open Go Go.RowKit Go.Maps Go.Proofs.YtpcfnkmljchiiaaGreatDoorW.PrintWords Go.Proofs.YtpcfnkmljchiiaaGreatDoorW.PrintLast DPl DAt Go.Proofs.YtpcfnkmljchiiaaGreatDoor.Is DFil DSd DDo DRdp DLay
variable {B : Bx} {p : Nat} {D : Dsk} {E : Int → Addr} {w : World}
set_option maxRecDepth 100000 in
set_option maxHeartbeats 4000000 in
theorem list_calls (h : DiskAt B w p D) (hE : ErrAt B w E) (hk : D.Ok) (hst : D.steps ≤ 1000000000) (ho : D.off = false) (hri : Rising D.now) (hn : D.now.length ≤ 1000000000) :
    Calls Tryz.prog 12 #[.pointer (some ⟨p, 0, none⟩)] w fun e w' => ∃ A c, e = .returned (.tuple #[.slice A D.now.length c, .nilIface]) ∧ D.now.length ≤ c ∧ Kd.R Kd.string 9 w' w.heap.size (fun _ => True) (.slice A D.now.length c) (namesL D.now) ∧ Below w.heap.size w w' := by
  have HA := Aside0.mk (ask_zero B p D E _ h hE)
  rw [if_neg (by rw [ho]; decide), errV_none] at HA
  obtain ⟨L, m1, m2, fv, ov, hl⟩ := h
  have HS := Aside0.mk (sorted_calls m1 D.now w hl.now hn hri)
  have HK := Aside0.mk (keys_calls m1 w)
  have c1 : w.cell? ⟨p, 1, none⟩ = some (.map (some m1)) := (blk_cell hl.obj 1).trans rfl
  clear hl hE
  go_enter Tryz.func12, Tryz.ntmps12
  go_wp2_with (first
    | (go_at_call 59; refine HA.out.mono ?_; rintro e w1 ⟨rfl, rfl⟩)
    | (go_at_call 61; refine HK.out.mono ?_; rintro e w2 ⟨rfl, rfl⟩)
    | (go_at_call 60; refine HS.out.mono ?_; rintro e w3 ⟨A, c, rfl, hc, hC, hb⟩; have HC := Aside0.mk hC; have HCc := Aside0.mk hc; have HB := Aside0.mk hb; clear hC hc hb))
  refine bodyPost_ret (v := .tuple #[.slice A D.now.length c, .nilIface]) (by simp [results, Tryz.results12, go_sem]) rfl ⟨A, c, rfl, HCc.out, HC.out, HB.out⟩
end Go.Proofs.YtpcfnkmljchiiaaGreatDoor.DLst
