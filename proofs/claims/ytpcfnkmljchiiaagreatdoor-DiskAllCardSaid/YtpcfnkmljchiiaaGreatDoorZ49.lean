/- Steps towards RDiskAll: DRss. -/
import Derived.Test.YtpcfnkmljchiiaaGreatDoorZ44
import Derived.Test.YtpcfnkmljchiiaaGreatDoorZ47
import Derived.Test.YtpcfnkmljchiiaaGreatDoorZ48
set_option linter.unusedVariables false
set_option linter.unusedSimpArgs false
/- What a law of the disk and its document's disk carries. -/
namespace Go.Proofs.YtpcfnkmljchiiaaGreatDoor.DRss
open Go Go.RowKit Go.Maps Go.Proofs.YtpcfnkmljchiiaaGreatDoorW.PrintWords Go.Proofs.YtpcfnkmljchiiaaGreatDoorW.PrintLast DPl DAt Go.Proofs.YtpcfnkmljchiiaaGreatDoor.Is DNw DRn DRd DRl DRt DRak DRlm DRpa DRel DDo DAk DRgt
structure SS (n : Nat) (w : World) (E : Int → Addr) (q d m : Nat) (D M : Dsk) (W : World) : Prop where
  bel : Below n w W
  errs : AllAt n W E
  disk : DiskAt ⟨n, q⟩ W d D
  doc : RDiskAt n W m M
section
variable {n q d m : Nat} {w W V : World} {E : Int → Addr} {D D1 M M1 : Dsk}
theorem SS.size (h : SS n w E q d m D M W) (hn : n = w.heap.size) : n ≤ W.heap.size := hn ▸ (hn ▸ h.bel.size)
theorem SS.below (h : SS n w E q d m D M W) (hn : n = w.heap.size) (hb : Below W.heap.size W V) : SS n w E q d m D M V :=
  ⟨h.bel.trans (hb.mono (h.size hn)), h.errs.low hb (h.size hn), h.disk.below hb, h.doc.keep hb⟩
theorem SS.turn (h : SS n w E q d m D M W) (hn : n = w.heap.size) (hd : DiskAt ⟨n, q⟩ V d D1) (ht : Turn n W V) : SS n w E q d m D1 M V :=
  ⟨h.bel.trans (ht.toBelow (h.size hn)), h.errs.low (ht.toBelow (h.size hn)) (Nat.le_refl _), hd, h.doc.turnN ht⟩
end
/-- What DiskAll's first loop carries. -/
structure LA (w : World) (E : Int → Addr) (d m : Nat) (j : Nat) (D : Dsk) (G : List Fil) (q : Nat) (W : World) : Prop where
  steps : D.steps ≤ (j : Int)
  ok : D.Ok
  live : Live D
  rel : FRel D G
  rise : Rising D.sure
  rights : Rights D
  ss : SS w.heap.size w E q d m D (withF D G) W
theorem LA.next {d m j q : Nat} {w W V : World} {E : Int → Addr} {D : Dsk} {G : List Fil} (h : LA w E d m j D G q W) (hb : Below W.heap.size W V) : LA w E d m (j + 1) D G q V :=
  ⟨by have := h.steps; omega, h.ok, h.live, h.rel, h.rise, h.rights, h.ss.below rfl hb⟩
end Go.Proofs.YtpcfnkmljchiiaaGreatDoor.DRss
