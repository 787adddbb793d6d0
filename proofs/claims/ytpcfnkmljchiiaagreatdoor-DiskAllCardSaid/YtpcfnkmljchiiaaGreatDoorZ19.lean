/- Steps towards RDiskAll: DRt. -/
import Derived.Test.YtpcfnkmljchiiaaGreatDoorZ18
set_option linter.unusedVariables false
set_option linter.unusedSimpArgs false
/- The two disks side by side: what turns the one keeps the other. -/
namespace Go.Proofs.YtpcfnkmljchiiaaGreatDoor.DRt
open Go Go.RowKit Go.Maps Go.Proofs.YtpcfnkmljchiiaaGreatDoorW.PrintWords Go.Proofs.YtpcfnkmljchiiaaGreatDoorW.PrintLast DPl DAt DRn DRd DRl
variable {B : Bx} {p : Nat} {D : Dsk} {w w' : World}
/-- A row whose blocks are of kinds that a call keeps. -/
theorem R_turn {α : Type} {d : Kd α} {e base : Nat} {ok : Nat → Prop} {v : Value} {xs : List α} (h : d.R e w base ok v xs) (hk : ∀ (k : Nat) (o : Obj), w.heap[k]? = some o → dk o = false → w'.heap[k]? = some o) (hE : ∀ q ∈ e :: d.E, dkT q = false) : d.R e w' base ok v xs :=
  R_own2 h (fun k q cells hq hc => (hk k _ hc (hE q hq)).trans hc.symm)
theorem R_rturn {α : Type} {d : Kd α} {e base : Nat} {ok : Nat → Prop} {v : Value} {xs : List α} (h : d.R e w base ok v xs) (hk : ∀ (k : Nat) (o : Obj), w.heap[k]? = some o → rk o = false → w'.heap[k]? = some o) (hE : ∀ q ∈ e :: d.E, rkT q = false) : d.R e w' base ok v xs :=
  R_own2 h (fun k q cells hq hc => (hk k _ hc (hE q hq)).trans hc.symm)
theorem _root_.Go.Proofs.YtpcfnkmljchiiaaGreatDoor.DRl.RDiskAt.turn (h : RDiskAt B w p D) (ht : Turn B w w') : RDiskAt B w' p D := by
  obtain ⟨L, fv, nv, iv, ov, hl⟩ := h
  refine ⟨L, fv, nv, iv, ov, ⟨ht.kind _ _ hl.obj rfl, hl.lop, R_turn hl.names ht.kind (by decide), R_turn hl.nums ht.kind (by decide), R_turn hl.ptrs ht.kind (by decide), R_turn hl.opn ht.kind (by decide), ⟨hl.files.len, fun i x f hx hf => ?_, hl.files.lo, hl.files.far⟩⟩⟩
  have h1 := hl.files.each i x f hx hf
  exact ⟨ht.kind _ _ h1.obj rfl, R_turn h1.opn ht.kind (by decide)⟩
theorem _root_.Go.Proofs.YtpcfnkmljchiiaaGreatDoor.DAt.DiskAt.rturn (h : DiskAt B w p D) (ht : RTurn B w w') : DiskAt B w' p D := by
  obtain ⟨L, m1, m2, fv, ov, hl⟩ := h
  have nm : ∀ {m : Nat} {N : Nms}, NamesAt w m N → NamesAt w' m N := fun hn => by
    obtain ⟨es, c, ho⟩ := hn.obj
    exact hn.same ((ht.kind _ _ ho rfl).trans ho.symm)
  refine ⟨L, m1, m2, fv, ov, ⟨ht.kind _ _ hl.obj rfl, hl.lop, hl.lo1, hl.lo2, hl.ne, nm hl.now, nm hl.sure, R_rturn hl.ptrs ht.kind (by decide), R_rturn hl.opn ht.kind (by decide), ⟨hl.files.len, fun i x f hx hf => ?_, hl.files.far⟩, Nat.lt_of_lt_of_le hl.lt ht.size⟩⟩
  obtain ⟨⟨nv, sv, ho, hn, hs⟩, lo, hop⟩ := hl.files.each i x f hx hf
  exact ⟨⟨nv, sv, ht.kind _ _ ho rfl, R_rturn hn ht.kind (by decide), R_rturn hs ht.kind (by decide)⟩, lo, R_rturn hop ht.kind (by decide)⟩
theorem _root_.Go.Proofs.YtpcfnkmljchiiaaGreatDoor.DRl.RDiskAt.below (h : RDiskAt B w p D) (hb : Below w.heap.size w w') : RDiskAt B w' p D := h.turn (Turn.of_below hb)
end Go.Proofs.YtpcfnkmljchiiaaGreatDoor.DRt
