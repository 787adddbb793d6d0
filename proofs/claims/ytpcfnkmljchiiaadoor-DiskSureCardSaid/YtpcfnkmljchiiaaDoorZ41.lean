/- Steps towards RDiskSure: DRms. -/
import Derived.Test.YtpcfnkmljchiiaaDoorZ23
/- DiskRooms walked. -/
namespace Go.Proofs.YtpcfnkmljchiiaaDoor.DRms
open Go Go.RowKit Go.Maps Go.Proofs.YtpcfnkmljchiiaaDoorW.PrintWords Go.Proofs.YtpcfnkmljchiiaaDoorW.PrintLast Go.Proofs.YtpcfnkmljchiiaaDoor.DBase Go.Proofs.YtpcfnkmljchiiaaDoor.DPl Go.Proofs.YtpcfnkmljchiiaaDoor.DAt Go.Proofs.YtpcfnkmljchiiaaDoor.Is Go.Proofs.YtpcfnkmljchiiaaDoor.DNw Go.Proofs.YtpcfnkmljchiiaaDoor.DOk Go.Proofs.YtpcfnkmljchiiaaDoor.DFil Go.Proofs.YtpcfnkmljchiiaaDoor.DUsd Go.Proofs.YtpcfnkmljchiiaaDoor.DCh2 Go.Proofs.YtpcfnkmljchiiaaDoor.DOps Go.Proofs.YtpcfnkmljchiiaaDoor.DSyn Go.Proofs.YtpcfnkmljchiiaaDoor.DSd Go.Proofs.YtpcfnkmljchiiaaDoor.DCr Go.Proofs.YtpcfnkmljchiiaaDoor.DCra Go.Proofs.YtpcfnkmljchiiaaDoor.DCrc Go.Proofs.YtpcfnkmljchiiaaDoor.DAlv Go.Proofs.YtpcfnkmljchiiaaDoor.Right
set_option linter.unusedVariables false
set_option linter.unusedSimpArgs false
def nB : ByteArray := ⟨#[98]⟩
structure Room (D : Dsk) (q : Int) (fa fb : Fil) (st : Int) : Prop where
  ok : D.Ok
  quota : D.quota = q
  armed : D.armed = -1
  off : D.off = false
  steps : D.steps = st
  now : D.now = [([97], 0), ([98], 1)]
  files : D.files = [fa, fb]
  sum : (fa.now.length : Int) + fb.now.length ≤ q
theorem Room.used {D : Dsk} {q : Int} {fa fb : Fil} {st : Int} (h : Room D q fa fb st) : usedD D = fa.now.length + fb.now.length := by
  unfold usedD usedL
  rw [h.now, h.files]
  simp
theorem Room.opA {D : Dsk} {q : Int} {fa fb : Fil} {st : Int} (h : Room D q fa fb st) (k : Nat → Fil → Option Int × Dsk) : fileOp D nA k = k 0 fa := by
  have e : fileE D nA = none := by
    unfold fileE askD
    rw [h.off, show rightB nA = true by rfl, h.now]
    rfl
  have ea : atN D.now nA.data.toList = 0 := by rw [h.now]; rfl
  unfold fileOp
  rw [e]
  simp only []
  rw [ea, h.files]
  rfl
theorem Room.opB {D : Dsk} {q : Int} {fa fb : Fil} {st : Int} (h : Room D q fa fb st) (k : Nat → Fil → Option Int × Dsk) : fileOp D nB k = k 1 fb := by
  have e : fileE D nB = none := by
    unfold fileE askD
    rw [h.off, show rightB nB = true by rfl, h.now]
    rfl
  have ea : atN D.now nB.data.toList = 1 := by rw [h.now]; rfl
  unfold fileOp
  rw [e]
  simp only []
  rw [ea, h.files]
  rfl
theorem Room.growA {D : Dsk} {q : Int} {fa fb : Fil} {st : Int} (h : Room D q fa fb st) (hq : q ≤ 3000) (c : Chg) (hc : c.pos ≤ fa.now.length) (h1 : c.pos + c.b.length ≤ 1073741824) (hn : ¬noRoom D fa c) (hs : ((c.go fa.now).length : Int) + fb.now.length ≤ q) :
    changedD D 0 fa c = (none, setF (stepD D) 0 ⟨c.go fa.now, fa.sure, fa.opn ++ [c]⟩) ∧ Room (setF (stepD D) 0 ⟨c.go fa.now, fa.sure, fa.opn ++ [c]⟩) q ⟨c.go fa.now, fa.sure, fa.opn ++ [c]⟩ fb (st + 1) := by
  refine ⟨?_, grown_ok h.ok (by rw [h.files]; rfl) c hc h1 (by omega), h.quota, ?_, h.off, ?_, h.now, ?_, hs⟩
  · unfold changedD
    rw [if_neg hn, if_neg (by rw [h.armed]; decide)]
  · show (if 0 < D.armed then D.armed - 1 else D.armed) = -1
    rw [h.armed]
    rfl
  · show D.steps + 1 = st + 1
    rw [h.steps]
  · show D.files.set 0 _ = _
    rw [h.files]
    rfl
theorem Room.growB {D : Dsk} {q : Int} {fa fb : Fil} {st : Int} (h : Room D q fa fb st) (hq : q ≤ 3000) (c : Chg) (hc : c.pos ≤ fb.now.length) (h1 : c.pos + c.b.length ≤ 1073741824) (hn : ¬noRoom D fb c) (hs : (fa.now.length : Int) + (c.go fb.now).length ≤ q) :
    changedD D 1 fb c = (none, setF (stepD D) 1 ⟨c.go fb.now, fb.sure, fb.opn ++ [c]⟩) ∧ Room (setF (stepD D) 1 ⟨c.go fb.now, fb.sure, fb.opn ++ [c]⟩) q fa ⟨c.go fb.now, fb.sure, fb.opn ++ [c]⟩ (st + 1) := by
  refine ⟨?_, grown_ok h.ok (by rw [h.files]; rfl) c hc h1 (by omega), h.quota, ?_, h.off, ?_, h.now, ?_, hs⟩
  · unfold changedD
    rw [if_neg hn, if_neg (by rw [h.armed]; decide)]
  · show (if 0 < D.armed then D.armed - 1 else D.armed) = -1
    rw [h.armed]
    rfl
  · show D.steps + 1 = st + 1
    rw [h.steps]
  · show D.files.set 1 _ = _
    rw [h.files]
    rfl
theorem app_go (l b : List Int) : (Chg.go ⟨l.length, b, false⟩ l) = l ++ b := by
  unfold Chg.go
  simp
/-- The names, and what of the sizes a name stands for. -/
def nm (x : Bool) : ByteArray := if x then nB else nA
/-- The two files hold u and v bytes. -/
def Has (D : Dsk) (q : Int) (u v : Nat) (st : Int) : Prop := ∃ fa fb, Room D q fa fb st ∧ fa.now.length = u ∧ fb.now.length = v
theorem Has.used {D : Dsk} {q : Int} {u v : Nat} {st : Int} (h : Has D q u v st) : usedD D = u + v := by
  obtain ⟨fa, fb, hr, rfl, rfl⟩ := h
  exact hr.used
theorem Has.ok {D : Dsk} {q : Int} {u v : Nat} {st : Int} (h : Has D q u v st) : D.Ok ∧ D.steps = st ∧ (u : Int) + v ≤ q := by
  obtain ⟨fa, fb, hr, rfl, rfl⟩ := h
  exact ⟨hr.ok, hr.steps, hr.sum⟩
theorem Has.append {D : Dsk} {q : Int} {u v : Nat} {st : Int} (h : Has D q u v st) (hq : q ≤ 3000) (x : Bool) (b : List Int) (hb : b.length < 1000) (hr : (b.length : Int) ≤ q - u - v) :
    (appendD D (nm x) b).1 = none ∧ Has (appendD D (nm x) b).2 q (if x then u else u + b.length) (if x then v + b.length else v) (st + 1) := by
  obtain ⟨fa, fb, hR, rfl, rfl⟩ := h
  have hu := hR.used
  cases x with
  | false =>
    have hn : ¬noRoom D fa ⟨fa.now.length, b, false⟩ := by
      unfold noRoom
      rw [app_go, hR.quota, hu, List.length_append]
      omega
    obtain ⟨e, hR2⟩ := hR.growA hq ⟨fa.now.length, b, false⟩ (Nat.le_refl _) (by have := hR.sum; show fa.now.length + b.length ≤ _; omega) hn (by rw [app_go, List.length_append]; omega)
    have e2 : appendD D (nm false) b = (none, _) := (hR.opA _).trans e
    rw [e2]
    exact ⟨rfl, _, _, hR2, by simp [app_go], rfl⟩
  | true =>
    have hn : ¬noRoom D fb ⟨fb.now.length, b, false⟩ := by
      unfold noRoom
      rw [app_go, hR.quota, hu, List.length_append]
      omega
    obtain ⟨e, hR2⟩ := hR.growB hq ⟨fb.now.length, b, false⟩ (Nat.le_refl _) (by have := hR.sum; show fb.now.length + b.length ≤ _; omega) hn (by rw [app_go, List.length_append]; omega)
    have e2 : appendD D (nm true) b = (none, _) := (hR.opB _).trans e
    rw [e2]
    exact ⟨rfl, _, _, hR2, rfl, by simp [app_go]⟩
end Go.Proofs.YtpcfnkmljchiiaaDoor.DRms
