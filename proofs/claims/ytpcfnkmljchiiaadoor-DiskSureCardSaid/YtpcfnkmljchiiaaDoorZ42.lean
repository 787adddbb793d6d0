/- Steps towards RDiskSure: DSs. -/
import Derived.Test.YtpcfnkmljchiiaaDoorZ40
import Derived.Test.YtpcfnkmljchiiaaDoorZ41
/- DiskSure's start: the four disks. -/
namespace Go.Proofs.YtpcfnkmljchiiaaDoor.DSs
open Go Go.RowKit Go.Proofs.YtpcfnkmljchiiaaDoor.DPl Go.Proofs.YtpcfnkmljchiiaaDoor.DOk Go.Proofs.YtpcfnkmljchiiaaDoor.DOk2 Go.Proofs.YtpcfnkmljchiiaaDoor.DSu Go.Proofs.YtpcfnkmljchiiaaDoor.DCra Go.Proofs.YtpcfnkmljchiiaaDoor.DCrc Go.Proofs.YtpcfnkmljchiiaaDoor.DSyn Go.Proofs.YtpcfnkmljchiiaaDoor.DSd Go.Proofs.YtpcfnkmljchiiaaDoor.DCr Go.Proofs.YtpcfnkmljchiiaaDoor.DCh2 Go.Proofs.YtpcfnkmljchiiaaDoor.DOps Go.Proofs.YtpcfnkmljchiiaaDoor.DFil Go.Proofs.YtpcfnkmljchiiaaDoor.Right Go.Proofs.YtpcfnkmljchiiaaDoor.DRms
set_option linter.unusedVariables false
set_option linter.unusedSimpArgs false
def nS : ByteArray := ⟨#[115, 117, 114, 101]⟩
def kS : List UInt8 := [115, 117, 114, 101]
def s1 : Dsk := madeD (newD 10000) nS
def s2 (b : List Int) : Dsk := setF (stepD s1) 0 ⟨b, [], [⟨0, b, false⟩]⟩
def s3 (b : List Int) : Dsk := setF (stepD (s2 b)) 0 ⟨b, b, []⟩
def s4 (b : List Int) : Dsk := { stepD (s3 b) with sure := (s3 b).now, opn := [] }
theorem go_new (b : List Int) : Chg.go ⟨([] : List Int).length, b, false⟩ [] = b := by rw [app_go]; rfl
theorem st1 : createD (newD 10000) nS = (none, s1) := createD_made rfl rfl rfl (by decide) (by decide)
theorem st2 (b : List Int) (hb : b.length ≤ 500) : appendD s1 nS b = (none, s2 b) := by
  have e : appendD s1 nS b = changedD s1 0 ⟨[], [], []⟩ ⟨([] : List Int).length, b, false⟩ := rfl
  have hn : ¬noRoom s1 ⟨[], [], []⟩ ⟨([] : List Int).length, b, false⟩ := by
    unfold noRoom
    rw [go_new, show usedD s1 = 0 from rfl, show s1.quota = 10000 from rfl]
    simp
    omega
  rw [e]
  unfold changedD
  rw [if_neg hn, if_neg (by decide), go_new]
  rfl
theorem st3 (b : List Int) : syncD (s2 b) nS = (none, s3 b) := rfl
theorem st4 (b : List Int) : syncDirD (s3 b) = (none, s4 b) := rfl
theorem ok1 : s1.Ok := madeD_ok (newD_ok 10000 (by decide) (by decide)) nS (by decide)
theorem ok2 (b : List Int) (hb : b.length ≤ 500) : (s2 b).Ok := by
  have h := grown_ok ok1 (i := 0) (f := ⟨[], [], []⟩) rfl ⟨([] : List Int).length, b, false⟩ (Nat.le_refl _) (by show 0 + b.length ≤ _; omega) (by rw [go_new]; omega)
  rw [go_new] at h
  exact h
theorem ok3 (b : List Int) (hb : b.length ≤ 500) : (s3 b).Ok := synced_ok (ok2 b hb) (i := 0) (f := ⟨b, [], [⟨0, b, false⟩]⟩) rfl
theorem ok4 (b : List Int) (hb : b.length ≤ 500) : (s4 b).Ok := syncd_ok (ok3 b hb)
theorem alone4 (b : List Int) : Alone (s4 b) kS b := by
  refine ⟨⟨rfl, rfl, fun e he => ?_⟩, fun p hp h0 => ?_, fun e he => ?_⟩
  · have he : e ∈ ([] : List Ent) := he
    simp at he
  · have hp : p ∈ ([(kS, 0)] : Nms) := hp
    rw [List.mem_singleton.1 hp]
  · have he : e ∈ ([] : List Ent) := he
    simp at he
end Go.Proofs.YtpcfnkmljchiiaaDoor.DSs
