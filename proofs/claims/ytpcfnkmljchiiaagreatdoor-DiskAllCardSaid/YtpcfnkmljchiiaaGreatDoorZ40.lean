/- Steps towards RDiskAll: DSu, DRms, DSs, DAc. -/
import Derived.Test.YtpcfnkmljchiiaaGreatDoorZ24
import Derived.Test.YtpcfnkmljchiiaaGreatDoorZ23
import Derived.Test.YtpcfnkmljchiiaaGreatDoorZ12
set_option linter.unusedVariables false
set_option linter.unusedSimpArgs false
section
/- What is sure stays: plainly. -/
namespace Go.Proofs.YtpcfnkmljchiiaaGreatDoor.DSu
open Go Go.RowKit DPl DOk DCra DCrc DSyn DFil
def key (k : List UInt8) (N : Nms) : Option (List UInt8 × Int) := N.find? fun p => p.1 == k
theorem key_ins (k : List UInt8) (x : List UInt8 × Int) (hx : x.1 ≠ k) : ∀ N : Nms, key k (insN x N) = key k N
  | [] => by simp [key, insN, hx]
  | y :: r => by
    unfold insN
    split
    · simp [key, hx]
    · have := key_ins k x hx r
      unfold key at this ⊢
      simp only [List.find?_cons]
      rw [this]
theorem key_del (k g : List UInt8) (hg : g ≠ k) : ∀ N : Nms, key k (delN N g) = key k N
  | [] => rfl
  | y :: r => by
    have := key_del k g hg r
    unfold key delN at this ⊢
    by_cases hy : y.1 = g
    · rw [List.filter_cons_of_neg (by simp [hy]), this, List.find?_cons]
      have : (y.1 == k) = false := by rw [hy]; simpa using hg
      rw [this]
    · rw [List.filter_cons_of_pos (by simpa using hy)]
      simp only [List.find?_cons]
      rw [this]
theorem key_go (k : List UInt8) (e : Ent) (N : Nms) (h1 : e.name.data.toList ≠ k) (h2 : e.gone.data.toList ≠ k) : key k (e.go N) = key k N := by
  unfold Ent.go
  split
  · rw [putN, key_ins _ _ h1, key_del _ _ h1, key_del _ _ h2]
  · rw [key_del _ _ h2]
theorem key_goAll (k : List UInt8) : ∀ (l : List Ent) (N : Nms), (∀ e ∈ l, e.name.data.toList ≠ k ∧ e.gone.data.toList ≠ k) → key k (goAll N l) = key k N
  | [], _, _ => rfl
  | e :: r, N, h => by
    have h1 := h e List.mem_cons_self
    show key k (goAll (e.go N) r) = _
    rw [key_goAll k r (e.go N) (fun x hx => h x (List.mem_cons_of_mem _ hx)), key_go k e N h1.1 h1.2]
/-- File 0 is sure under a name that no open step touches. -/
structure Keeps (D : Dsk) (k : List UInt8) (b : List Int) : Prop where
  file : D.files[0]? = some ⟨b, b, []⟩
  sure : key k D.sure = some (k, 0)
  opn : ∀ e ∈ D.opn, e.name.data.toList ≠ k ∧ e.gone.data.toList ≠ k
theorem Keeps.now {D : Dsk} {k : List UInt8} {b : List Int} (h : Keeps D k b) (hk : D.Ok) : key k D.now = some (k, 0) := by rw [hk.nowE, key_goAll k _ _ h.opn, h.sure]
theorem Keeps.crash {D : Dsk} {k : List UInt8} {b : List Int} (h : Keeps D k b) (l : List Int) : Keeps (crashD D l) k b ∧ key k (crashD D l).now = some (k, 0) := by
  have hN : key k (goAll D.sure (D.opn.take (ofK l D.opn.length))) = some (k, 0) := by
    rw [key_goAll k _ _ (fun e he => h.opn e (List.mem_of_mem_take he)), h.sure]
  refine ⟨⟨?_, hN, fun e he => ?_⟩, hN⟩
  · obtain ⟨r, hr⟩ : ∃ r, D.files = ⟨b, b, []⟩ :: r := by
      have h0 := h.file
      cases hf : D.files with
      | nil => rw [hf] at h0; simp at h0
      | cons f r => rw [hf] at h0; simp at h0; exact ⟨r, by rw [h0]⟩
    show (sweepFs (crashFs D.files l.tail) _)[0]? = _
    rw [hr, crashFs_nil rfl]
    unfold sweepFs
    have hany : (goAll D.sure (D.opn.take (ofK l D.opn.length))).any (fun p => p.2 == ((0 : Nat) : Int)) = true := by
      rw [List.any_eq_true]
      exact ⟨(k, 0), List.mem_of_find?_eq_some hN, rfl⟩
    simp only [List.mapIdx_cons, List.getElem?_cons_zero]
    rw [if_pos hany]
  · have he : e ∈ ([] : List Ent) := he
    simp at he
/-- So it is read behind a crash. -/
theorem Keeps.read {D : Dsk} {s : ByteArray} {b : List Int} (h : Keeps D s.data.toList b) (l : List Int) : readD (crashD D l) s = b ∧ hasN (crashD D l).now s.data.toList = true ∧ (crashD D l).off = false := by
  obtain ⟨h1, h2⟩ := h.crash l
  have ha : atN (crashD D l).now s.data.toList = 0 := by
    unfold atN
    unfold key at h2
    rw [h2]
  refine ⟨?_, ?_, rfl⟩
  · unfold readD
    rw [ha]
    show (match (crashD D l).files[0]? with | some f => f.now | none => []) = b
    rw [h1.file]
  · unfold hasN
    rw [List.any_eq_true]
    exact ⟨_, List.mem_of_find?_eq_some h2, by simp⟩
/-- Besides, no other name and no open step means file 0. -/
structure Alone (D : Dsk) (k : List UInt8) (b : List Int) : Prop where
  keeps : Keeps D k b
  only : ∀ p ∈ D.sure, p.2 = 0 → p.1 = k
  file : ∀ e ∈ D.opn, e.file ≠ 0
theorem Alone.now {D : Dsk} {k : List UInt8} {b : List Int} (h : Alone D k b) (hk : D.Ok) {s : List UInt8} (hs : s ≠ k) (hh : hasN D.now s = true) : atN D.now s ≠ 0 := by
  unfold hasN at hh
  unfold atN
  obtain ⟨q, hq1, hq2⟩ := List.any_eq_true.1 hh
  cases hf : D.now.find? (fun p => p.1 == s) with
  | none => exact absurd hq2 (by simpa using List.find?_eq_none.1 hf q hq1)
  | some p =>
    have hm := List.mem_of_find?_eq_some hf
    have hp : p.1 = s := by simpa using List.find?_some hf
    rw [hk.nowE] at hm
    intro h0
    have h0 : p.2 = 0 := h0
    rcases mem_goAll _ _ p hm with h1 | ⟨e, h1, h2, _⟩
    · exact hs (hp.symm.trans (h.only p h1 h0))
    · exact h.file e h1 (by omega)
theorem Alone.add {D : Dsk} {k : List UInt8} {b : List Int} (h : Alone D k b) (e : Ent) (h1 : e.name.data.toList ≠ k) (h2 : e.gone.data.toList ≠ k) (h3 : e.file ≠ 0) : Alone (addE (stepD D) e) k b :=
  ⟨⟨h.keeps.file, h.keeps.sure, fun x hx => by
    rcases List.mem_append.1 (show x ∈ D.opn ++ [e] from hx) with h4 | h4
    · exact h.keeps.opn x h4
    · obtain rfl := List.mem_singleton.1 h4
      exact ⟨h1, h2⟩⟩, h.only, fun x hx => by
    rcases List.mem_append.1 (show x ∈ D.opn ++ [e] from hx) with h4 | h4
    · exact h.file x h4
    · obtain rfl := List.mem_singleton.1 h4
      exact h3⟩
theorem Alone.set {D : Dsk} {k : List UInt8} {b : List Int} (h : Alone D k b) (i : Nat) (hi : i ≠ 0) (f : Fil) : Alone (setF (stepD D) i f) k b := by
  refine ⟨⟨?_, h.keeps.sure, h.keeps.opn⟩, h.only, h.file⟩
  show (D.files.set i f)[0]? = _
  rw [List.getElem?_set_ne hi]
  exact h.keeps.file
theorem Alone.off {D : Dsk} {k : List UInt8} {b : List Int} (h : Alone D k b) : Alone (offD D) k b := ⟨⟨h.keeps.file, h.keeps.sure, h.keeps.opn⟩, h.only, h.file⟩
theorem Alone.crash {D : Dsk} {k : List UInt8} {b : List Int} (h : Alone D k b) (l : List Int) : Alone (crashD D l) k b := by
  refine ⟨(h.keeps.crash l).1, fun p hp h0 => ?_, fun e he => ?_⟩
  · rcases mem_goAll _ _ p (show p ∈ goAll D.sure (D.opn.take (ofK l D.opn.length)) from hp) with h1 | ⟨e, h1, h2, _⟩
    · exact h.only p h1 h0
    · exact absurd (by omega) (h.file e (List.mem_of_mem_take h1))
  · have he : e ∈ ([] : List Ent) := he
    simp at he
end Go.Proofs.YtpcfnkmljchiiaaGreatDoor.DSu
end
section
/- DiskRooms walked. -/
namespace Go.Proofs.YtpcfnkmljchiiaaGreatDoor.DRms
open Go Go.RowKit Go.Maps Go.Proofs.YtpcfnkmljchiiaaGreatDoorW.PrintWords Go.Proofs.YtpcfnkmljchiiaaGreatDoorW.PrintLast DBase DPl DAt Go.Proofs.YtpcfnkmljchiiaaGreatDoor.Is DNw DOk DFil DUsd DCh2 DOps DSyn DSd DCr DCra DCrc DAlv Right
def nB : ByteArray := ⟨#[98]⟩
structure Room (D : Dsk) (q : Int) (fa fb : Fil) (st : Int) : Prop where
  ok : D.Ok
  quota : D.quota = q
  armed : D.armed = -1
  off : D.off = false
  steps : D.steps = st
  now : D.now = [([97], 0), ([98], 1)]
  files : D.files = [fa, fb]
  sum : (fa.now.length : Int) + fb.now.length ≤ q
theorem Room.used {D : Dsk} {q : Int} {fa fb : Fil} {st : Int} (h : Room D q fa fb st) : usedD D = fa.now.length + fb.now.length := by
  unfold usedD usedL
  rw [h.now, h.files]
  simp
theorem Room.opA {D : Dsk} {q : Int} {fa fb : Fil} {st : Int} (h : Room D q fa fb st) (k : Nat → Fil → Option Int × Dsk) : fileOp D nA k = k 0 fa := by
  have e : fileE D nA = none := by
    unfold fileE askD
    rw [h.off, show rightB nA = true by rfl, h.now]
    rfl
  have ea : atN D.now nA.data.toList = 0 := by rw [h.now]; rfl
  unfold fileOp
  rw [e]
  simp only []
  rw [ea, h.files]
  rfl
theorem Room.opB {D : Dsk} {q : Int} {fa fb : Fil} {st : Int} (h : Room D q fa fb st) (k : Nat → Fil → Option Int × Dsk) : fileOp D nB k = k 1 fb := by
  have e : fileE D nB = none := by
    unfold fileE askD
    rw [h.off, show rightB nB = true by rfl, h.now]
    rfl
  have ea : atN D.now nB.data.toList = 1 := by rw [h.now]; rfl
  unfold fileOp
  rw [e]
  simp only []
  rw [ea, h.files]
  rfl
theorem Room.growA {D : Dsk} {q : Int} {fa fb : Fil} {st : Int} (h : Room D q fa fb st) (hq : q ≤ 3000) (c : Chg) (hc : c.pos ≤ fa.now.length) (h1 : c.pos + c.b.length ≤ 1073741824) (hn : ¬noRoom D fa c) (hs : ((c.go fa.now).length : Int) + fb.now.length ≤ q) :
    changedD D 0 fa c = (none, setF (stepD D) 0 ⟨c.go fa.now, fa.sure, fa.opn ++ [c]⟩) ∧ Room (setF (stepD D) 0 ⟨c.go fa.now, fa.sure, fa.opn ++ [c]⟩) q ⟨c.go fa.now, fa.sure, fa.opn ++ [c]⟩ fb (st + 1) := by
  refine ⟨?_, grown_ok h.ok (by rw [h.files]; rfl) c hc h1 (by omega), h.quota, ?_, h.off, ?_, h.now, ?_, hs⟩
  · unfold changedD
    rw [if_neg hn, if_neg (by rw [h.armed]; decide)]
  · show (if 0 < D.armed then D.armed - 1 else D.armed) = -1
    rw [h.armed]
    rfl
  · show D.steps + 1 = st + 1
    rw [h.steps]
  · show D.files.set 0 _ = _
    rw [h.files]
    rfl
theorem Room.growB {D : Dsk} {q : Int} {fa fb : Fil} {st : Int} (h : Room D q fa fb st) (hq : q ≤ 3000) (c : Chg) (hc : c.pos ≤ fb.now.length) (h1 : c.pos + c.b.length ≤ 1073741824) (hn : ¬noRoom D fb c) (hs : (fa.now.length : Int) + (c.go fb.now).length ≤ q) :
    changedD D 1 fb c = (none, setF (stepD D) 1 ⟨c.go fb.now, fb.sure, fb.opn ++ [c]⟩) ∧ Room (setF (stepD D) 1 ⟨c.go fb.now, fb.sure, fb.opn ++ [c]⟩) q fa ⟨c.go fb.now, fb.sure, fb.opn ++ [c]⟩ (st + 1) := by
  refine ⟨?_, grown_ok h.ok (by rw [h.files]; rfl) c hc h1 (by omega), h.quota, ?_, h.off, ?_, h.now, ?_, hs⟩
  · unfold changedD
    rw [if_neg hn, if_neg (by rw [h.armed]; decide)]
  · show (if 0 < D.armed then D.armed - 1 else D.armed) = -1
    rw [h.armed]
    rfl
  · show D.steps + 1 = st + 1
    rw [h.steps]
  · show D.files.set 1 _ = _
    rw [h.files]
    rfl
theorem app_go (l b : List Int) : (Chg.go ⟨l.length, b, false⟩ l) = l ++ b := by
  unfold Chg.go
  simp
/-- The names, and what of the sizes a name stands for. -/
def nm (x : Bool) : ByteArray := if x then nB else nA
/-- The two files hold u and v bytes. -/
def Has (D : Dsk) (q : Int) (u v : Nat) (st : Int) : Prop := ∃ fa fb, Room D q fa fb st ∧ fa.now.length = u ∧ fb.now.length = v
theorem Has.used {D : Dsk} {q : Int} {u v : Nat} {st : Int} (h : Has D q u v st) : usedD D = u + v := by
  obtain ⟨fa, fb, hr, rfl, rfl⟩ := h
  exact hr.used
theorem Has.ok {D : Dsk} {q : Int} {u v : Nat} {st : Int} (h : Has D q u v st) : D.Ok ∧ D.steps = st ∧ (u : Int) + v ≤ q := by
  obtain ⟨fa, fb, hr, rfl, rfl⟩ := h
  exact ⟨hr.ok, hr.steps, hr.sum⟩
theorem Has.append {D : Dsk} {q : Int} {u v : Nat} {st : Int} (h : Has D q u v st) (hq : q ≤ 3000) (x : Bool) (b : List Int) (hb : b.length < 1000) (hr : (b.length : Int) ≤ q - u - v) :
    (appendD D (nm x) b).1 = none ∧ Has (appendD D (nm x) b).2 q (if x then u else u + b.length) (if x then v + b.length else v) (st + 1) := by
  obtain ⟨fa, fb, hR, rfl, rfl⟩ := h
  have hu := hR.used
  cases x with
  | false =>
    have hn : ¬noRoom D fa ⟨fa.now.length, b, false⟩ := by
      unfold noRoom
      rw [app_go, hR.quota, hu, List.length_append]
      omega
    obtain ⟨e, hR2⟩ := hR.growA hq ⟨fa.now.length, b, false⟩ (Nat.le_refl _) (by have := hR.sum; show fa.now.length + b.length ≤ _; omega) hn (by rw [app_go, List.length_append]; omega)
    have e2 : appendD D (nm false) b = (none, _) := (hR.opA _).trans e
    rw [e2]
    exact ⟨rfl, _, _, hR2, by simp [app_go], rfl⟩
  | true =>
    have hn : ¬noRoom D fb ⟨fb.now.length, b, false⟩ := by
      unfold noRoom
      rw [app_go, hR.quota, hu, List.length_append]
      omega
    obtain ⟨e, hR2⟩ := hR.growB hq ⟨fb.now.length, b, false⟩ (Nat.le_refl _) (by have := hR.sum; show fb.now.length + b.length ≤ _; omega) hn (by rw [app_go, List.length_append]; omega)
    have e2 : appendD D (nm true) b = (none, _) := (hR.opB _).trans e
    rw [e2]
    exact ⟨rfl, _, _, hR2, rfl, by simp [app_go]⟩
end Go.Proofs.YtpcfnkmljchiiaaGreatDoor.DRms
end
section
/- DiskSure's start: the four disks. -/
namespace Go.Proofs.YtpcfnkmljchiiaaGreatDoor.DSs
open Go Go.RowKit DPl DOk DOk2 DSu DCra DCrc DSyn DSd DCr DCh2 DOps DFil Right DRms
def nS : ByteArray := ⟨#[115, 117, 114, 101]⟩
def s1 : Dsk := madeD (newD 10000) nS
def s2 (b : List Int) : Dsk := setF (stepD s1) 0 ⟨b, [], [⟨0, b, false⟩]⟩
def s3 (b : List Int) : Dsk := setF (stepD (s2 b)) 0 ⟨b, b, []⟩
def s4 (b : List Int) : Dsk := { stepD (s3 b) with sure := (s3 b).now, opn := [] }
theorem go_new (b : List Int) : Chg.go ⟨([] : List Int).length, b, false⟩ [] = b := by rw [app_go]; rfl
theorem ok1 : s1.Ok := madeD_ok (newD_ok 10000 (by decide) (by decide)) nS (by decide)
theorem ok2 (b : List Int) (hb : b.length ≤ 500) : (s2 b).Ok := by
  have h := grown_ok ok1 (i := 0) (f := ⟨[], [], []⟩) rfl ⟨([] : List Int).length, b, false⟩ (Nat.le_refl _) (by show 0 + b.length ≤ _; omega) (by rw [go_new]; omega)
  rw [go_new] at h
  exact h
theorem ok3 (b : List Int) (hb : b.length ≤ 500) : (s3 b).Ok := synced_ok (ok2 b hb) (i := 0) (f := ⟨b, [], [⟨0, b, false⟩]⟩) rfl
theorem ok4 (b : List Int) (hb : b.length ≤ 500) : (s4 b).Ok := syncd_ok (ok3 b hb)
end Go.Proofs.YtpcfnkmljchiiaaGreatDoor.DSs
end
section
/- Each act keeps the disk sound, and file 0 alone. -/
namespace Go.Proofs.YtpcfnkmljchiiaaGreatDoor.DAc
open Go Go.RowKit DPl DOk DOk2 DSu DCra DCrc DSyn DSd DCr DCh2 DOps DFil Right DRen
variable {D : Dsk} {k : List UInt8} {b : List Int}
theorem askD_right {s : ByteArray} (h : askD D s = none) : s.size ≤ 24 := (askD_none h).1
theorem le_sum : ∀ (l : List Nat) (x : Nat), x ∈ l → x ≤ l.sum
  | y :: r, x, h => by
    rw [List.sum_cons]
    rcases List.mem_cons.1 h with h1 | h1
    · omega
    · have := le_sum r x h1
      omega
theorem used_ge {s : List UInt8} {i : Nat} {f : Fil} (hh : hasN D.now s = true) (hi : atN D.now s = i) (hf : D.files[i]? = some f) : f.now.length ≤ usedD D := by
  unfold hasN at hh
  unfold atN at hi
  obtain ⟨q, hq1, hq2⟩ := List.any_eq_true.1 hh
  cases hx : D.now.find? (fun p => p.1 == s) with
  | none => exact absurd hq2 (by simpa using List.find?_eq_none.1 hx q hq1)
  | some p =>
    rw [hx] at hi
    have hi : p.2 = i := hi
    have hm := List.mem_of_find?_eq_some hx
    unfold usedD usedL
    refine le_sum _ _ (List.mem_map.2 ⟨p, hm, ?_⟩)
    rw [hi, Int.toNat_natCast, hf]
/-- A change that finds room stays small. -/
theorem small_go {f : Fil} (hk : D.Ok) (hf : f ∈ D.files) (hu : f.now.length ≤ usedD D) (c : Chg) (hn : ¬noRoom D f c) : (c.go f.now).length ≤ 1073741824 := by
  have h1 := (hk.fil f hf).nowL
  have h2 := hk.quota1
  unfold noRoom at hn
  omega
theorem go_ge (c : Chg) (l : List Int) (hc : c.pos ≤ l.length) (hcut : c.cut = false) : c.pos + c.b.length ≤ (c.go l).length := by
  unfold Chg.go
  rw [if_neg (by simp [hcut])]
  simp
  omega
end Go.Proofs.YtpcfnkmljchiiaaGreatDoor.DAc
end
