/- Steps towards RDiskSure: DSu. -/
import Derived.Test.YtpcfnkmljchiiaaDoorZ24
/- What is sure stays: plainly. -/
namespace Go.Proofs.YtpcfnkmljchiiaaDoor.DSu
open Go Go.RowKit Go.Proofs.YtpcfnkmljchiiaaDoor.DPl Go.Proofs.YtpcfnkmljchiiaaDoor.DOk Go.Proofs.YtpcfnkmljchiiaaDoor.DCra Go.Proofs.YtpcfnkmljchiiaaDoor.DCrc Go.Proofs.YtpcfnkmljchiiaaDoor.DSyn Go.Proofs.YtpcfnkmljchiiaaDoor.DFil
set_option linter.unusedVariables false
set_option linter.unusedSimpArgs false
def key (k : List UInt8) (N : Nms) : Option (List UInt8 × Int) := N.find? fun p => p.1 == k
theorem key_ins (k : List UInt8) (x : List UInt8 × Int) (hx : x.1 ≠ k) : ∀ N : Nms, key k (insN x N) = key k N
  | [] => by simp [key, insN, hx]
  | y :: r => by
    unfold insN
    split
    · simp [key, hx]
    · have := key_ins k x hx r
      unfold key at this ⊢
      simp only [List.find?_cons]
      rw [this]
theorem key_del (k g : List UInt8) (hg : g ≠ k) : ∀ N : Nms, key k (delN N g) = key k N
  | [] => rfl
  | y :: r => by
    have := key_del k g hg r
    unfold key delN at this ⊢
    by_cases hy : y.1 = g
    · rw [List.filter_cons_of_neg (by simp [hy]), this, List.find?_cons]
      have : (y.1 == k) = false := by rw [hy]; simpa using hg
      rw [this]
    · rw [List.filter_cons_of_pos (by simpa using hy)]
      simp only [List.find?_cons]
      rw [this]
theorem key_go (k : List UInt8) (e : Ent) (N : Nms) (h1 : e.name.data.toList ≠ k) (h2 : e.gone.data.toList ≠ k) : key k (e.go N) = key k N := by
  unfold Ent.go
  split
  · rw [putN, key_ins _ _ h1, key_del _ _ h1, key_del _ _ h2]
  · rw [key_del _ _ h2]
theorem key_goAll (k : List UInt8) : ∀ (l : List Ent) (N : Nms), (∀ e ∈ l, e.name.data.toList ≠ k ∧ e.gone.data.toList ≠ k) → key k (goAll N l) = key k N
  | [], _, _ => rfl
  | e :: r, N, h => by
    have h1 := h e List.mem_cons_self
    show key k (goAll (e.go N) r) = _
    rw [key_goAll k r (e.go N) (fun x hx => h x (List.mem_cons_of_mem _ hx)), key_go k e N h1.1 h1.2]
/-- File 0 is sure under a name that no open step touches. -/
structure Keeps (D : Dsk) (k : List UInt8) (b : List Int) : Prop where
  file : D.files[0]? = some ⟨b, b, []⟩
  sure : key k D.sure = some (k, 0)
  opn : ∀ e ∈ D.opn, e.name.data.toList ≠ k ∧ e.gone.data.toList ≠ k
theorem Keeps.now {D : Dsk} {k : List UInt8} {b : List Int} (h : Keeps D k b) (hk : D.Ok) : key k D.now = some (k, 0) := by rw [hk.nowE, key_goAll k _ _ h.opn, h.sure]
theorem Keeps.crash {D : Dsk} {k : List UInt8} {b : List Int} (h : Keeps D k b) (l : List Int) : Keeps (crashD D l) k b ∧ key k (crashD D l).now = some (k, 0) := by
  have hN : key k (goAll D.sure (D.opn.take (ofK l D.opn.length))) = some (k, 0) := by
    rw [key_goAll k _ _ (fun e he => h.opn e (List.mem_of_mem_take he)), h.sure]
  refine ⟨⟨?_, hN, fun e he => ?_⟩, hN⟩
  · obtain ⟨r, hr⟩ : ∃ r, D.files = ⟨b, b, []⟩ :: r := by
      have h0 := h.file
      cases hf : D.files with
      | nil => rw [hf] at h0; simp at h0
      | cons f r => rw [hf] at h0; simp at h0; exact ⟨r, by rw [h0]⟩
    show (sweepFs (crashFs D.files l.tail) _)[0]? = _
    rw [hr, crashFs_nil rfl]
    unfold sweepFs
    have hany : (goAll D.sure (D.opn.take (ofK l D.opn.length))).any (fun p => p.2 == ((0 : Nat) : Int)) = true := by
      rw [List.any_eq_true]
      exact ⟨(k, 0), List.mem_of_find?_eq_some hN, rfl⟩
    simp only [List.mapIdx_cons, List.getElem?_cons_zero]
    rw [if_pos hany]
  · have he : e ∈ ([] : List Ent) := he
    simp at he
/-- So it is read behind a crash. -/
theorem Keeps.read {D : Dsk} {s : ByteArray} {b : List Int} (h : Keeps D s.data.toList b) (l : List Int) : readD (crashD D l) s = b ∧ hasN (crashD D l).now s.data.toList = true ∧ (crashD D l).off = false := by
  obtain ⟨h1, h2⟩ := h.crash l
  have ha : atN (crashD D l).now s.data.toList = 0 := by
    unfold atN
    unfold key at h2
    rw [h2]
  refine ⟨?_, ?_, rfl⟩
  · unfold readD
    rw [ha]
    show (match (crashD D l).files[0]? with | some f => f.now | none => []) = b
    rw [h1.file]
  · unfold hasN
    rw [List.any_eq_true]
    exact ⟨_, List.mem_of_find?_eq_some h2, by simp⟩
/-- Besides, no other name and no open step means file 0. -/
structure Alone (D : Dsk) (k : List UInt8) (b : List Int) : Prop where
  keeps : Keeps D k b
  only : ∀ p ∈ D.sure, p.2 = 0 → p.1 = k
  file : ∀ e ∈ D.opn, e.file ≠ 0
theorem Alone.now {D : Dsk} {k : List UInt8} {b : List Int} (h : Alone D k b) (hk : D.Ok) {s : List UInt8} (hs : s ≠ k) (hh : hasN D.now s = true) : atN D.now s ≠ 0 := by
  unfold hasN at hh
  unfold atN
  obtain ⟨q, hq1, hq2⟩ := List.any_eq_true.1 hh
  cases hf : D.now.find? (fun p => p.1 == s) with
  | none => exact absurd hq2 (by simpa using List.find?_eq_none.1 hf q hq1)
  | some p =>
    have hm := List.mem_of_find?_eq_some hf
    have hp : p.1 = s := by simpa using List.find?_some hf
    rw [hk.nowE] at hm
    intro h0
    have h0 : p.2 = 0 := h0
    rcases mem_goAll _ _ p hm with h1 | ⟨e, h1, h2, _⟩
    · exact hs (hp.symm.trans (h.only p h1 h0))
    · exact h.file e h1 (by omega)
theorem Alone.add {D : Dsk} {k : List UInt8} {b : List Int} (h : Alone D k b) (e : Ent) (h1 : e.name.data.toList ≠ k) (h2 : e.gone.data.toList ≠ k) (h3 : e.file ≠ 0) : Alone (addE (stepD D) e) k b :=
  ⟨⟨h.keeps.file, h.keeps.sure, fun x hx => by
    rcases List.mem_append.1 (show x ∈ D.opn ++ [e] from hx) with h4 | h4
    · exact h.keeps.opn x h4
    · obtain rfl := List.mem_singleton.1 h4
      exact ⟨h1, h2⟩⟩, h.only, fun x hx => by
    rcases List.mem_append.1 (show x ∈ D.opn ++ [e] from hx) with h4 | h4
    · exact h.file x h4
    · obtain rfl := List.mem_singleton.1 h4
      exact h3⟩
theorem Alone.made {D : Dsk} {k : List UInt8} {b : List Int} (h : Alone D k b) (s : ByteArray) (h1 : s.data.toList ≠ k) (h2 : k ≠ []) : Alone (madeD D s) k b := by
  have hl : D.files.length ≠ 0 := fun e => by
    have := h.keeps.file
    rw [List.getElem?_eq_none (by omega)] at this
    cases this
  have h4 := h.add ⟨s, (⟨#[]⟩ : ByteArray), D.files.length⟩ h1 (fun e => h2 (by simpa using e.symm)) (by simp only; omega)
  refine ⟨⟨?_, h4.keeps.sure, h4.keeps.opn⟩, h4.only, h4.file⟩
  show (D.files ++ [⟨[], [], []⟩])[0]? = _
  rw [List.getElem?_append_left (by omega)]
  exact h.keeps.file
theorem Alone.set {D : Dsk} {k : List UInt8} {b : List Int} (h : Alone D k b) (i : Nat) (hi : i ≠ 0) (f : Fil) : Alone (setF (stepD D) i f) k b := by
  refine ⟨⟨?_, h.keeps.sure, h.keeps.opn⟩, h.only, h.file⟩
  show (D.files.set i f)[0]? = _
  rw [List.getElem?_set_ne hi]
  exact h.keeps.file
theorem Alone.syncd {D : Dsk} {k : List UInt8} {b : List Int} (h : Alone D k b) (hk : D.Ok) : Alone { stepD D with sure := D.now, opn := [] } k b := by
  refine ⟨⟨h.keeps.file, h.keeps.now hk, fun e he => by simp at he⟩, fun p hp h0 => ?_, fun e he => by simp at he⟩
  have hp : p ∈ D.now := hp
  rw [hk.nowE] at hp
  rcases mem_goAll _ _ p hp with h1 | ⟨e, h1, h2, _⟩
  · exact h.only p h1 h0
  · exact absurd (by omega) (h.file e h1)
theorem Alone.off {D : Dsk} {k : List UInt8} {b : List Int} (h : Alone D k b) : Alone (offD D) k b := ⟨⟨h.keeps.file, h.keeps.sure, h.keeps.opn⟩, h.only, h.file⟩
theorem Alone.crash {D : Dsk} {k : List UInt8} {b : List Int} (h : Alone D k b) (l : List Int) : Alone (crashD D l) k b := by
  refine ⟨(h.keeps.crash l).1, fun p hp h0 => ?_, fun e he => ?_⟩
  · rcases mem_goAll _ _ p (show p ∈ goAll D.sure (D.opn.take (ofK l D.opn.length)) from hp) with h1 | ⟨e, h1, h2, _⟩
    · exact h.only p h1 h0
    · exact absurd (by omega) (h.file e (List.mem_of_mem_take h1))
  · have he : e ∈ ([] : List Ent) := he
    simp at he
end Go.Proofs.YtpcfnkmljchiiaaDoor.DSu
