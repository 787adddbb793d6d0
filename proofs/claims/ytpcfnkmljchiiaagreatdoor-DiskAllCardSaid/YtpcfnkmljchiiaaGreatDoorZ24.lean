/- Steps towards RDiskAll: DOk2. -/
import Derived.Test.YtpcfnkmljchiiaaGreatDoorZ23
set_option linter.unusedVariables false
set_option linter.unusedSimpArgs false
/- What the other acts leave is sound again. -/
namespace Go.Proofs.YtpcfnkmljchiiaaGreatDoor.DOk2
open Go Go.RowKit DPl DOk DCra DCrc
theorem offD_ok {D : Dsk} (h : D.Ok) : (offD D).Ok := ⟨h.nowF, h.sureF, h.opnF, h.nowE, h.fil, h.quota0, h.quota1, h.armed0, h.armed1, h.steps0, h.cntF, h.cntN⟩
theorem addE_ok {D : Dsk} (h : D.Ok) (e : Ent) (h0 : -1 ≤ e.file) (h1 : e.file < D.files.length) (hn : e.name.size ≤ 24) (hg : e.gone.size ≤ 24) : (addE (stepD D) e).Ok := by
  obtain ⟨ha0, ha1⟩ := armed_step h
  have hst := h.steps0
  refine ⟨fun p hp => ?_, h.sureF, fun x hx => ?_, ?_, fun f hf => fil_mono (h.fil f hf) (show D.steps ≤ D.steps + 1 by omega), h.quota0, h.quota1, ha0, ha1, ?_, ?_, ?_⟩
  · have hp : p ∈ e.go D.now := hp
    rcases mem_go hp with h2 | ⟨h2, h3⟩
    · exact h.nowF p h2
    · show 0 ≤ p.2 ∧ p.2 < (D.files.length : Int)
      omega
  · have hx : x ∈ D.opn ++ [e] := hx
    rcases List.mem_append.1 hx with h2 | h2
    · exact h.opnF x h2
    · obtain rfl := List.mem_singleton.1 h2
      exact ⟨h0, h1, hn, hg⟩
  · show e.go D.now = goAll D.sure (D.opn ++ [e])
    rw [goAll_snoc, ← h.nowE]
  · show 0 ≤ D.steps + 1; omega
  · have := h.cntF
    show (D.files.length : Int) ≤ D.steps + 1
    omega
  · show (D.sure.length : Int) + ((D.opn ++ [e]).length : Nat) ≤ D.steps + 1
    have := h.cntN
    rw [List.length_append]
    simp
    omega
theorem synced_ok {D : Dsk} (h : D.Ok) {i : Nat} {f : Fil} (hf : D.files[i]? = some f) : (setF (stepD D) i ⟨f.now, f.now, []⟩).Ok := by
  obtain ⟨ha0, ha1⟩ := armed_step h
  have hst := h.steps0
  have hfo := h.fil f (List.mem_of_getElem? hf)
  have hl : (setF (stepD D) i ⟨f.now, f.now, []⟩).files.length = D.files.length := by simp [setF, stepD]
  refine ⟨fun p hp => ?_, fun p hp => ?_, fun e he => ?_, h.nowE, fun g hg => ?_, h.quota0, h.quota1, ha0, ha1, ?_, ?_, ?_⟩
  · rw [hl]; exact h.nowF p hp
  · rw [hl]; exact h.sureF p hp
  · rw [hl]; exact h.opnF e he
  · show g.Ok (D.steps + 1)
    rcases List.mem_or_eq_of_mem_set hg with h3 | h3
    · exact fil_mono (h.fil g h3) (by omega)
    · subst h3
      exact ⟨rfl, trivial, hfo.nowL, by simp, hfo.nowL, by simp; omega⟩
  · show 0 ≤ D.steps + 1; omega
  · rw [hl]
    have := h.cntF
    show (D.files.length : Int) ≤ D.steps + 1
    omega
  · have := h.cntN
    show (D.sure.length : Int) + D.opn.length ≤ D.steps + 1
    omega
theorem len_crashFs : ∀ (fs : List Fil) (l : List Int), (crashFs fs l).length = fs.length
  | [], _ => rfl
  | f :: r, l => by
    unfold crashFs
    split
    · simp [len_crashFs r]
    · simp [len_crashFs r]
theorem len_sweepFs (fs : List Fil) (N : Nms) : (sweepFs fs N).length = fs.length := by simp [sweepFs]
theorem crashF_len {f : Fil} {n : Int} (h : f.Ok n) (l : List Int) : (crashF f l).1.length ≤ 1073741824 := by
  have ht := fun j => len_take f.opn f.sure h.sureL h.opnL j
  unfold crashF
  simp only
  split
  · rename_i c hc
    split
    · exact ht _
    · refine chg_len _ _ _ (ht _) ?_
      have := h.opnL c (List.mem_of_getElem? hc)
      show c.pos + (c.b.take _).length ≤ _
      rw [List.length_take]
      omega
  · exact ht _
/-- Behind a crash each file is sure. -/
theorem mem_crashFs {n : Int} : ∀ (fs : List Fil) (l : List Int), (∀ f ∈ fs, f.Ok n) → ∀ g ∈ crashFs fs l, g.opn = [] ∧ g.now = g.sure ∧ g.sure.length ≤ 1073741824
  | [], _, _, g, hg => by simp [crashFs] at hg
  | f :: r, l, h, g, hg => by
    have hf := h f List.mem_cons_self
    have hr := fun x hx => h x (List.mem_cons_of_mem _ hx)
    unfold crashFs at hg
    split at hg
    · rename_i ho
      rcases List.mem_cons.1 hg with rfl | hg
      · refine ⟨ho, ?_, hf.sureL⟩
        rw [hf.now, ho]
        rfl
      · exact mem_crashFs r l hr g hg
    · rcases List.mem_cons.1 hg with rfl | hg
      · exact ⟨rfl, rfl, crashF_len hf l⟩
      · exact mem_crashFs r _ hr g hg
theorem crashD_ok {D : Dsk} (h : D.Ok) (l : List Int) : (crashD D l).Ok := by
  have hl : (crashD D l).files.length = D.files.length := by
    show (sweepFs _ _).length = _
    rw [len_sweepFs, len_crashFs]
  have hN : ∀ p ∈ goAll D.sure (D.opn.take (ofK l D.opn.length)), 0 ≤ p.2 ∧ p.2 < (D.files.length : Int) := fun p hp => by
    rcases mem_goAll _ _ p hp with h1 | ⟨e, h1, h2, h3⟩
    · exact h.sureF p h1
    · have := h.opnF e (List.mem_of_mem_take h1)
      omega
  have hst := h.steps0
  refine ⟨fun p hp => ?_, fun p hp => ?_, fun e he => ?_, rfl, fun g hg => ?_, h.quota0, h.quota1, (show (-1 : Int) ≤ -1 by decide), (show (-1 : Int) ≤ 9223372036854775807 by decide), hst, ?_, ?_⟩
  · rw [hl]; exact hN p hp
  · rw [hl]; exact hN p hp
  · have he : e ∈ ([] : List Ent) := he
    simp at he
  · show g.Ok D.steps
    have hg : g ∈ sweepFs (crashFs D.files l.tail) _ := hg
    unfold sweepFs at hg
    obtain ⟨i, hi, rfl⟩ := List.mem_mapIdx.1 hg
    obtain ⟨h1, h2, h3⟩ := mem_crashFs D.files l.tail h.fil _ (List.getElem_mem hi)
    split
    · exact ⟨by rw [h1, h2]; rfl, by rw [h1]; trivial, h3, by rw [h1]; simp, by rw [h2]; exact h3, by rw [h1]; simp; omega⟩
    · exact ⟨by rw [h1]; rfl, by rw [h1]; trivial, by simp, by rw [h1]; simp, by simp, by rw [h1]; simp; omega⟩
  · rw [hl]; exact h.cntF
  · show ((goAll D.sure (D.opn.take (ofK l D.opn.length))).length : Int) + ((([] : List Ent)).length : Nat) ≤ D.steps
    have h1 := len_goAll (D.opn.take (ofK l D.opn.length)) D.sure
    have h2 := h.cntN
    rw [List.length_take] at h1
    simp
    omega
end Go.Proofs.YtpcfnkmljchiiaaGreatDoor.DOk2
