/- Steps towards RDiskAll: DAk, DRgt, DAlp. -/
import Derived.Test.YtpcfnkmljchiiaaGreatDoorZ41
set_option linter.unusedVariables false
set_option linter.unusedSimpArgs false
section
/- Each act keeps the disk sound, and its power on where nobody armed it. -/
namespace Go.Proofs.YtpcfnkmljchiiaaGreatDoor.DAk
open Go Go.RowKit DPl DOk DOk2 DCra DCrc DSyn DSd DCr DCh2 DOps DFil Right DRen DAc DRpa GPl
def Live (D : Dsk) : Prop := D.armed = -1 ∧ D.off = false
/-- Sound, live, one step more at most. -/
structure Kp (D D' : Dsk) : Prop where
  ok : D'.Ok
  live : Live D → Live D'
  steps : D'.steps ≤ D.steps + 1
variable {D : Dsk}
theorem live_step (h : Live D) : Live (stepD D) := by
  refine ⟨?_, h.2⟩
  show (if 0 < D.armed then D.armed - 1 else D.armed) = -1
  rw [h.1]
  rfl
theorem kp_same (hk : D.Ok) : Kp D D := ⟨hk, id, by omega⟩
theorem kp_off (hk : D.Ok) (h0 : D.armed = 0) : Kp D (offD D) := ⟨offD_ok hk, fun h => absurd h.1 (by omega), by show D.steps ≤ _; omega⟩
theorem kp_named (hk : D.Ok) (e : Ent) (h0 : -1 ≤ e.file) (h1 : e.file < D.files.length) (hn : e.name.size ≤ 24) (hg : e.gone.size ≤ 24) : Kp D (namedD D e).2 := by
  unfold namedD
  split
  · rename_i h
    exact kp_off hk h
  · exact ⟨addE_ok hk e h0 h1 hn hg, fun h => live_step h, by show D.steps + 1 ≤ _; omega⟩
theorem kp_create (hk : D.Ok) (s : ByteArray) : Kp D (createD D s).2 := by
  unfold createD
  cases hq : askD D s with
  | some c => exact kp_same hk
  | none =>
    simp only []
    split
    · exact kp_same hk
    · split
      · exact kp_same hk
      · by_cases h0 : D.armed = 0
        · rw [show namedD D ⟨s, (⟨#[]⟩ : ByteArray), D.files.length⟩ = (some 8, offD D) by unfold namedD; rw [if_pos h0]]
          exact kp_off hk h0
        · rw [show namedD D ⟨s, (⟨#[]⟩ : ByteArray), D.files.length⟩ = (none, addE (stepD D) ⟨s, (⟨#[]⟩ : ByteArray), D.files.length⟩) by unfold namedD; rw [if_neg h0]]
          exact ⟨madeD_ok hk s (askD_right hq), fun h => live_step h, by show D.steps + 1 ≤ _; omega⟩
/-- An act on a file. -/
theorem kp_op (hk : D.Ok) (s : ByteArray) (K : Nat → Fil → Option Int × Dsk) (h : ∀ i f, D.files[i]? = some f → s.size ≤ 24 → f.now.length ≤ usedD D → Kp D (K i f).2) : Kp D (fileOp D s K).2 := by
  unfold fileOp
  cases hq : fileE D s with
  | some c => exact kp_same hk
  | none =>
    obtain ⟨h1, h2⟩ := fileE_none hq
    obtain ⟨i, hi, hl⟩ := atN_lt hk h2
    simp only []
    have hu := used_ge h2 hi (List.getElem?_eq_getElem hl)
    rw [hi]
    simp only [Int.toNat_natCast]
    rw [List.getElem?_eq_getElem hl]
    exact h i _ (List.getElem?_eq_getElem hl) (askD_right h1) hu
theorem kp_sync (hk : D.Ok) (s : ByteArray) : Kp D (syncD D s).2 := by
  refine kp_op hk s _ (fun i f hf _ _ => ?_)
  split
  · rename_i h
    exact kp_off hk h
  · exact ⟨synced_ok hk hf, fun h => live_step h, by show D.steps + 1 ≤ _; omega⟩
theorem kp_syncDir (hk : D.Ok) : Kp D (syncDirD D).2 := by
  unfold syncDirD
  split
  · exact kp_same hk
  · split
    · rename_i h
      exact kp_off hk h
    · exact ⟨syncd_ok hk, fun h => live_step h, by show D.steps + 1 ≤ _; omega⟩
theorem kp_remove (hk : D.Ok) (s : ByteArray) : Kp D (removeD D s).2 :=
  kp_op hk s _ (fun i f hf h24 _ => kp_named hk ⟨ByteArray.empty, s, -1⟩ (by simp only; omega) (by simp only; omega) (by simp only; decide) h24)
theorem kp_crash (hk : D.Ok) (l : List Int) : Kp D (crashD D l) := ⟨crashD_ok hk l, fun _ => ⟨rfl, rfl⟩, by show D.steps ≤ _; omega⟩
theorem kp_change (hk : D.Ok) (i : Nat) (f : Fil) (hf : D.files[i]? = some f) (hu : f.now.length ≤ usedD D) (c : Chg) (hc : c.pos ≤ f.now.length) (h1 : c.cut = true → c.b = []) : Kp D (changedD D i f c).2 := by
  have hm := List.mem_of_getElem? hf
  unfold changedD
  split
  · exact kp_same hk
  · rename_i hn
    have h2 := small_go hk hm hu c hn
    split
    · rename_i h
      exact kp_off hk h
    · refine ⟨grown_ok hk hf c hc ?_ h2, fun h => live_step h, by show D.steps + 1 ≤ _; omega⟩
      cases hcut : c.cut with
      | false =>
        have := go_ge c f.now hc hcut
        omega
      | true =>
        rw [h1 hcut]
        have := (hk.fil f hm).nowL
        simp
        omega
theorem kp_append (hk : D.Ok) (s : ByteArray) (x : List Int) : Kp D (appendD D s x).2 :=
  kp_op hk s _ (fun i f hf _ hu => kp_change hk i f hf hu _ (Nat.le_refl _) (fun h => by simp at h))
theorem kp_write (hk : D.Ok) (s : ByteArray) (n : Int) (x : List Int) : Kp D (writeD D s n x).2 := by
  refine kp_op hk s _ (fun i f hf _ hu => ?_)
  split
  · exact kp_same hk
  · exact kp_change hk i f hf hu _ (by simp only; omega) (fun h => by simp at h)
theorem kp_trunc (hk : D.Ok) (s : ByteArray) (n : Int) : Kp D (truncD D s n).2 := by
  refine kp_op hk s _ (fun i f hf _ hu => ?_)
  split
  · exact kp_same hk
  · exact kp_change hk i f hf hu _ (by simp only; omega) (fun h => rfl)
theorem kp_rename (hk : D.Ok) (s t : ByteArray) : Kp D (renameD D s t).2 := by
  unfold renameD
  cases hq : ask2D D s t with
  | some c => exact kp_same hk
  | none =>
    obtain ⟨h1, h2⟩ := ask2_none hq
    simp only []
    by_cases hn : hasN D.now s.data.toList = true
    · rw [if_pos hn]
      obtain ⟨i, hi, hl⟩ := atN_lt hk hn
      exact kp_named hk _ (by simp only; omega) (by simp only; omega) h2 h1
    · rw [if_neg hn]
      exact kp_same hk
theorem kp_quota (hk : D.Ok) (n : Int) : Kp D (setQuotaD D n).2 := by
  unfold setQuotaD
  split
  · exact kp_same hk
  · exact ⟨⟨hk.nowF, hk.sureF, hk.opnF, hk.nowE, hk.fil, by show 0 ≤ n; omega, by show n ≤ 1073741824; omega, hk.armed0, hk.armed1, hk.steps0, hk.cntF, hk.cntN⟩, id, by show D.steps ≤ _; omega⟩
/-- An act that is no arming. -/
theorem kp_act (hk : D.Ok) (o : S35) (h10 : o.f0 ≠ 10) : Kp D (actD o D) := by
  unfold actD
  split
  · exact kp_create hk _
  split
  · exact kp_append hk _ _
  split
  · exact kp_write hk _ _ _
  split
  · exact kp_trunc hk _ _
  split
  · exact kp_rename hk _ _
  split
  · exact kp_remove hk _
  split
  · exact kp_sync hk _
  split
  · exact kp_syncDir hk
  split
  · exact kp_quota hk _
  split
  · exact kp_crash hk _
  · exact kp_same hk
end Go.Proofs.YtpcfnkmljchiiaaGreatDoor.DAk
end
section
/- The names that a disk bears are right ones. -/
namespace Go.Proofs.YtpcfnkmljchiiaaGreatDoor.DRgt
open Go Go.RowKit DPl DOk DOk2 DCra DCrc DSyn DSd DCr DCh2 DOps DFil Right DRen DRl DRdp DRpa GPl
def Rt (q : List UInt8) : Prop := rightB (nmS q) = true
theorem mem_go2 {e : Ent} {N : Nms} {p : List UInt8 × Int} (h : p ∈ e.go N) : p ∈ N ∨ (p.1 = e.name.data.toList ∧ 0 ≤ e.file) := by
  unfold Ent.go at h
  split at h
  · rw [putN, mem_insN] at h
    rcases h with h | h
    · right; rw [h]; exact ⟨rfl, by assumption⟩
    · exact .inl (mem_delN (mem_delN h))
  · exact .inl (mem_delN h)
theorem mem_goAll2 : ∀ (l : List Ent) (N : Nms) (p : List UInt8 × Int), p ∈ goAll N l → p ∈ N ∨ ∃ e ∈ l, p.1 = e.name.data.toList ∧ 0 ≤ e.file
  | [], N, p, h => .inl h
  | e :: r, N, p, h => by
    rcases mem_goAll2 r (e.go N) p h with h1 | ⟨e1, h1, h2⟩
    · rcases mem_go2 h1 with h3 | h3
      · exact .inl h3
      · exact .inr ⟨e, by simp, h3⟩
    · exact .inr ⟨e1, by simp [h1], h2⟩
structure Rights (D : Dsk) : Prop where
  sure : ∀ p ∈ D.sure, Rt p.1
  opn : ∀ e ∈ D.opn, 0 ≤ e.file → Rt e.name.data.toList
variable {D : Dsk}
theorem rights_all {N : Nms} {l : List Ent} (h1 : ∀ p ∈ N, Rt p.1) (h2 : ∀ e ∈ l, 0 ≤ e.file → Rt e.name.data.toList) : ∀ p ∈ goAll N l, Rt p.1 := fun p hp => by
  rcases mem_goAll2 _ _ _ hp with h | ⟨e, he, hn, h0⟩
  · exact h1 p h
  · rw [hn]
    exact h2 e he h0
theorem Rights.now (h : Rights D) (hk : D.Ok) : ∀ p ∈ D.now, Rt p.1 := by
  rw [hk.nowE]
  exact rights_all h.sure h.opn
theorem Rights.file (h : Rights D) (hk : D.Ok) (ho : D.off = false) {q : List UInt8 × Int} (hq : q ∈ D.now) : fileE D (nmS q.1) = none ∧ hasN D.now (nmS q.1).data.toList = true := by
  have h1 : hasN D.now (nmS q.1).data.toList = true := by
    unfold hasN
    exact List.any_eq_true.2 ⟨q, hq, by show (q.1 == q.1) = true; simp⟩
  refine ⟨?_, h1⟩
  unfold fileE askD
  rw [ho, show rightB (nmS q.1) = true from h.now hk q hq, h1]
  rfl
theorem rights_add (h : Rights D) (e : Ent) (he : 0 ≤ e.file → Rt e.name.data.toList) : Rights (addE (stepD D) e) := by
  refine ⟨h.sure, fun x hx => ?_⟩
  have hx : x ∈ D.opn ++ [e] := hx
  rcases List.mem_append.1 hx with hx | hx
  · exact h.opn x hx
  · obtain rfl : x = e := by simpa using hx
    exact he
theorem rights_named (h : Rights D) (e : Ent) (he : 0 ≤ e.file → Rt e.name.data.toList) : Rights (namedD D e).2 := by
  unfold namedD
  split
  · exact ⟨h.sure, h.opn⟩
  · exact rights_add h e he
theorem rt_of {s : ByteArray} (h : rightB s = true) : Rt s.data.toList := by
  unfold Rt
  rw [nmS_data]
  exact h
theorem rights_create (h : Rights D) (s : ByteArray) : Rights (createD D s).2 := by
  unfold createD
  cases hq : askD D s with
  | some c => exact h
  | none =>
    simp only []
    split
    · exact h
    · split
      · exact h
      · have h2 := rights_named h ⟨s, (⟨#[]⟩ : ByteArray), D.files.length⟩ (fun _ => rt_of (askD_none hq).2.1)
        split
        · rename_i hq2
          rw [hq2] at h2
          exact h2
        · rename_i hq2
          rw [hq2] at h2
          exact ⟨h2.sure, h2.opn⟩
theorem rights_op (h : Rights D) (s : ByteArray) (K : Nat → Fil → Option Int × Dsk) (hK : ∀ i f, Rights (K i f).2) : Rights (fileOp D s K).2 := by
  unfold fileOp
  cases hq : fileE D s with
  | some c => exact h
  | none =>
    simp only []
    split
    · exact hK _ _
    · exact h
theorem rights_changed (h : Rights D) (i : Nat) (f : Fil) (c : Chg) : Rights (changedD D i f c).2 := by
  unfold changedD
  split
  · exact h
  · split
    · exact ⟨h.sure, h.opn⟩
    · exact ⟨h.sure, h.opn⟩
theorem rights_act (hk : D.Ok) (h : Rights D) (o : S35) : Rights (actD o D) := by
  unfold actD
  split
  · exact rights_create h _
  split
  · exact rights_op h _ _ (fun i f => rights_changed h i f _)
  split
  · exact rights_op h _ _ (fun i f => by
      split
      · exact h
      · exact rights_changed h i f _)
  split
  · exact rights_op h _ _ (fun i f => by
      split
      · exact h
      · exact rights_changed h i f _)
  split
  · unfold renameD
    cases hq : ask2D D o.f2 o.f3 with
    | some c => exact h
    | none =>
      simp only []
      split
      · refine rights_named h _ (fun _ => ?_)
        unfold ask2D at hq
        split at hq
        · cases hq
        · split at hq
          · rename_i h1
            exact rt_of h1.2
          · cases hq
      · exact h
  split
  · exact rights_op h _ _ (fun _ _ => rights_named h _ (fun h0 => absurd (show (0 : Int) ≤ -1 from h0) (by decide)))
  split
  · exact rights_op h _ _ (fun i f => by
      split
      · exact ⟨h.sure, h.opn⟩
      · exact ⟨h.sure, h.opn⟩)
  split
  · unfold syncDirD
    split
    · exact h
    · split
      · exact ⟨h.sure, h.opn⟩
      · exact ⟨h.now hk, fun e he => by cases he⟩
  split
  · unfold setQuotaD
    split
    · exact h
    · exact ⟨h.sure, h.opn⟩
  split
  · exact ⟨h.sure, h.opn⟩
  split
  · exact ⟨rights_all h.sure (fun e he => h.opn e (List.mem_of_mem_take he)), fun e he => by cases he⟩
  · exact h
end Go.Proofs.YtpcfnkmljchiiaaGreatDoor.DRgt
end
section
/- DiskAll, plainly: a loss of power in which every open step stays changes nothing. -/
namespace Go.Proofs.YtpcfnkmljchiiaaGreatDoor.DAlp
open Go Go.RowKit DPl DOk DOk2 DCra DCrc DSyn DSd DCr DCh2 DOps DFil
/-- The number of each file's open steps, of those that have some. -/
def keepsL (fs : List Fil) : List Int := (fs.filter fun f => !f.opn.isEmpty).map fun f => (f.opn.length : Int)
theorem ofK_all (n : Nat) (r : List Int) : ofK ((n : Int) :: r) n = n := by
  unfold ofK
  show ((max (n : Int) 0) % ((n : Int) + 1)).toNat = n
  rw [show max (n : Int) 0 = n by omega, Int.emod_eq_of_lt (by omega) (by omega)]
  exact Int.toNat_natCast n
theorem crashF_all (f : Fil) (hf : f.now = chgAll f.sure f.opn) (r : List Int) : crashF f ((f.opn.length : Int) :: r) = (f.now, r) := by
  unfold crashF
  rw [ofK_all]
  simp only [List.take_length]
  rw [List.getElem?_eq_none (Nat.le_refl _), hf]
  rfl
theorem crashFs_all : ∀ fs : List Fil, (∀ f ∈ fs, f.now = chgAll f.sure f.opn) → crashFs fs (keepsL fs) = fs.map fun f => ⟨f.now, f.now, []⟩
  | [], _ => rfl
  | f :: r, h => by
    have ih := crashFs_all r (fun g hg => h g (List.mem_cons_of_mem _ hg))
    have hf := h f (List.mem_cons_self ..)
    rw [crashFs, List.map_cons]
    by_cases ho : f.opn = []
    · rw [if_pos ho, show keepsL (f :: r) = keepsL r by unfold keepsL; rw [List.filter_cons_of_neg (by simp [ho])], ih]
      congr 1
      obtain ⟨a, b, c⟩ := f
      simp only at ho hf
      subst ho
      rw [show a = b from hf]
    · rw [if_neg ho, show keepsL (f :: r) = (f.opn.length : Int) :: keepsL r by unfold keepsL; rw [List.filter_cons_of_pos (by simpa using ho)]; rfl, crashF_all f hf, ih]
theorem crash_all {D : Dsk} (hk : D.Ok) : (crashD D ((D.opn.length : Int) :: keepsL D.files)).now = D.now ∧ ∀ s : ByteArray, hasN D.now s.data.toList = true → readD (crashD D ((D.opn.length : Int) :: keepsL D.files)) s = readD D s := by
  have hn : (crashD D ((D.opn.length : Int) :: keepsL D.files)).now = D.now := by
    show goAll D.sure (D.opn.take (ofK _ _)) = D.now
    rw [ofK_all, List.take_length, hk.nowE]
  refine ⟨hn, fun s hs => ?_⟩
  obtain ⟨i, hi, hl⟩ := atN_lt hk hs
  have hf : (crashD D ((D.opn.length : Int) :: keepsL D.files)).files = sweepFs (D.files.map fun f => ⟨f.now, f.now, []⟩) D.now := by
    show sweepFs (crashFs D.files (keepsL D.files)) (goAll D.sure (D.opn.take (ofK _ _))) = _
    rw [ofK_all, List.take_length, ← hk.nowE, crashFs_all _ (fun f hf => (hk.fil f hf).now)]
  have ha : D.now.any (fun p => p.2 == (i : Int)) = true := by
    unfold hasN at hs
    unfold atN at hi
    obtain ⟨q, hq1, hq2⟩ := List.any_eq_true.1 hs
    cases hx : D.now.find? (fun p => p.1 == s.data.toList) with
    | none => exact absurd hq2 (by simpa using List.find?_eq_none.1 hx q hq1)
    | some p =>
      rw [hx] at hi
      have hi : p.2 = i := hi
      exact List.any_eq_true.2 ⟨p, List.mem_of_find?_eq_some hx, by simp [hi]⟩
  unfold readD
  rw [hn, hi, hf, Int.toNat_natCast, List.getElem?_eq_getElem hl]
  unfold sweepFs
  rw [List.getElem?_mapIdx, List.getElem?_map, List.getElem?_eq_getElem hl]
  simp only [Option.map_some]
  rw [if_pos ha]
theorem keepsL_opn : ∀ (l l' : List Fil), l.map (fun f => f.opn.length) = l'.map (fun f => f.opn.length) → keepsL l = keepsL l'
  | [], [], _ => rfl
  | [], _ :: _, h => by simp at h
  | _ :: _, [], h => by simp at h
  | f :: r, g :: s, h => by
    simp only [List.map_cons, List.cons.injEq] at h
    have ih := keepsL_opn r s h.2
    by_cases ho : f.opn = []
    · have hg : g.opn = [] := List.eq_nil_of_length_eq_zero (by rw [← h.1, ho]; rfl)
      unfold keepsL at ih ⊢
      rw [List.filter_cons_of_neg (by simp [ho]), List.filter_cons_of_neg (by simp [hg])]
      exact ih
    · have hg : g.opn ≠ [] := fun e => ho (List.eq_nil_of_length_eq_zero (by rw [h.1, e]; rfl))
      unfold keepsL at ih ⊢
      rw [List.filter_cons_of_pos (by simpa using ho), List.filter_cons_of_pos (by simpa using hg), List.map_cons, List.map_cons, ih, h.1]
theorem keeps_rel {D : Dsk} {G : List Fil} (h : DRel.FRel D G) : keepsL G = keepsL D.files := by
  refine keepsL_opn _ _ ?_
  apply List.ext_getElem?
  intro i
  rw [List.getElem?_map, List.getElem?_map]
  by_cases hi : i < D.files.length
  · have hg : i < G.length := by rw [h.len]; exact hi
    rw [List.getElem?_eq_getElem hi, List.getElem?_eq_getElem hg]
    rcases h.file i _ _ (List.getElem?_eq_getElem hi) (List.getElem?_eq_getElem hg) with e | ⟨_, e1, e2, _, _⟩
    · rw [e]
    · simp [e1, e2]
  · rw [List.getElem?_eq_none (by rw [h.len]; omega), List.getElem?_eq_none (by omega)]
end Go.Proofs.YtpcfnkmljchiiaaGreatDoor.DAlp
end
