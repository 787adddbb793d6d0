/- Steps towards RDiskAll: DRel. -/
import Derived.Test.YtpcfnkmljchiiaaGreatDoorZ24
import Derived.Test.YtpcfnkmljchiiaaGreatDoorZ12
import Derived.Test.YtpcfnkmljchiiaaGreatDoorZ25
set_option linter.unusedVariables false
set_option linter.unusedSimpArgs false
/- The two disks in one line: all the same but the bytes of files that no name means. -/
namespace Go.Proofs.YtpcfnkmljchiiaaGreatDoor.DRel
open Go DPl DOk2 DFil DCh2 DOps DSyn DSd DCr DCra DRen DOk DOpn DDo DUsd
/-- The same disk with other files. -/
def withF (D : Dsk) (G : List Fil) : Dsk := { D with files := G }
/-- Is a file meant by a sure name or by an open step? -/
def Ref (D : Dsk) (i : Nat) : Prop := (∃ p ∈ D.sure, p.2 = (i : Int)) ∨ (∃ e ∈ D.opn, e.file = (i : Int))
structure FRel (D : Dsk) (G : List Fil) : Prop where
  len : G.length = D.files.length
  file : ∀ (i : Nat) (f g : Fil), D.files[i]? = some f → G[i]? = some g → f = g ∨ (¬Ref D i ∧ f = ⟨[], [], []⟩ ∧ g.opn = [] ∧ g.now = g.sure ∧ g.sure.length ≤ 1073741824)
variable {D : Dsk} {G : List Fil}
theorem FRel.refl (D : Dsk) : FRel D D.files := ⟨rfl, fun i f g hf hg => .inl (Option.some.inj (hf.symm.trans hg))⟩
theorem ref_all {N : Nms} {l : List Ent} {p : List UInt8 × Int} (h : p ∈ goAll N l) : (∃ q ∈ N, q.2 = p.2) ∨ (∃ e ∈ l, e.file = p.2) := by
  rcases mem_goAll _ _ _ h with h | ⟨e, h1, h2, h3⟩
  · exact .inl ⟨p, h, rfl⟩
  · exact .inr ⟨e, h1, h2.symm⟩
theorem now_ref (hk : D.Ok) {p : List UInt8 × Int} (hp : p ∈ D.now) {i : Nat} (hi : p.2 = (i : Int)) : Ref D i := by
  rw [hk.nowE] at hp
  rcases ref_all hp with ⟨q, h1, h2⟩ | ⟨e, h1, h2⟩
  · exact .inl ⟨q, h1, h2.trans hi⟩
  · exact .inr ⟨e, h1, h2.trans hi⟩
theorem FRel.same (h : FRel D G) {i : Nat} (hr : Ref D i) : G[i]? = D.files[i]? := by
  cases hf : D.files[i]? with
  | none =>
    rw [List.getElem?_eq_none_iff] at hf ⊢
    rw [h.len]
    exact hf
  | some f =>
    have hi := (List.getElem?_eq_some_iff.1 hf).1
    rw [← h.len] at hi
    have hg := List.getElem?_eq_getElem hi
    rcases h.file i f _ hf hg with e | ⟨e, _⟩
    · rw [hg, e]
    · exact absurd hr e
theorem FRel.mono (h : FRel D G) (D' : Dsk) (hf : D'.files = D.files) (hr : ∀ i, i < D.files.length → Ref D' i → Ref D i) : FRel D' G :=
  ⟨by rw [hf]; exact h.len, fun i f g h1 h2 => by
    rw [hf] at h1
    rcases h.file i f g h1 h2 with e | ⟨e, r⟩
    · exact .inl e
    · exact .inr ⟨fun hh => e (hr i (List.getElem?_eq_some_iff.1 h1).1 hh), r⟩⟩
theorem FRel.set (h : FRel D G) (D' : Dsk) (i : Nat) (f : Fil) (hf : D'.files = D.files.set i f) (h1 : D'.sure = D.sure) (h2 : D'.opn = D.opn) : FRel D' (G.set i f) := by
  refine ⟨by rw [hf, List.length_set, List.length_set]; exact h.len, fun j a b ha hb => ?_⟩
  rw [hf] at ha
  rw [List.getElem?_set] at ha hb
  by_cases e : i = j
  · rw [if_pos e] at ha hb
    split at ha
    · rw [if_pos (by rw [h.len]; assumption)] at hb
      exact .inl ((Option.some.inj ha).symm.trans (Option.some.inj hb))
    · cases ha
  · rw [if_neg e] at ha hb
    have := h.file j a b ha hb
    unfold Ref at this ⊢
    rw [h1, h2]
    exact this
theorem used_with (hk : D.Ok) (h : FRel D G) : usedD (withF D G) = usedD D := by
  unfold usedD usedL withF
  simp only
  congr 1
  apply List.map_congr_left
  intro p hp
  have hp2 := hk.nowF p hp
  rw [h.same (now_ref hk hp (i := p.2.toNat) (by omega))]
theorem ok_with (hk : D.Ok) (h : FRel D G) : (withF D G).Ok := by
  refine ⟨fun p hp => ?_, fun p hp => ?_, fun e he => ?_, hk.nowE, fun g hg => ?_, hk.quota0, hk.quota1, hk.armed0, hk.armed1, hk.steps0, ?_, hk.cntN⟩
  · have := hk.nowF p hp; show 0 ≤ p.2 ∧ p.2 < (G.length : Int); rw [h.len]; exact this
  · have := hk.sureF p hp; show 0 ≤ p.2 ∧ p.2 < (G.length : Int); rw [h.len]; exact this
  · have := hk.opnF e he; show -1 ≤ e.file ∧ e.file < (G.length : Int) ∧ _; rw [h.len]; exact this
  · have hg : g ∈ G := hg
    show g.Ok D.steps
    obtain ⟨i, hi, rfl⟩ := List.mem_iff_getElem.1 hg
    have hi2 : i < D.files.length := by rw [← h.len]; exact hi
    rcases h.file i D.files[i] G[i] (List.getElem?_eq_getElem hi2) (List.getElem?_eq_getElem hi) with e | ⟨_, _, e1, e2, e3⟩
    · rw [← e]; exact hk.fil _ (List.getElem_mem hi2)
    · exact ⟨by rw [e1, e2]; rfl, by rw [e1]; trivial, e3, by rw [e1]; simp, by rw [e2]; exact e3, by rw [e1]; exact hk.steps0⟩
  · show (G.length : Int) ≤ _
    rw [h.len]
    exact hk.cntF
theorem opens_with (h : FRel D G) : opensD (withF D G) = opensD D := by
  unfold opensD opensL withF
  simp only
  congr 2
  apply List.ext_getElem?
  intro i
  rw [List.getElem?_map, List.getElem?_map]
  cases hf : D.files[i]? with
  | none =>
    have : G[i]? = none := by rw [List.getElem?_eq_none_iff] at hf ⊢; rw [h.len]; exact hf
    rw [this]
  | some f =>
    have hi := (List.getElem?_eq_some_iff.1 hf).1
    rw [← h.len] at hi
    have hg := List.getElem?_eq_getElem hi
    rw [hg]
    rcases h.file i f _ hf hg with e | ⟨_, e1, e2, _⟩
    · rw [← e]
    · simp only [Option.map_some, e1, e2]
/-- An act does the same to both. -/
def Par (D : Dsk) (G : List Fil) (X : Dsk → Option Int × Dsk) : Prop := ∃ G', X (withF D G) = ((X D).1, withF (X D).2 G') ∧ FRel (X D).2 G'
theorem par_named (h : FRel D G) (e : Ent) (he : e.file = -1 ∨ (∃ i : Nat, e.file = (i : Int) ∧ Ref D i)) : namedD (withF D G) e = ((namedD D e).1, withF (namedD D e).2 G) ∧ FRel (namedD D e).2 G := by
  unfold namedD
  by_cases ha : D.armed = 0
  · rw [if_pos ha, if_pos (show (withF D G).armed = 0 from ha)]
    exact ⟨rfl, h.mono _ rfl (fun _ _ h => h)⟩
  · rw [if_neg ha, if_neg (show ¬(withF D G).armed = 0 from ha)]
    refine ⟨rfl, h.mono _ rfl (fun i _ hr => ?_)⟩
    rcases hr with hr | ⟨e', h1, h2⟩
    · exact .inl hr
    · rcases List.mem_append.1 h1 with h1 | h1
      · exact .inr ⟨e', h1, h2⟩
      · rw [List.mem_singleton.1 h1] at h2
        rcases he with he | ⟨j, h3, h4⟩
        · omega
        · have : j = i := by omega
          exact this ▸ h4
theorem askD_with (s : ByteArray) : askD (withF D G) s = askD D s := rfl
theorem has_mem {N : Nms} {k : List UInt8} (h : hasN N k = true) : (k, atN N k) ∈ N := by
  unfold hasN at h
  unfold atN
  obtain ⟨x, hx, hk⟩ := List.any_eq_true.1 h
  cases hf : N.find? (fun p => p.1 == k) with
  | none =>
    rw [List.find?_eq_none] at hf
    exact absurd hk (hf x hx)
  | some p =>
    have h1 := List.mem_of_find?_eq_some hf
    have h2 := List.find?_some hf
    have h3 : p.1 = k := by simpa using h2
    rw [← h3]
    exact h1
theorem par_op (hk : D.Ok) (h : FRel D G) (s : ByteArray) (K : Dsk → Nat → Fil → Option Int × Dsk) (hK : ∀ i f, D.files[i]? = some f → G[i]? = some f → Ref D i → ∃ G', K (withF D G) i f = ((K D i f).1, withF (K D i f).2 G') ∧ FRel (K D i f).2 G') :
    Par D G (fun X => fileOp X s (K X)) := by
  show ∃ G', fileOp (withF D G) s (K (withF D G)) = ((fileOp D s (K D)).1, withF (fileOp D s (K D)).2 G') ∧ FRel (fileOp D s (K D)).2 G'
  cases hq : fileE D s with
  | some c =>
    rw [fileOp_no hq, fileOp_no (D := withF D G) (show fileE (withF D G) s = some c from hq)]
    exact ⟨G, rfl, h⟩
  | none =>
    obtain ⟨i, f, hi, hf⟩ := file_at hk hq
    have hr : Ref D i := now_ref hk (has_mem (fileE_none hq).2) hi
    have hg : G[i]? = some f := (h.same hr).trans hf
    rw [fileOp_ok hq hi hf, fileOp_ok (D := withF D G) (show fileE (withF D G) s = none from hq) hi hg]
    exact hK i f hf hg hr
theorem par_changed (hk : D.Ok) (h : FRel D G) (i : Nat) (f : Fil) (c : Chg) : ∃ G', changedD (withF D G) i f c = ((changedD D i f c).1, withF (changedD D i f c).2 G') ∧ FRel (changedD D i f c).2 G' := by
  unfold changedD
  have hn : noRoom (withF D G) f c ↔ noRoom D f c := by unfold noRoom; rw [used_with hk h]; exact Iff.rfl
  by_cases h1 : noRoom D f c
  · rw [if_pos h1, if_pos (hn.2 h1)]
    exact ⟨G, rfl, h⟩
  · rw [if_neg h1, if_neg (fun h2 => h1 (hn.1 h2))]
    by_cases ha : D.armed = 0
    · rw [if_pos ha, if_pos (show (withF D G).armed = 0 from ha)]
      exact ⟨G, rfl, h.mono _ rfl (fun _ _ h => h)⟩
    · rw [if_neg ha, if_neg (show ¬(withF D G).armed = 0 from ha)]
      exact ⟨_, rfl, h.set _ i _ rfl rfl rfl⟩
theorem par_append (hk : D.Ok) (h : FRel D G) (s : ByteArray) (b : List Int) : Par D G (fun X => appendD X s b) :=
  par_op hk h s (fun X i f => changedD X i f ⟨f.now.length, b, false⟩) (fun i f _ _ _ => par_changed hk h i f _)
theorem par_write (hk : D.Ok) (h : FRel D G) (s : ByteArray) (n : Int) (b : List Int) : Par D G (fun X => writeD X s n b) :=
  par_op hk h s (fun X i f => if n < 0 ∨ (f.now.length : Int) < n then (some 1, X) else changedD X i f ⟨n.toNat, b, false⟩) (fun i f _ _ _ => by
    by_cases hn : n < 0 ∨ (f.now.length : Int) < n
    · simp only [if_pos hn]
      exact ⟨G, rfl, h⟩
    · simp only [if_neg hn]
      exact par_changed hk h i f _)
theorem par_trunc (hk : D.Ok) (h : FRel D G) (s : ByteArray) (n : Int) : Par D G (fun X => truncD X s n) :=
  par_op hk h s (fun X i f => if n < 0 ∨ (f.now.length : Int) < n then (some 1, X) else changedD X i f ⟨n.toNat, [], true⟩) (fun i f _ _ _ => by
    by_cases hn : n < 0 ∨ (f.now.length : Int) < n
    · simp only [if_pos hn]
      exact ⟨G, rfl, h⟩
    · simp only [if_neg hn]
      exact par_changed hk h i f _)
theorem par_remove (hk : D.Ok) (h : FRel D G) (s : ByteArray) : Par D G (fun X => removeD X s) :=
  par_op hk h s (fun X _ _ => namedD X ⟨ByteArray.empty, s, -1⟩) (fun i f _ _ _ => ⟨G, par_named h _ (.inl rfl)⟩)
theorem par_sync (hk : D.Ok) (h : FRel D G) (s : ByteArray) : Par D G (fun X => syncD X s) :=
  par_op hk h s (fun X i f => if X.armed = 0 then (some 8, offD X) else (none, setF (stepD X) i ⟨f.now, f.now, []⟩)) (fun i f _ _ _ => by
    by_cases ha : D.armed = 0
    · simp only [if_pos ha, if_pos (show (withF D G).armed = 0 from ha)]
      exact ⟨G, rfl, h.mono _ rfl (fun _ _ h => h)⟩
    · simp only [if_neg ha, if_neg (show ¬(withF D G).armed = 0 from ha)]
      exact ⟨_, rfl, h.set _ i _ rfl rfl rfl⟩)
theorem par_rename (hk : D.Ok) (h : FRel D G) (a b : ByteArray) : Par D G (fun X => renameD X a b) := by
  show ∃ G', renameD (withF D G) a b = ((renameD D a b).1, withF (renameD D a b).2 G') ∧ FRel (renameD D a b).2 G'
  unfold renameD
  have e : ask2D (withF D G) a b = ask2D D a b := rfl
  rw [e]
  cases hq : ask2D D a b with
  | some c => exact ⟨G, rfl, h⟩
  | none =>
    simp only
    by_cases hh : hasN D.now a.data.toList = true
    · rw [if_pos hh, if_pos (show hasN (withF D G).now a.data.toList = true from hh)]
      have hp := hk.nowF _ (has_mem hh)
      exact ⟨G, par_named h _ (.inr ⟨(atN D.now a.data.toList).toNat, by simp only at hp ⊢; show atN D.now a.data.toList = _; omega, now_ref hk (has_mem hh) (by simp only at hp ⊢; omega)⟩)⟩
    · rw [if_neg hh, if_neg (show ¬hasN (withF D G).now a.data.toList = true from hh)]
      exact ⟨G, rfl, h⟩
theorem par_syncDir (hk : D.Ok) (h : FRel D G) : Par D G syncDirD := by
  show ∃ G', syncDirD (withF D G) = ((syncDirD D).1, withF (syncDirD D).2 G') ∧ FRel (syncDirD D).2 G'
  unfold syncDirD
  by_cases ho : D.off = true
  · rw [if_pos ho, if_pos (show (withF D G).off = true from ho)]
    exact ⟨G, rfl, h⟩
  · rw [if_neg ho, if_neg (show ¬(withF D G).off = true from ho)]
    by_cases ha : D.armed = 0
    · rw [if_pos ha, if_pos (show (withF D G).armed = 0 from ha)]
      exact ⟨G, rfl, h.mono _ rfl (fun _ _ h => h)⟩
    · rw [if_neg ha, if_neg (show ¬(withF D G).armed = 0 from ha)]
      refine ⟨G, rfl, h.mono _ rfl (fun i _ hr => ?_)⟩
      rcases hr with ⟨p, h1, h2⟩ | ⟨e, h1, h2⟩
      · exact now_ref hk h1 h2
      · cases h1
theorem par_create (hk : D.Ok) (h : FRel D G) (s : ByteArray) : Par D G (fun X => createD X s) := by
  show ∃ G', createD (withF D G) s = ((createD D s).1, withF (createD D s).2 G') ∧ FRel (createD D s).2 G'
  unfold createD
  rw [askD_with]
  cases hq : askD D s with
  | some c => exact ⟨G, rfl, h⟩
  | none =>
    simp only
    by_cases hh : hasN D.now s.data.toList = true
    · rw [if_pos hh, if_pos (show hasN (withF D G).now s.data.toList = true from hh)]
      exact ⟨G, rfl, h⟩
    · rw [if_neg hh, if_neg (show ¬hasN (withF D G).now s.data.toList = true from hh)]
      by_cases hl : 64 ≤ D.now.length
      · rw [if_pos hl, if_pos (show 64 ≤ (withF D G).now.length from hl)]
        exact ⟨G, rfl, h⟩
      · rw [if_neg hl, if_neg (show ¬64 ≤ (withF D G).now.length from hl)]
        unfold namedD
        by_cases ha : D.armed = 0
        · rw [if_pos ha, if_pos (show (withF D G).armed = 0 from ha)]
          exact ⟨G, rfl, h.mono _ rfl (fun _ _ h => h)⟩
        · rw [if_neg ha, if_neg (show ¬(withF D G).armed = 0 from ha)]
          simp only
          have el : ((withF D G).files.length : Int) = D.files.length := by show (G.length : Int) = _; rw [h.len]
          rw [el]
          refine ⟨G ++ [⟨[], [], []⟩], rfl, ⟨by simp [h.len, addE, stepD], fun i f g hf hg => ?_⟩⟩
          have hf : (D.files ++ [(⟨[], [], []⟩ : Fil)])[i]? = some f := hf
          by_cases hi : i < D.files.length
          · rw [List.getElem?_append_left hi] at hf
            rw [List.getElem?_append_left (by rw [h.len]; exact hi)] at hg
            rcases h.file i f g hf hg with e | ⟨e, r⟩
            · exact .inl e
            · refine .inr ⟨fun hr => e ?_, r⟩
              rcases hr with hr | ⟨e', h1, h2⟩
              · exact .inl hr
              · rcases List.mem_append.1 h1 with h1 | h1
                · exact .inr ⟨e', h1, h2⟩
                · rw [List.mem_singleton.1 h1] at h2
                  simp only at h2
                  omega
          · have hi2 : i = D.files.length := by have := (List.getElem?_eq_some_iff.1 hf).1; simp at this; omega
            subst hi2
            rw [List.getElem?_append_right (Nat.le_refl _), Nat.sub_self] at hf
            rw [← h.len, List.getElem?_append_right (Nat.le_refl _), Nat.sub_self] at hg
            exact .inl ((Option.some.inj hf).symm.trans (Option.some.inj hg))
/-- A loss of power, as the document's disk takes it: bytes that no name means stay. -/
def crashR (D : Dsk) (keep : List Int) : Dsk :=
  let N := goAll D.sure (D.opn.take (ofK keep D.opn.length))
  ⟨crashFs D.files keep.tail, N, N, [], D.quota, -1, false, D.steps⟩
theorem crash_pair : ∀ (fs gs : List Fil) (l : List Int), fs.length = gs.length → (∀ (i : Nat) (f g : Fil), fs[i]? = some f → gs[i]? = some g → f = g ∨ f.opn = [] ∧ g.opn = []) →
    ∀ (i : Nat) (f g f' g' : Fil), fs[i]? = some f → gs[i]? = some g → (crashFs fs l)[i]? = some f' → (crashFs gs l)[i]? = some g' → (f = g → f' = g') ∧ (f.opn = [] → f' = f) ∧ (g.opn = [] → g' = g)
  | [], gs, l, hl, h, i, f, g, f', g', hf, hg, hf', hg' => by simp at hf
  | a :: fs, [], l, hl, h, i, f, g, f', g', hf, hg, hf', hg' => by simp at hg
  | a :: fs, b :: gs, l, hl, h, i, f, g, f', g', hf, hg, hf', hg' => by
    have h0 := h 0 a b rfl rfl
    have hr : ∀ (i : Nat) (f g : Fil), fs[i]? = some f → gs[i]? = some g → f = g ∨ f.opn = [] ∧ g.opn = [] := fun i f g h1 h2 => h (i + 1) f g (by simpa using h1) (by simpa using h2)
    have hl2 : fs.length = gs.length := by simpa using hl
    unfold crashFs at hf' hg'
    by_cases ha : a.opn = []
    · have hb : b.opn = [] := by
        rcases h0 with e | e
        · rw [← e]; exact ha
        · exact e.2
      rw [if_pos ha] at hf'
      rw [if_pos hb] at hg'
      cases i with
      | zero =>
        simp only [List.getElem?_cons_zero, Option.some.injEq] at hf hg hf' hg'
        subst hf hg hf' hg'
        exact ⟨fun e => e, fun _ => rfl, fun _ => rfl⟩
      | succ i =>
        simp only [List.getElem?_cons_succ] at hf hg hf' hg'
        exact crash_pair fs gs l hl2 hr i f g f' g' hf hg hf' hg'
    · have e : a = b := by
        rcases h0 with e | e
        · exact e
        · exact absurd e.1 ha
      subst e
      rw [if_neg ha] at hf' hg'
      cases i with
      | zero =>
        simp only [List.getElem?_cons_zero, Option.some.injEq] at hf hg hf' hg'
        subst hf hg hf' hg'
        exact ⟨fun _ => rfl, fun h => absurd h ha, fun h => absurd h ha⟩
      | succ i =>
        simp only [List.getElem?_cons_succ] at hf hg hf' hg'
        exact crash_pair fs gs _ hl2 hr i f g f' g' hf hg hf' hg'
theorem sub_ref {keep : List Int} (hp : Ref (crashD D keep) = Ref (crashD D keep)) {i : Nat} (h : Ref (crashD D keep) i) : Ref D i := by
  rcases h with ⟨p, h1, h2⟩ | ⟨e, h1, h2⟩
  · rcases ref_all h1 with ⟨q, h3, h4⟩ | ⟨e, h3, h4⟩
    · exact .inl ⟨q, h3, h4.trans h2⟩
    · exact .inr ⟨e, List.mem_of_mem_take h3, h4.trans h2⟩
  · cases h1
theorem par_crash (hk : D.Ok) (h : FRel D G) (keep : List Int) : ∃ G', crashR (withF D G) keep = withF (crashD D keep) G' ∧ FRel (crashD D keep) G' := by
  refine ⟨crashFs G keep.tail, rfl, ⟨?_, fun i f g hf hg => ?_⟩⟩
  · show (crashFs G keep.tail).length = (sweepFs (crashFs D.files keep.tail) _).length
    rw [len_sweepFs, len_crashFs, len_crashFs, h.len]
  have hf : (sweepFs (crashFs D.files keep.tail) (crashD D keep).sure)[i]? = some f := hf
  have hil : i < (crashFs D.files keep.tail).length := by
    have := (List.getElem?_eq_some_iff.1 hf).1
    rwa [len_sweepFs] at this
  have hi : i < D.files.length := by rwa [len_crashFs] at hil
  have hig : i < G.length := by rw [h.len]; exact hi
  obtain ⟨a, ha⟩ : ∃ a, (crashFs D.files keep.tail)[i]? = some a := ⟨_, List.getElem?_eq_getElem hil⟩
  have hp := crash_pair D.files G keep.tail h.len.symm (fun j f g h1 h2 => by
    rcases h.file j f g h1 h2 with e | ⟨_, e1, e2, _⟩
    · exact .inl e
    · exact .inr ⟨by rw [e1], e2⟩) i _ _ a g (List.getElem?_eq_getElem hi) (List.getElem?_eq_getElem hig) ha hg
  have hm := mem_crashFs D.files keep.tail hk.fil a (List.mem_of_getElem? ha)
  unfold sweepFs at hf
  rw [List.getElem?_mapIdx, ha] at hf
  simp only [Option.map_some, Option.some.injEq] at hf
  by_cases hn : ((crashD D keep).sure.any fun p => p.2 == (i : Int)) = true
  · rw [if_pos hn] at hf
    obtain ⟨p, h1, h2⟩ := List.any_eq_true.1 hn
    have hr : Ref (crashD D keep) i := .inl ⟨p, h1, by simpa using h2⟩
    rcases h.file i _ _ (List.getElem?_eq_getElem hi) (List.getElem?_eq_getElem hig) with e | ⟨e, _⟩
    · exact .inl (hf.symm.trans (hp.1 e))
    · exact absurd (sub_ref rfl hr) e
  · rw [if_neg hn, hm.1] at hf
    have nr : ¬Ref (crashD D keep) i := fun hr => by
      rcases hr with ⟨p, h1, h2⟩ | ⟨e, h1, h2⟩
      · exact hn (List.any_eq_true.2 ⟨p, h1, by simpa using h2⟩)
      · cases h1
    rcases h.file i _ _ (List.getElem?_eq_getElem hi) (List.getElem?_eq_getElem hig) with e | ⟨_, _, e1, e2, e3⟩
    · have := hp.1 e
      subst this
      exact .inr ⟨nr, hf.symm, hm⟩
    · have := hp.2.2 e1
      subst this
      exact .inr ⟨nr, hf.symm, e1, e2, e3⟩
/-! ### rising names -/
theorem rise_named (h : Rising D.sure) (e : Ent) : Rising (namedD D e).2.sure := by unfold namedD; split <;> exact h
theorem rise_op (h : Rising D.sure) (s : ByteArray) (K : Nat → Fil → Option Int × Dsk) (hK : ∀ i f, Rising (K i f).2.sure) : Rising (fileOp D s K).2.sure := by
  unfold fileOp
  split
  · exact h
  · split
    · exact hK _ _
    · exact h
theorem rise_changed (h : Rising D.sure) (i : Nat) (f : Fil) (c : Chg) : Rising (changedD D i f c).2.sure := by
  unfold changedD
  split
  · exact h
  · split <;> exact h
theorem rise_append (h : Rising D.sure) (s : ByteArray) (b : List Int) : Rising (appendD D s b).2.sure := rise_op h s _ (fun i f => rise_changed h i f _)
theorem rise_write (h : Rising D.sure) (s : ByteArray) (n : Int) (b : List Int) : Rising (writeD D s n b).2.sure := rise_op h s _ (fun i f => by
  split
  · exact h
  · exact rise_changed h i f _)
theorem rise_trunc (h : Rising D.sure) (s : ByteArray) (n : Int) : Rising (truncD D s n).2.sure := rise_op h s _ (fun i f => by
  split
  · exact h
  · exact rise_changed h i f _)
theorem rise_remove (h : Rising D.sure) (s : ByteArray) : Rising (removeD D s).2.sure := rise_op h s _ (fun _ _ => rise_named h _)
theorem rise_sync (h : Rising D.sure) (s : ByteArray) : Rising (syncD D s).2.sure := rise_op h s _ (fun i f => by
  split <;> exact h)
theorem rise_now (hk : D.Ok) (h : Rising D.sure) : Rising D.now := by rw [hk.nowE]; exact rising_goAll _ _ h
theorem rise_syncDir (hk : D.Ok) (h : Rising D.sure) : Rising (syncDirD D).2.sure := by
  unfold syncDirD
  split
  · exact h
  · split
    · exact h
    · exact rise_now hk h
theorem rise_create (h : Rising D.sure) (s : ByteArray) : Rising (createD D s).2.sure := by
  unfold createD
  split
  · exact h
  · split
    · exact h
    · split
      · exact h
      · have := rise_named h ⟨s, (⟨#[]⟩ : ByteArray), D.files.length⟩
        split
        · rename_i hq
          rw [hq] at this
          exact this
        · rename_i hq
          rw [hq] at this
          exact this
theorem rise_rename (h : Rising D.sure) (a b : ByteArray) : Rising (renameD D a b).2.sure := by
  unfold renameD
  split
  · exact h
  · split
    · exact rise_named h _
    · exact h
theorem rise_crash (h : Rising D.sure) (keep : List Int) : Rising (crashD D keep).sure := rising_goAll _ _ h
theorem rise_quota (h : Rising D.sure) (n : Int) : Rising (setQuotaD D n).2.sure := by unfold setQuotaD; split <;> exact h
end Go.Proofs.YtpcfnkmljchiiaaGreatDoor.DRel
