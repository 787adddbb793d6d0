/- Steps towards RDiskSure: DAc. -/
import Derived.Test.YtpcfnkmljchiiaaDoorZ42
import Derived.Test.YtpcfnkmljchiiaaDoorZ12
/- Each act keeps the disk sound, and file 0 alone. -/
namespace Go.Proofs.YtpcfnkmljchiiaaDoor.DAc
open Go Go.RowKit Go.Proofs.YtpcfnkmljchiiaaDoor.DPl Go.Proofs.YtpcfnkmljchiiaaDoor.DOk Go.Proofs.YtpcfnkmljchiiaaDoor.DOk2 Go.Proofs.YtpcfnkmljchiiaaDoor.DSu Go.Proofs.YtpcfnkmljchiiaaDoor.DCra Go.Proofs.YtpcfnkmljchiiaaDoor.DCrc Go.Proofs.YtpcfnkmljchiiaaDoor.DSyn Go.Proofs.YtpcfnkmljchiiaaDoor.DSd Go.Proofs.YtpcfnkmljchiiaaDoor.DCr Go.Proofs.YtpcfnkmljchiiaaDoor.DCh2 Go.Proofs.YtpcfnkmljchiiaaDoor.DOps Go.Proofs.YtpcfnkmljchiiaaDoor.DFil Go.Proofs.YtpcfnkmljchiiaaDoor.Right Go.Proofs.YtpcfnkmljchiiaaDoor.DRen
set_option linter.unusedVariables false
set_option linter.unusedSimpArgs false
/-- Sound, alone, one step more at most. -/
structure Good (D D' : Dsk) (k : List UInt8) (b : List Int) : Prop where
  ok : D'.Ok
  alone : Alone D' k b
  steps : D'.steps ≤ D.steps + 1
variable {D : Dsk} {k : List UInt8} {b : List Int}
theorem good_same (hk : D.Ok) (ha : Alone D k b) : Good D D k b := ⟨hk, ha, by omega⟩
theorem good_off (hk : D.Ok) (ha : Alone D k b) : Good D (offD D) k b := ⟨offD_ok hk, ha.off, by show D.steps ≤ _; omega⟩
theorem good_named (hk : D.Ok) (ha : Alone D k b) (e : Ent) (h0 : -1 ≤ e.file) (h1 : e.file < D.files.length) (hn : e.name.size ≤ 24) (hg : e.gone.size ≤ 24) (n1 : e.name.data.toList ≠ k) (n2 : e.gone.data.toList ≠ k) (n3 : e.file ≠ 0) : Good D (namedD D e).2 k b := by
  unfold namedD
  split
  · exact good_off hk ha
  · exact ⟨addE_ok hk e h0 h1 hn hg, ha.add e n1 n2 n3, by show D.steps + 1 ≤ _; omega⟩
theorem askD_right {s : ByteArray} (h : askD D s = none) : s.size ≤ 24 := (askD_none h).1
theorem good_create (hk : D.Ok) (ha : Alone D k b) (s : ByteArray) (hs : s.data.toList ≠ k) (hk0 : k ≠ []) : Good D (createD D s).2 k b := by
  unfold createD
  cases hq : askD D s with
  | some c => exact good_same hk ha
  | none =>
    simp only []
    split
    · exact good_same hk ha
    · split
      · exact good_same hk ha
      · by_cases h0 : D.armed = 0
        · rw [show namedD D ⟨s, (⟨#[]⟩ : ByteArray), D.files.length⟩ = (some 8, offD D) by unfold namedD; rw [if_pos h0]]
          exact good_off hk ha
        · rw [show namedD D ⟨s, (⟨#[]⟩ : ByteArray), D.files.length⟩ = (none, addE (stepD D) ⟨s, (⟨#[]⟩ : ByteArray), D.files.length⟩) by unfold namedD; rw [if_neg h0]]
          exact ⟨madeD_ok hk s (askD_right hq), ha.made s hs hk0, by show D.steps + 1 ≤ _; omega⟩
/-- An act on a file of another name. -/
theorem good_op (hk : D.Ok) (ha : Alone D k b) (s : ByteArray) (hs : s.data.toList ≠ k) (K : Nat → Fil → Option Int × Dsk) (h : ∀ i f, D.files[i]? = some f → i ≠ 0 → s.size ≤ 24 → Good D (K i f).2 k b) : Good D (fileOp D s K).2 k b := by
  unfold fileOp
  cases hq : fileE D s with
  | some c => exact good_same hk ha
  | none =>
    obtain ⟨h1, h2⟩ := fileE_none hq
    have h3 := ha.now hk hs h2
    obtain ⟨i, hi, hl⟩ := atN_lt hk h2
    simp only []
    rw [hi] at h3 ⊢
    simp only [Int.toNat_natCast]
    rw [List.getElem?_eq_getElem hl]
    exact h i _ (List.getElem?_eq_getElem hl) (by omega) (askD_right h1)
theorem good_sync (hk : D.Ok) (ha : Alone D k b) (s : ByteArray) (hs : s.data.toList ≠ k) : Good D (syncD D s).2 k b := by
  refine good_op hk ha s hs _ (fun i f hf hi _ => ?_)
  split
  · exact good_off hk ha
  · exact ⟨synced_ok hk hf, ha.set i hi _, by show D.steps + 1 ≤ _; omega⟩
theorem good_syncDir (hk : D.Ok) (ha : Alone D k b) : Good D (syncDirD D).2 k b := by
  unfold syncDirD
  split
  · exact good_same hk ha
  · split
    · exact good_off hk ha
    · exact ⟨syncd_ok hk, ha.syncd hk, by show D.steps + 1 ≤ _; omega⟩
theorem good_remove (hk : D.Ok) (ha : Alone D k b) (s : ByteArray) (hs : s.data.toList ≠ k) (hk0 : k ≠ []) : Good D (removeD D s).2 k b :=
  good_op hk ha s hs _ (fun i f hf hi h24 => good_named hk ha ⟨ByteArray.empty, s, -1⟩ (by simp only; omega) (by simp only; omega) (by simp only; decide) h24 (fun e => hk0 e.symm) hs (by simp only; omega))
theorem good_crash (hk : D.Ok) (ha : Alone D k b) (l : List Int) : Good D (crashD D l) k b := ⟨crashD_ok hk l, ha.crash l, by show D.steps ≤ _; omega⟩
theorem le_sum : ∀ (l : List Nat) (x : Nat), x ∈ l → x ≤ l.sum
  | y :: r, x, h => by
    rw [List.sum_cons]
    rcases List.mem_cons.1 h with h1 | h1
    · omega
    · have := le_sum r x h1
      omega
theorem used_ge {s : List UInt8} {i : Nat} {f : Fil} (hh : hasN D.now s = true) (hi : atN D.now s = i) (hf : D.files[i]? = some f) : f.now.length ≤ usedD D := by
  unfold hasN at hh
  unfold atN at hi
  obtain ⟨q, hq1, hq2⟩ := List.any_eq_true.1 hh
  cases hx : D.now.find? (fun p => p.1 == s) with
  | none => exact absurd hq2 (by simpa using List.find?_eq_none.1 hx q hq1)
  | some p =>
    rw [hx] at hi
    have hi : p.2 = i := hi
    have hm := List.mem_of_find?_eq_some hx
    unfold usedD usedL
    refine le_sum _ _ (List.mem_map.2 ⟨p, hm, ?_⟩)
    rw [hi, Int.toNat_natCast, hf]
/-- A change that finds room stays small. -/
theorem small_go {f : Fil} (hk : D.Ok) (hf : f ∈ D.files) (hu : f.now.length ≤ usedD D) (c : Chg) (hn : ¬noRoom D f c) : (c.go f.now).length ≤ 1073741824 := by
  have h1 := (hk.fil f hf).nowL
  have h2 := hk.quota1
  unfold noRoom at hn
  omega
theorem go_ge (c : Chg) (l : List Int) (hc : c.pos ≤ l.length) (hcut : c.cut = false) : c.pos + c.b.length ≤ (c.go l).length := by
  unfold Chg.go
  rw [if_neg (by simp [hcut])]
  simp
  omega
theorem good_change (hk : D.Ok) (ha : Alone D k b) (i : Nat) (f : Fil) (hf : D.files[i]? = some f) (hi : i ≠ 0) (hu : f.now.length ≤ usedD D) (c : Chg) (hc : c.pos ≤ f.now.length) (h1 : c.cut = true → c.b = []) : Good D (changedD D i f c).2 k b := by
  have hm := List.mem_of_getElem? hf
  unfold changedD
  split
  · exact good_same hk ha
  · rename_i hn
    have h2 := small_go hk hm hu c hn
    split
    · exact good_off hk ha
    · refine ⟨grown_ok hk hf c hc ?_ h2, ha.set i hi _, by show D.steps + 1 ≤ _; omega⟩
      cases hcut : c.cut with
      | false =>
        have := go_ge c f.now hc hcut
        omega
      | true =>
        rw [h1 hcut]
        have := (hk.fil f hm).nowL
        simp
        omega
theorem good_op2 (hk : D.Ok) (ha : Alone D k b) (s : ByteArray) (hs : s.data.toList ≠ k) (K : Nat → Fil → Option Int × Dsk) (h : ∀ i f, D.files[i]? = some f → i ≠ 0 → f.now.length ≤ usedD D → Good D (K i f).2 k b) : Good D (fileOp D s K).2 k b := by
  unfold fileOp
  cases hq : fileE D s with
  | some c => exact good_same hk ha
  | none =>
    obtain ⟨h1, h2⟩ := fileE_none hq
    have h3 := ha.now hk hs h2
    obtain ⟨i, hi, hl⟩ := atN_lt hk h2
    simp only []
    have hu := used_ge h2 hi (List.getElem?_eq_getElem hl)
    rw [hi] at h3 ⊢
    simp only [Int.toNat_natCast]
    rw [List.getElem?_eq_getElem hl]
    exact h i _ (List.getElem?_eq_getElem hl) (by omega) hu
theorem good_append (hk : D.Ok) (ha : Alone D k b) (s : ByteArray) (hs : s.data.toList ≠ k) (x : List Int) : Good D (appendD D s x).2 k b :=
  good_op2 hk ha s hs _ (fun i f hf hi hu => good_change hk ha i f hf hi hu _ (Nat.le_refl _) (fun h => by simp at h))
theorem good_write (hk : D.Ok) (ha : Alone D k b) (s : ByteArray) (hs : s.data.toList ≠ k) (n : Int) (x : List Int) : Good D (writeD D s n x).2 k b := by
  refine good_op2 hk ha s hs _ (fun i f hf hi hu => ?_)
  split
  · exact good_same hk ha
  · exact good_change hk ha i f hf hi hu _ (by simp only; omega) (fun h => by simp at h)
theorem good_trunc (hk : D.Ok) (ha : Alone D k b) (s : ByteArray) (hs : s.data.toList ≠ k) (n : Int) : Good D (truncD D s n).2 k b := by
  refine good_op2 hk ha s hs _ (fun i f hf hi hu => ?_)
  split
  · exact good_same hk ha
  · exact good_change hk ha i f hf hi hu _ (by simp only; omega) (fun h => rfl)
theorem good_rename (hk : D.Ok) (ha : Alone D k b) (s t : ByteArray) (hs : s.data.toList ≠ k) (ht : t.data.toList ≠ k) : Good D (renameD D s t).2 k b := by
  unfold renameD
  cases hq : ask2D D s t with
  | some c => exact good_same hk ha
  | none =>
    obtain ⟨h1, h2⟩ := ask2_none hq
    simp only []
    by_cases hn : hasN D.now s.data.toList = true
    · rw [if_pos hn]
      obtain ⟨i, hi, hl⟩ := atN_lt hk hn
      exact good_named hk ha _ (by simp only; omega) (by simp only; omega) h2 h1 ht hs (ha.now hk hs hn)
    · rw [if_neg hn]
      exact good_same hk ha
theorem good_quota (hk : D.Ok) (ha : Alone D k b) (n : Int) : Good D (setQuotaD D n).2 k b := by
  unfold setQuotaD
  split
  · exact good_same hk ha
  · exact ⟨⟨hk.nowF, hk.sureF, hk.opnF, hk.nowE, hk.fil, by show 0 ≤ n; omega, by show n ≤ 1073741824; omega, hk.armed0, hk.armed1, hk.steps0, hk.cntF, hk.cntN⟩, ⟨⟨ha.keeps.file, ha.keeps.sure, ha.keeps.opn⟩, ha.only, ha.file⟩, by show D.steps ≤ _; omega⟩
theorem good_arm (hk : D.Ok) (ha : Alone D k b) (n : Int) (h0 : -1 ≤ n) (h1 : n ≤ 9223372036854775807) : Good D { D with armed := n } k b :=
  ⟨⟨hk.nowF, hk.sureF, hk.opnF, hk.nowE, hk.fil, hk.quota0, hk.quota1, h0, h1, hk.steps0, hk.cntF, hk.cntN⟩, ⟨⟨ha.keeps.file, ha.keeps.sure, ha.keeps.opn⟩, ha.only, ha.file⟩, by show D.steps ≤ _; omega⟩
end Go.Proofs.YtpcfnkmljchiiaaDoor.DAc
