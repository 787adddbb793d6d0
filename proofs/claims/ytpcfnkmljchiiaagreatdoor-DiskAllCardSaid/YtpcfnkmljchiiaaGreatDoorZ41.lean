/- Steps towards RDiskAll: DRpa. -/
import Derived.Test.YtpcfnkmljchiiaaGreatDoorZ39
import Derived.Test.YtpcfnkmljchiiaaGreatDoorZ22
import Derived.Test.YtpcfnkmljchiiaaGreatDoorZ40
set_option linter.unusedVariables false
set_option linter.unusedSimpArgs false
/- One call on a disk and its document's disk, told plainly; what stays where blocks turn. -/
namespace Go.Proofs.YtpcfnkmljchiiaaGreatDoor.DRpa
open Go Go.RowKit Go.Maps Go.Proofs.YtpcfnkmljchiiaaGreatDoorW.PrintWords Go.Proofs.YtpcfnkmljchiiaaGreatDoorW.PrintLast DPl DAt Go.Proofs.YtpcfnkmljchiiaaGreatDoor.Is DNw DRn DRd DRl DRt DDo DRel DRak DRlm DFil DCh2 DOps DSyn DSd DCr DCra DRen GPl
/-! ### which errors -/
def Es (r : Option Int) : Prop := ∀ c, r = some c → dErr c
theorem numF_of {r : Option Int} (h : Es r) : numF r = some (numE r) := by
  cases r with
  | none => rfl
  | some c =>
    have := all_of (h c rfl)
    show (if 1 ≤ c ∧ c ≤ 13 then some c else none) = some c
    rw [if_pos (show 1 ≤ c ∧ c ≤ 13 from this)]
theorem es_named (D : Dsk) (e : Ent) : Es (namedD D e).1 := fun c h => by
  unfold namedD at h
  split at h
  · cases h; simp [dErr]
  · cases h
theorem es_changed (D : Dsk) (i : Nat) (f : Fil) (ch : Chg) : Es (changedD D i f ch).1 := fun c h => by
  unfold changedD at h
  split at h
  · cases h; simp [dErr]
  · split at h
    · cases h; simp [dErr]
    · cases h
theorem es_op (D : Dsk) (s : ByteArray) (K : Nat → Fil → Option Int × Dsk) (hK : ∀ i f, Es (K i f).1) : Es (fileOp D s K).1 := fun c h => by
  unfold fileOp at h
  cases hq : fileE D s with
  | some c0 =>
    rw [hq] at h
    cases h
    exact fileE_in hq
  | none =>
    rw [hq] at h
    simp only at h
    split at h
    · exact hK _ _ c h
    · cases h
theorem es_append (D : Dsk) (s : ByteArray) (b : List Int) : Es (appendD D s b).1 := es_op D s _ (fun i f => es_changed D i f _)
theorem es_write (D : Dsk) (s : ByteArray) (n : Int) (b : List Int) : Es (writeD D s n b).1 := es_op D s _ (fun i f => by
  split
  · intro c h; cases h; simp [dErr]
  · exact es_changed D i f _)
theorem es_trunc (D : Dsk) (s : ByteArray) (n : Int) : Es (truncD D s n).1 := es_op D s _ (fun i f => by
  split
  · intro c h; cases h; simp [dErr]
  · exact es_changed D i f _)
theorem es_remove (D : Dsk) (s : ByteArray) : Es (removeD D s).1 := es_op D s _ (fun _ _ => es_named D _)
theorem es_sync (D : Dsk) (s : ByteArray) : Es (syncD D s).1 := es_op D s _ (fun i f => by
  split
  · intro c h; cases h; simp [dErr]
  · intro c h; cases h)
theorem es_syncDir (D : Dsk) : Es (syncDirD D).1 := fun c h => by
  unfold syncDirD at h
  split at h
  · cases h; simp [dErr]
  · split at h
    · cases h; simp [dErr]
    · cases h
theorem es_create (D : Dsk) (s : ByteArray) : Es (createD D s).1 := fun c h => by
  unfold createD at h
  cases hq : askD D s with
  | some c0 => rw [hq] at h; cases h; exact askD_in D s _ hq
  | none =>
    rw [hq] at h
    simp only at h
    split at h
    · cases h; simp [dErr]
    · split at h
      · cases h; simp [dErr]
      · have := es_named D ⟨s, (⟨#[]⟩ : ByteArray), D.files.length⟩
        split at h
        · rename_i hq2
          rw [hq2] at this
          exact this c h
        · cases h
theorem es_rename (D : Dsk) (a b : ByteArray) : Es (renameD D a b).1 := fun c h => by
  unfold renameD at h
  cases hq : ask2D D a b with
  | some c0 =>
    rw [hq] at h
    cases h
    unfold ask2D at hq
    split at hq
    · cases hq; simp [dErr]
    · split at hq
      · cases hq
      · cases hq; simp [dErr]
  | none =>
    rw [hq] at h
    simp only at h
    split at h
    · exact es_named D _ c h
    · cases h; simp [dErr]
theorem es_quota (D : Dsk) (n : Int) : Es (setQuotaD D n).1 := fun c h => by
  unfold setQuotaD at h
  split at h
  · cases h; simp [dErr]
  · cases h
/-! ### one call -/
def actD (o : S35) (D : Dsk) : Dsk :=
  if o.f0 = 1 then (createD D o.f2).2 else if o.f0 = 2 then (appendD D o.f2 o.f4).2 else if o.f0 = 3 then (writeD D o.f2 o.f1 o.f4).2 else if o.f0 = 4 then (truncD D o.f2 o.f1).2 else if o.f0 = 5 then (renameD D o.f2 o.f3).2 else if o.f0 = 6 then (removeD D o.f2).2 else if o.f0 = 7 then (syncD D o.f2).2 else if o.f0 = 8 then (syncDirD D).2 else if o.f0 = 9 then (setQuotaD D o.f1).2 else if o.f0 = 10 then { D with armed := max o.f1 (-1) } else if o.f0 = 11 then crashD D o.f5 else D
/-! ### what a call of played keeps -/
theorem _root_.Go.Proofs.YtpcfnkmljchiiaaGreatDoor.DNw.AllAt.low {B C : Nat} {w w' : World} {E : Int → Addr} (h : AllAt B w E) (hb : Below C w w') (hC : B ≤ C) : AllAt B w' E := by
  refine ⟨⟨fun c hc => ?_, fun c hc => ?_, h.errs.ne⟩, h.lo⟩
  · have hv := h.errs.var c hc
    rw [World.cell?_of_block (w := w) (hb.block _ (Nat.lt_of_lt_of_le (h.lo c hc).1 hC))]
    exact hv
  · obtain ⟨cs, t, hr⟩ := h.errs.row c hc
    exact ⟨cs, t, by rw [hb.block _ (Nat.lt_of_lt_of_le (h.lo c hc).2 hC)]; exact hr⟩
abbrev tOp : Nat := 35
/-- The boxes of played: the call's own cells, the marked copy of its bytes; what lies below B. -/
structure FW (B : Nat) (w0 : World) (E : Int → Addr) (ob : Nat) (cs : Array Value) (q c : Nat) (l : List Int) (W : World) : Prop where
  bel : Below B w0 W
  errs : AllAt B W E
  ho : W.heap[ob]? = some (.cells cs tOp (0, 0))
  hb : Kd.R (Kd.int .u8) 5 W B (fun _ => True) (.slice (some ⟨q, 0, none⟩) (l.length + 6) c) (l ++ six)
section
variable {B ob q c : Nat} {w0 W V : World} {E : Int → Addr} {cs : Array Value} {l : List Int}
theorem FW.below (h : FW B w0 E ob cs q c l W) (hb : Below W.heap.size W V) (hB : B ≤ W.heap.size) : FW B w0 E ob cs q c l V :=
  ⟨h.bel.trans (hb.mono hB), h.errs.low hb hB, (hb.block _ (blk_lt h.ho)).trans h.ho, Kd.R_below h.hb hb⟩
theorem FW.turn (h : FW B w0 E ob cs q c l W) (ht : Turn B W V) (hB : B ≤ W.heap.size) : FW B w0 E ob cs q c l V :=
  ⟨h.bel.trans (ht.toBelow hB), h.errs.low (ht.toBelow hB) (Nat.le_refl _), ht.kind _ _ h.ho rfl, R_turn h.hb ht.kind (by decide)⟩
theorem FW.rturn (h : FW B w0 E ob cs q c l W) (ht : RTurn B W V) (hB : B ≤ W.heap.size) : FW B w0 E ob cs q c l V :=
  ⟨h.bel.trans (ht.toBelow hB), h.errs.low (ht.toBelow hB) (Nat.le_refl _), ht.kind _ _ h.ho rfl, R_rturn h.hb ht.kind (by decide)⟩
theorem FW.size (h : FW B w0 E ob cs q c l W) (hB : B ≤ w0.heap.size) : B ≤ W.heap.size := Nat.le_trans hB h.bel.size
end
/-- Another block that the disk's bytes are none of. -/
theorem _root_.Go.Proofs.YtpcfnkmljchiiaaGreatDoor.DAt.DiskAt.requ {n q0 q d : Nat} {D : Dsk} {W V : World} (h : DiskAt ⟨n, q0⟩ W d D) (hb : Below W.heap.size W V) (h1 : W.heap.size ≤ q) (h2 : q < V.heap.size) : DiskAt ⟨n, q⟩ V d D := by
  obtain ⟨L, m1, m2, fv, ov, hl⟩ := h
  have hv := hl.below hb
  have b5 : ∀ {v : Value} {l : List Int}, BytesAt ⟨n, q0⟩ W v l → BytesAt ⟨n, q⟩ V v l := fun hr => Kd.R_mono (Kd.R_below (Kd.R_bound hr) hb) (fun k hk e => by have := hk.2.2.1; simp only at e; omega)
  refine ⟨L, m1, m2, fv, ov, ⟨hv.obj, hv.lop, hv.lo1, hv.lo2, hv.ne, hv.now, hv.sure, hv.ptrs, hv.opn, ⟨hl.files.len, fun i x f hx hf => ?_, hl.files.far⟩, h2⟩⟩
  obtain ⟨⟨nv, sv, ho, hn, hs⟩, lo, hop⟩ := hl.files.each i x f hx hf
  exact ⟨⟨nv, sv, (hb.block _ (blk_lt ho)).trans ho, b5 hn, b5 hs⟩, lo, Kd.R_mono (Kd.R_below (Kd.R_bound hop) hb) (fun k hk e => by have := hk.2.2.1; simp only at e; omega)⟩
/-- That block may be written. -/
theorem _root_.Go.Proofs.YtpcfnkmljchiiaaGreatDoor.DAt.DiskAt.fill {n q d : Nat} {D : Dsk} {W : World} (h : DiskAt ⟨n, q⟩ W d D) {cs : Array Value} {m : Nat × Nat} (hq : W.heap[q]? = some (.cells cs 5 m)) (i : Nat) (u : Value) : DiskAt ⟨n, q⟩ (W.setCell ⟨q, i, none⟩ u) d D := by
  obtain ⟨L, m1, m2, fv, ov, hl⟩ := h
  have hk := But.setCell W ⟨q, i, none⟩ u
  have nt : ∀ qs : List Nat, 5 ∉ qs → Not W (some q) qs := fun qs hq2 => Not.cells (t := 5) (fun g' hg' => by obtain rfl := Option.some.inj hg'; exact ⟨_, _, hq⟩) (fun q' hq3 e => hq2 (e ▸ hq3))
  have nm : ∀ {m : Nat} {N : Nms}, NamesAt W m N → NamesAt (W.setCell ⟨q, i, none⟩ u) m N := fun hm => hm.same (hk.2 _ hm.lt (fun e => by
    obtain ⟨es, cl, h1⟩ := hm.obj
    have e := Option.some.inj e
    rw [e] at h1
    have h1 : W.heap[q]? = some (.map es cl) := h1
    rw [hq] at h1
    cases h1))
  have b5 : ∀ {v : Value} {l : List Int}, BytesAt ⟨n, q⟩ W v l → BytesAt ⟨n, q⟩ (W.setCell ⟨q, i, none⟩ u) v l := fun hr => Kd.R_step hr (fun k hne hl => hk.2 k hl (fun e => hne (Option.some.inj e)))
  refine ⟨L, m1, m2, fv, ov, ⟨hk.obj hl.obj (fun e => ?_), hl.lop, hl.lo1, hl.lo2, hl.ne, nm hl.now, nm hl.sure, R_row hl.ptrs hk (nt _ (by decide)), R_row hl.opn hk (nt _ (by decide)), ⟨hl.files.len, fun i x f hx hf => ?_, hl.files.far⟩, Nat.lt_of_lt_of_le hl.lt hk.1⟩⟩
  · have e := Option.some.inj e
    have h1 := hl.obj
    rw [e] at h1
    have h1 : W.heap[q]? = some (diskO fv m1 m2 ov D.quota D.armed D.off D.steps) := h1
    rw [hq] at h1
    cases h1
  · obtain ⟨⟨nv, sv, ho, hn, hs⟩, lo, hop⟩ := hl.files.each i x f hx hf
    refine ⟨⟨nv, sv, hk.obj ho (fun e => ?_), b5 hn, b5 hs⟩, lo, Kd.R_step hop (fun k hne hl => hk.2 k hl (fun e => hne (Option.some.inj e)))⟩
    have e := Option.some.inj e
    rw [e] at ho
    have ho : W.heap[q]? = _ := ho
    rw [hq] at ho
    cases ho
/-- The document's disk bears no bytes. -/
theorem _root_.Go.Proofs.YtpcfnkmljchiiaaGreatDoor.DRl.RDiskAt.fill {n q d : Nat} {D : Dsk} {W : World} (h : RDiskAt n W d D) {cs : Array Value} {m : Nat × Nat} (hq : W.heap[q]? = some (.cells cs 5 m)) (i : Nat) (u : Value) : RDiskAt n (W.setCell ⟨q, i, none⟩ u) d D := by
  obtain ⟨L, fv, nv, iv, ov, hl⟩ := h
  have hk := But.setCell W ⟨q, i, none⟩ u
  have nt : ∀ qs : List Nat, 5 ∉ qs → Not W (some q) qs := fun qs hq2 => Not.cells (t := 5) (fun g' hg' => by obtain rfl := Option.some.inj hg'; exact ⟨_, _, hq⟩) (fun q' hq3 e => hq2 (e ▸ hq3))
  refine ⟨L, fv, nv, iv, ov, ⟨hk.obj hl.obj (fun e => ?_), hl.lop, R_row hl.names hk (nt _ (by decide)), R_row hl.nums hk (nt _ (by decide)), R_row hl.ptrs hk (nt _ (by decide)), R_row hl.opn hk (nt _ (by decide)), RFilesAt.row hl.files hk (nt _ (by decide))⟩⟩
  have e := Option.some.inj e
  have h1 := hl.obj
  rw [e] at h1
  have h1 : W.heap[q]? = some (rdO fv nv iv ov D.quota D.armed D.off D.steps) := h1
  rw [hq] at h1
  cases h1
/-- Its quota, its power have been set. -/
theorem _root_.Go.Proofs.YtpcfnkmljchiiaaGreatDoor.DRl.RDiskAt.set {n d : Nat} {D : Dsk} {W : World} (h : RDiskAt n W d D) (i : Nat) (u : Value) (q ar : Int) (hu : ∀ fv nv iv ov : Value, (#[fv, nv, iv, ov, .int .i64 D.quota, .int .i64 D.armed, .bool D.off, .int .i64 D.steps] : Array Value).setIfInBounds i u = #[fv, nv, iv, ov, .int .i64 q, .int .i64 ar, .bool D.off, .int .i64 D.steps]) :
    RDiskAt n (W.setCell ⟨d, i, none⟩ u) d { D with quota := q, armed := ar } ∧ RTurn n W (W.setCell ⟨d, i, none⟩ u) := by
  obtain ⟨L, fv, nv, iv, ov, hl⟩ := h
  exact ⟨⟨L, fv, nv, iv, ov, reobj hl q ar D.off D.steps (blk_put hl.obj i u (hu fv nv iv ov)) (But.setCell W ⟨d, i, none⟩ u)⟩, (RTurn.refl n W).setCell hl.obj rfl hl.lop i u⟩
theorem _root_.Go.Proofs.YtpcfnkmljchiiaaGreatDoor.DAt.DiskAt.rturnN {B : Bx} {C p : Nat} {D : Dsk} {w w' : World} (h : DiskAt B w p D) (ht : RTurn C w w') : DiskAt B w' p D := by
  obtain ⟨L, m1, m2, fv, ov, hl⟩ := h
  have nm : ∀ {m : Nat} {N : Nms}, NamesAt w m N → NamesAt w' m N := fun hn => by
    obtain ⟨es, c, ho⟩ := hn.obj
    exact hn.same ((ht.kind _ _ ho rfl).trans ho.symm)
  refine ⟨L, m1, m2, fv, ov, ⟨ht.kind _ _ hl.obj rfl, hl.lop, hl.lo1, hl.lo2, hl.ne, nm hl.now, nm hl.sure, R_rturn hl.ptrs ht.kind (by decide), R_rturn hl.opn ht.kind (by decide), ⟨hl.files.len, fun i x f hx hf => ?_, hl.files.far⟩, Nat.lt_of_lt_of_le hl.lt ht.size⟩⟩
  obtain ⟨⟨nv, sv, ho, hn, hs⟩, lo, hop⟩ := hl.files.each i x f hx hf
  exact ⟨⟨nv, sv, ht.kind _ _ ho rfl, R_rturn hn ht.kind (by decide), R_rturn hs ht.kind (by decide)⟩, lo, R_rturn hop ht.kind (by decide)⟩
end Go.Proofs.YtpcfnkmljchiiaaGreatDoor.DRpa
