/- Steps towards RDiskAll: DRna. -/
import Derived.Test.YtpcfnkmljchiiaaGreatDoorZ33
set_option linter.unusedVariables false
set_option linter.unusedSimpArgs false
/- A step of the document's names. -/
namespace Go.Proofs.YtpcfnkmljchiiaaGreatDoor.DRna
open Go Go.RowKit Go.Maps Go.Proofs.YtpcfnkmljchiiaaGreatDoorW.PrintWords Go.Proofs.YtpcfnkmljchiiaaGreatDoorW.PrintLast DPl DAt DRn DRd DRl DRt DRdp DRnw DRak DRlm
variable {B p : Nat} {D : Dsk} {L : List (Nat × Value)} {fv nv iv ov : Value} {w w' w1 w2 : World}
theorem renow (h : RLies B w p D L fv nv iv ov) (N : Nms) : RLies B w p { D with now := N } L fv nv iv ov := ⟨h.obj, h.lop, h.names, h.nums, h.ptrs, h.opn, h.files⟩
theorem rstepL (h : RLies B w p D L fv nv iv ov) (hk : D.Ok) (hs : D.steps ≤ 1000000000) :
    Calls Tryz.prog 102 #[.pointer (some ⟨p, 0, none⟩)] w fun e w' => e = .returned (.int .i64 (rstepD D).1) ∧ RLies B w' p (rstepD D).2 L fv nv iv ov ∧ RTurn B w w' ∧ But w w' (some p) := by
  refine (rstep_calls (B := B) p D fv nv iv ov w h.obj h.lop hk.armed0 hk.armed1 hk.steps0 hs).mono ?_
  rintro e w' ⟨rfl, ho, hb, ht⟩
  refine ⟨rfl, ?_, ht, hb⟩
  have := reobj h _ _ _ _ ho hb
  have e2 : (rstepD D).2 = { D with quota := (rstepD D).2.quota, armed := (rstepD D).2.armed, off := (rstepD D).2.off, steps := (rstepD D).2.steps } := by
    unfold rstepD
    split <;> rfl
  rw [e2]
  exact this
theorem infoE : (Tryz.prog.info? 144).map (fun i => (i.zero, i.size, i.bytes)) = some (some (.agg #[.string ⟨#[]⟩, .string ⟨#[]⟩, .int .i64 0]), 3, 40) := by kernel_rfl
set_option maxRecDepth 100000 in
set_option maxHeartbeats 8000000 in
theorem name_calls (e : Ent) (h : RDiskAt B w p D) (hk : D.Ok) (hs : D.steps ≤ 1000000000) :
    Calls Tryz.prog 98 #[.pointer (some ⟨p, 0, none⟩), .agg #[.string e.name, .string e.gone, .int .i64 e.file]] w fun en w' => en = .returned (.int .i64 (numE (namedD D e).1)) ∧ RDiskAt B w' p (namedD D e).2 ∧ RTurn B w w' := by
  obtain ⟨L, fv, nv, iv, ov, hl⟩ := h
  obtain ⟨name, gone, file⟩ := e
  have hba : Below w.heap.size w (w.alloc (.cells #[.string name, .string gone, .int .i64 file] tE)) := (Below.refl _ _).alloc (Nat.le_refl _) _
  have HS := Aside0.mk (rstepL (same hl hba) hk hs)
  have HBa := Aside0.mk hba
  have HE0 := Aside0.mk (heap_alloc_new w (.cells #[.string name, .string gone, .int .i64 file] tE))
  have hcnt : D.opn.length ≤ 1000000000 := by have := hk.cntN; omega
  have hlo := hl.lop
  have HO9 := Aside0.mk (show ∀ k, ov.ownBlock = some k → k < w.heap.size from fun k hk => by obtain ⟨inner, how⟩ := own_of hl.opn; exact own_lt how k hk)
  have hpl := blk_lt hl.obj
  by_cases h0 : D.armed = 0
  · have e1 : rstepD D = (8, offD D) := by unfold rstepD; rw [if_pos h0]
    have HN := Aside0.mk (show namedD D ⟨name, gone, file⟩ = (some 8, offD D) by unfold namedD; rw [if_pos h0])
    rw [e1] at HS
    clear hl hk hs hba e1 h0
    go_enter Tryz.func98, Tryz.ntmps98
    go_wp2_with (go_at_call 102; refine HS.out.mono ?_; rintro e w1 ⟨rfl, hl1, ht1, hb1⟩; have HL1 := Aside0.mk hl1; have HT1 := Aside0.mk ht1; clear hl1 ht1 hb1)
    go_ret
    rw [HN.out]
    exact ⟨rfl, ⟨_, _, _, _, _, HL1.out⟩, (RTurn.of_below HBa.out).trans HT1.out⟩
  · have e1 : rstepD D = (0, stepD D) := by unfold rstepD; rw [if_neg h0]
    have HN := Aside0.mk (show namedD D ⟨name, gone, file⟩ = (none, addE (stepD D) ⟨name, gone, file⟩) by unfold namedD; rw [if_neg h0])
    rw [e1] at HS
    clear hl hk hs hba e1 h0
    go_enter Tryz.func98, Tryz.ntmps98
    go_upto_region 4 with (go_at_call 102; refine HS.out.mono ?_; rintro e w1 ⟨rfl, hl1, ht1, hb1⟩; have HL1 := Aside0.mk hl1; have HT1 := Aside0.mk ht1; have HE1 := Aside0.mk (hb1.obj HE0.out (fun e => by have := Option.some.inj e; omega)); clear hl1 ht1 hb1)
    have HL2 := Aside0.mk (show RLies B w1.drew p (stepD D) L fv nv iv ov from same HL1.out (Below.refl _ _).drew)
    have HE2 := Aside0.mk (show w1.drew.heap[w.heap.size]? = some (.cells #[.string name, .string gone, .int .i64 file] tE (0, 0)) from HE1.out)
    have HT2 := Aside0.mk (show RTurn B w w1.drew from ((RTurn.of_below HBa.out).trans HT1.out).below (Below.refl _ _).drew)
    have cb0 := (blk_cell HE2.out 0).trans (rfl : _ = some (Value.string name))
    have cb1 := (blk_cell HE2.out 1).trans (rfl : _ = some (Value.string gone))
    have cb2 := (blk_cell HE2.out 2).trans (rfl : _ = some (Value.int .i64 file))
    have cp3 := (blk_cell HL2.out.obj 3).trans (rfl : _ = some ov)
    clear HL1 HT1 HE1 HS
    refine start_ (n := 11) (S := fun w' => w'.cell? ⟨w.heap.size, 0, none⟩ = some (.string name) ∧ w'.cell? ⟨w.heap.size, 1, none⟩ = some (.string gone) ∧ w'.cell? ⟨w.heap.size, 2, none⟩ = some (.int .i64 file) ∧ w'.cell? ⟨p, 3, none⟩ = some ov) (ds := [10]) #[ff,ff,ff,ff,ff,ff,ff,ff,ff,ff,ff] (by kernel_rfl) rfl rfl ⟨cb0, cb1, cb2, cp3⟩ (fun hHeld => ?_)
    generalize w1.drew = w2 at HL2 HE2 HT2 cb0 cb1 cb2 cp3 hHeld ⊢
    have hHeld0 := hHeld
    refine pure_ (i := 0) (N := some 11) (v := ?_) (a' := ?_) #[tt,ff,ff,ff,ff,ff,ff,ff,ff,ff,ff] rfl rfl (by kernel_rfl) (fun _ _ _ h => h) (Or.inl ⟨by rfl, ?_⟩) ?_ ?_
    rotate_left
    · intro w'
      go_simp
      with_reducible rfl
    rotate_left
    · simp only [Act.put, pkA, pkB, pkC, i64_w, i32_w]
      rfl
    refine pure_ (i := 1) (N := some 12) (v := ?_) (a' := ?_) #[tt,tt,ff,ff,ff,ff,ff,ff,ff,ff,ff] rfl rfl (by kernel_rfl) (fun _ _ _ h => h) (Or.inl ⟨by rfl, ?_⟩) ?_ ?_
    rotate_left
    · intro w'
      go_simp
      with_reducible rfl
    rotate_left
    · simp only [Act.put, pkA, pkB, pkC, i64_w, i32_w]
      rfl
    refine pure_ (i := 2) (N := some 13) (v := ?_) (a' := ?_) #[tt,tt,tt,ff,ff,ff,ff,ff,ff,ff,ff] rfl rfl (by kernel_rfl) (fun _ _ _ h => h) (Or.inl ⟨by rfl, ?_⟩) ?_ ?_
    rotate_left
    · intro w'
      go_simp
      with_reducible rfl
    rotate_left
    · simp only [Act.put, pkA, pkB, pkC, i64_w, i32_w]
      rfl
    refine pure_ (i := 3) (N := some 14) (v := ?_) (a' := ?_) #[tt,tt,tt,tt,ff,ff,ff,ff,ff,ff,ff] rfl rfl (by kernel_rfl) (fun _ _ _ h => h) (Or.inl ⟨by rfl, ?_⟩) ?_ ?_
    rotate_left
    · intro w'
      go_simp
      with_reducible rfl
    rotate_left
    · simp only [Act.put, pkA, pkB, pkC, i64_w, i32_w]
      rfl
    refine take_ (i := 4) (N := some 15) (v := ?_) (a' := ?_) #[tt,tt,tt,tt,tt,ff,ff,ff,ff,ff,ff] rfl rfl (by kernel_rfl) (fun _ _ _ h => h) (Or.inl ⟨by rfl, ?_⟩) hHeld ?_ ?_
    rotate_left
    · rintro w' ⟨s0, s1, s2, s3⟩
      go_simp
      with_reducible rfl
    rotate_left
    · simp only [Act.put, pkA, pkB, pkC, i64_w, i32_w]
      rfl
    refine take_ (i := 5) (N := some 16) (v := ?_) (a' := ?_) #[tt,tt,tt,tt,tt,tt,ff,ff,ff,ff,ff] rfl rfl (by kernel_rfl) (fun _ _ _ h => h) (Or.inl ⟨by rfl, ?_⟩) hHeld ?_ ?_
    rotate_left
    · rintro w' ⟨s0, s1, s2, s3⟩
      go_simp
      with_reducible rfl
    rotate_left
    · simp only [Act.put, pkA, pkB, pkC, i64_w, i32_w]
      rfl
    refine one_ (i := 6) (N := some 17) #[tt,tt,tt,tt,tt,tt,tt,ff,ff,ff,ff] rfl rfl (by kernel_rfl) (by decide) (fun K hK => ?_)
    refine value_ (w1 := ?_) (v := ?_) (by rfl) rfl ?_ ?_
    rotate_left 2
    · go_simp
      constructor
      · rfl
      · rfl
    have k := fun (g i : Nat) (v : Value) (hc : w2.cell? ⟨g, i, none⟩ = some v) => (((Below.refl _ w2).alloc (Nat.le_refl _) (.cells #[.string name, .string gone, .int .i64 file] 144)).cell (p := ⟨g, i, none⟩) (World.block_lt_of_cell? w2 _ hc)).trans hc
    refine hK.out _ _ ⟨(k _ _ _ hHeld.1), (k _ _ _ hHeld.2.1), (k _ _ _ hHeld.2.2.1), (k _ _ _ hHeld.2.2.2)⟩ (fun hHeld => ?_)
    clear hK K
    refine norm_ (a' := ?_) ?_ ?_
    rotate_left
    · show Act.put _ (some 17) _ = _
      simp only [Act.put, pkA, pkB, pkC, i64_w, i32_w]
      rfl
    refine one_ (i := 7) (N := some 18) #[tt,tt,tt,tt,tt,tt,tt,tt,ff,ff,ff] rfl rfl (by kernel_rfl) (by decide) (fun K hK => ?_)
    refine Kd.R_append_step kEnt (w0 := w2) B (by rfl) (.tmp 15) (.tmp 17) 45 144 (.agg #[.string ⟨#[]⟩, .string ⟨#[]⟩, .int .i64 0]) 40 rfl Tryz.underlying45 infoE rfl (by decide) (by omega) ov D.opn ⟨name, gone, file⟩ [.string name, .string gone, .int .i64 file] (fun _ => True) (fun _ => False) rfl rfl ?aP (fun _ h => h.elim) (fun _ _ => trivial) ?aO (Below.refl _ _) ?aS ?aL ?_
    case aP => exact ⟨[.string name], [.string gone, .int .i64 file], rfl, rfl, [.string gone], [.int .i64 file], rfl, rfl, rfl⟩
    case aO => exact HL2.out.opn
    case aS => have := HL2.out.lop; have := blk_lt HL2.out.obj; omega
    case aL => omega
    intro v15 w3 ho hb hg hat
    obtain ⟨A15, cp15, rfl⟩ := Kd.R_slice ho
    obtain ⟨inner, how⟩ := own_of HL2.out.opn
    have op1 : some p ≠ ov.ownBlock := fun e => by obtain ⟨cs, hc⟩ := own_typed how p e.symm; rw [HL2.out.obj] at hc; cases hc
    have hob : some w.heap.size ≠ ov.ownBlock := fun e => by have h8 := HO9.out _ e.symm; omega
    have k := fun (g i : Nat) (v : Value) (hc : w2.cell? ⟨g, i, none⟩ = some v) (hne : some g ≠ ov.ownBlock) => hg.cell (a := ⟨g, i, none⟩) (v := v) hc hne
    have e0 := k _ _ _ hHeld0.1 hob
    have e1 := k _ _ _ hHeld0.2.1 hob
    have e2 := k _ _ _ hHeld0.2.2.1 hob
    have e3 := k _ _ _ hHeld0.2.2.2 op1
    have fz : w3.frozen? ⟨p, 3, none⟩ = false := blk_frozen ((But.grown hg).obj HL2.out.obj op1) 3
    have HE3 := Aside0.mk ho
    have HG3 := Aside0.mk hg
    clear ho hb hg hat how op1 k hob
    refine hK.out _ _ ⟨e0, e1, e2, e3⟩ (fun hHeld => ?_)
    clear hK K
    refine norm_ (a' := ?_) ?_ ?_
    rotate_left
    · show Act.put _ (some 18) _ = _
      simp only [Act.put, pkA, pkB, pkC, i64_w, i32_w]
      rfl
    refine pure_ (i := 8) (N := some 19) (v := ?_) (a' := ?_) #[tt,tt,tt,tt,tt,tt,tt,tt,tt,ff,ff] rfl rfl (by kernel_rfl) (fun _ _ _ h => h) (Or.inl ⟨by rfl, ?_⟩) ?_ ?_
    rotate_left
    · intro w'
      go_simp
      with_reducible rfl
    rotate_left
    · simp only [Act.put, pkA, pkB, pkC, i64_w, i32_w]
      rfl
    refine pure_ (i := 9) (N := some 20) (v := ?_) (a' := ?_) #[tt,tt,tt,tt,tt,tt,tt,tt,tt,tt,ff] rfl rfl (by kernel_rfl) (fun _ _ _ h => h) (Or.inl ⟨by rfl, ?_⟩) ?_ ?_
    rotate_left
    · intro w'
      go_simp
      with_reducible rfl
    rotate_left
    · simp only [Act.put, pkA, pkB, pkC, i64_w, i32_w]
      rfl
    refine last_ (i := 10) (N := none) #[tt,tt,tt,tt,tt,tt,tt,tt,tt,tt,tt] rfl rfl (by kernel_rfl) (by decide) (fun K hK => ?_)
    refine skip_ (w1 := ?_) (by rfl) rfl ?_ ?_
    rotate_left
    · go_simp
      rfl
    refine hK.out _ _ ?_
    clear hK K
    refine done_ (by kernel_rfl) ?_
    go_wp2
    go_ret
    have hE : REntsAt B w3 (.slice A15 (D.opn.length + 1) cp15) (D.opn ++ [⟨name, gone, file⟩]) := by
      have h5 := HE3.out
      rw [show (D.opn ++ [(⟨name, gone, file⟩ : Ent)]).length = D.opn.length + 1 by simp] at h5
      exact h5
    obtain ⟨hL, hT⟩ := reopn HL2.out hE HG3.out
    rw [HN.out]
    exact ⟨rfl, ⟨_, _, _, _, _, renow hL ((⟨name, gone, file⟩ : Ent).go D.now)⟩, HT2.out.trans hT⟩
end Go.Proofs.YtpcfnkmljchiiaaGreatDoor.DRna
