/- Disk: SyncDir, Rename, Create. -/
import Derived.Test.YtpcfnkmljchiiaaDoorDShc
namespace Go.Proofs.YtpcfnkmljchiiaaDoor.DAt
open Go Go.RowKit Go.Maps Go.Proofs.YtpcfnkmljchiiaaDoorW.PrintWords Go.Proofs.YtpcfnkmljchiiaaDoor.DPl Go.Proofs.YtpcfnkmljchiiaaDoor.Is
set_option linter.unusedVariables false
variable {B p : Nat} {D : Dsk} {L : List (Nat × Value)} {m1 m2 : Nat} {fv ov : Value} {w w' : World}
/-- The struct has been laid anew: other maps, another row of names' steps. -/
theorem Lies.remake (h : Lies B w p D L m1 m2 fv ov) (hk : But w w' (some p)) {n1 n2 : Nat} {ov1 : Value} {N1 N2 : Nms} {es : List Ent} {q ar st : Int} {off : Bool} (ho : w'.heap[p]? = some (diskO fv n1 n2 ov1 q ar off st)) (h1 : NamesAt w' n1 N1) (h2 : NamesAt w' n2 N2)
    (l1 : B ≤ n1) (l2 : B ≤ n2) (hne : n1 ≠ n2) (hE : EntsAt B w' ov1 es) : Lies B w' p ⟨D.files, N1, N2, es, q, ar, off, st⟩ L n1 n2 fv ov1 :=
  ⟨ho, h.lop, l1, l2, hne, h1, h2, R_row h.ptrs hk (h.notp _ (by rw [kPtrE]; decide)), hE, h.files.row hk (h.notp _ (by decide))⟩
end Go.Proofs.YtpcfnkmljchiiaaDoor.DAt
namespace Go.Proofs.YtpcfnkmljchiiaaDoor.DSd
open Go Go.RowKit Go.Maps Go.WideMaps Go.Proofs.YtpcfnkmljchiiaaDoorW.PrintWords Go.Proofs.YtpcfnkmljchiiaaDoorW.PrintLast Go.Proofs.YtpcfnkmljchiiaaDoor.DBase Go.Proofs.YtpcfnkmljchiiaaDoor.DPl Go.Proofs.YtpcfnkmljchiiaaDoor.DAt Go.Proofs.YtpcfnkmljchiiaaDoor.DEnt Go.Proofs.YtpcfnkmljchiiaaDoor.DNam Go.Proofs.YtpcfnkmljchiiaaDoor.Is Go.Proofs.YtpcfnkmljchiiaaDoor.DFil Go.Proofs.YtpcfnkmljchiiaaDoor.DUsd Go.Proofs.YtpcfnkmljchiiaaDoor.DStp Go.Proofs.YtpcfnkmljchiiaaDoor.DOps Go.Proofs.YtpcfnkmljchiiaaDoor.DSyn Go.Proofs.YtpcfnkmljchiiaaDoor.DShc Go.Proofs.YtpcfnkmljchiiaaDoor.DAsk Go.Proofs.YtpcfnkmljchiiaaDoor.Right
set_option linter.unusedVariables false
set_option linter.unusedSimpArgs false
section
variable (B p : Nat) (D : Dsk) (E : Int → Addr) (w : World)
set_option maxRecDepth 100000 in
set_option maxHeartbeats 4000000 in
/-- ask of no name. -/
theorem ask_zero (h : DiskAt B w p D) (hE : ErrAt B w E) : Calls Tryd.prog 30 #[.pointer (some ⟨p, 0, none⟩), .slice none 0 0] w fun e w' => e = .returned (errV E (if D.off = true then some 8 else none)) ∧ w' = w := by
  obtain ⟨L, m1, m2, fv, ov, hl⟩ := h
  have c6 : w.cell? ⟨p, 6, none⟩ = some (.bool D.off) := (blk_cell hl.obj 6).trans rfl
  have c8 := hE.errs.var 8 (by simp [dErr])
  rw [gPower] at c8
  clear hl hE
  cases ho : D.off with
  | true =>
    rw [ho] at c6
    rw [if_pos rfl, errV_some]
    go_enter Tryd.func30, Tryd.ntmps30
    go_wp2
    go_ret
    exact ⟨rfl, rfl⟩
  | false =>
    rw [ho] at c6
    rw [if_neg (by simp), errV_none]
    go_enter Tryd.func30, Tryd.ntmps30
    go_wp2
    refine wp_loop_rounds 1 ?_
    rw [rounds_succ]
    go_wp2
    go_ret
    exact ⟨rfl, rfl⟩
set_option maxRecDepth 100000 in
set_option maxHeartbeats 4000000 in
theorem syncdir1 (L : List (Nat × Value)) (m1 m2 : Nat) (fv ov : Value) (ga : Nat) (h : Lies B w p D L m1 m2 fv ov) (ca : w.cell? ⟨ga, 0, none⟩ = some (.pointer (some ⟨p, 0, none⟩))) (n1 : ga ≠ p) :
    Calls Tryd.prog 38 #[.pointer (some ⟨ga, 0, none⟩)] w fun en w' => en = .returned (.tuple #[]) ∧ (DiskAt B w' p { D with sure := D.now, opn := [] } ∧ Turn B w w') := by
  have e1 : w.cell? ⟨p, 1, none⟩ = some (.map (some m1)) := (blk_cell h.obj 1).trans rfl
  have HL := Aside0.mk h
  have HPl := Aside0.mk (blk_lt h.obj)
  have HCl := Aside0.mk (fun (U : World) (hN : NamesAt U m1 D.now) => clone_calls m1 D.now U hN)
  clear h
  go_enter Tryd.func38, Tryd.ntmps38
  go_wp2
  refine start_ (n := 13) (S := fun w' => w'.cell? ⟨ga, 0, none⟩ = some (.pointer (some ⟨p, 0, none⟩)) ∧ w'.cell? ⟨p, 1, none⟩ = some (.map (some m1))) (ds := []) #[false, false, false, false, false, false, false, false, false, false, false, false, false] (by kernel_rfl) rfl rfl ⟨ca, e1⟩ (fun hHeld => ?_)
  have HL2 := Aside0.mk HL.out.drew
  have HT2 := Aside0.mk (Turn.refl B w).drew
  have HP2 := Aside0.mk (show p < w.drew.heap.size from HPl.out)
  have HZ2 := Aside0.mk (show w.drew.heap.size = w.heap.size from rfl)
  generalize w.drew = w2 at HL2 HT2 HP2 HZ2 hHeld ⊢
  refine take_ (i := 0) (N := some 1) (v := ?_) (a' := ?_) #[true, false, false, false, false, false, false, false, false, false, false, false, false] rfl rfl (by kernel_rfl) (fun _ _ _ h => h) (Or.inl ⟨by rfl, ?_⟩) hHeld ?_ ?_
  rotate_left
  · rintro w' ⟨s0, s1⟩
    go_simp
    with_reducible rfl
  rotate_left
  · simp only [Act.put, List.setIfInBounds_toArray, List.set_cons_zero, List.set_cons_succ, i64_w, i32_w]
    rfl
  refine take_ (i := 1) (N := some 2) (v := ?_) (a' := ?_) #[true, true, false, false, false, false, false, false, false, false, false, false, false] rfl rfl (by kernel_rfl) (fun _ _ _ h => h) (Or.inl ⟨by rfl, ?_⟩) hHeld ?_ ?_
  rotate_left
  · rintro w' ⟨s0, s1⟩
    go_simp
    with_reducible rfl
  rotate_left
  · simp only [Act.put, List.setIfInBounds_toArray, List.set_cons_zero, List.set_cons_succ, i64_w, i32_w]
    rfl
  refine take_ (i := 2) (N := some 3) (v := ?_) (a' := ?_) #[true, true, true, false, false, false, false, false, false, false, false, false, false] rfl rfl (by kernel_rfl) (fun _ _ _ h => h) (Or.inl ⟨by rfl, ?_⟩) hHeld ?_ ?_
  rotate_left
  · rintro w' ⟨s0, s1⟩
    go_simp
    with_reducible rfl
  rotate_left
  · simp only [Act.put, List.setIfInBounds_toArray, List.set_cons_zero, List.set_cons_succ, i64_w, i32_w]
    rfl
  refine pure_ (i := 3) (N := some 4) (v := ?_) (a' := ?_) #[true, true, true, true, false, false, false, false, false, false, false, false, false] rfl rfl (by kernel_rfl) (fun _ _ _ h => h) (Or.inl ⟨by rfl, ?_⟩) ?_ ?_
  rotate_left
  · intro w'
    go_simp
    with_reducible rfl
  rotate_left
  · simp only [Act.put, List.setIfInBounds_toArray, List.set_cons_zero, List.set_cons_succ, i64_w, i32_w]
    rfl
  refine pure_ (i := 4) (N := some 5) (v := ?_) (a' := ?_) #[true, true, true, true, true, false, false, false, false, false, false, false, false] rfl rfl (by kernel_rfl) (fun _ _ _ h => h) (Or.inl ⟨by rfl, ?_⟩) ?_ ?_
  rotate_left
  · intro w'
    go_simp
    with_reducible rfl
  rotate_left
  · simp only [Act.put, List.setIfInBounds_toArray, List.set_cons_zero, List.set_cons_succ, i64_w, i32_w]
    rfl
  refine take_ (i := 5) (N := some 6) (v := ?_) (a' := ?_) #[true, true, true, true, true, true, false, false, false, false, false, false, false] rfl rfl (by kernel_rfl) (fun _ _ _ h => h) (Or.inl ⟨by rfl, ?_⟩) hHeld ?_ ?_
  rotate_left
  · rintro w' ⟨s0, s1⟩
    go_simp
    with_reducible rfl
  rotate_left
  · simp only [Act.put, List.setIfInBounds_toArray, List.set_cons_zero, List.set_cons_succ, i64_w, i32_w]
    rfl
  refine one_ (i := 6) (N := some 7) #[true, true, true, true, true, true, true, false, false, false, false, false, false] rfl rfl (by kernel_rfl) (by decide) (fun K hK => ?_)
  refine goes_ Tryd.func39 (by kernel_rfl) rfl #[.map (some m1)] (by rfl) rfl rfl (by simp only [List.map_toArray, List.map_cons, List.map_nil]; rfl) ?_
  with_reducible refine (HCl.out w2 HL2.out.now).mono ?_
  rintro e w3 ⟨rfl, hn, hb⟩
  refine ⟨_, rfl, ?_⟩
  have k := fun (g i : Nat) (u : Value) (hc : w2.cell? ⟨g, i, none⟩ = some u) => (hb.cell (p := ⟨g, i, none⟩) (World.block_lt_of_cell? w2 _ hc)).trans hc
  have HN3 := Aside0.mk hn
  have HB3 := Aside0.mk hb
  have HL3 := Aside0.mk (HL2.out.below hb)
  have c2 : w3.cell? ⟨p, 2, none⟩ = some (.map (some m2)) := (blk_cell HL3.out.obj 2).trans rfl
  have f2 : w3.frozen? ⟨p, 2, none⟩ = false := blk_frozen HL3.out.obj 2
  have HO4 := Aside0.mk (blk_put HL3.out.obj 2 (.map (some w2.heap.size)) rfl)
  have c3 : (w3.setCell ⟨p, 2, none⟩ (.map (some w2.heap.size))).cell? ⟨p, 3, none⟩ = some ov := (blk_cell HO4.out 3).trans rfl
  have f3 : (w3.setCell ⟨p, 2, none⟩ (.map (some w2.heap.size))).frozen? ⟨p, 3, none⟩ = false := blk_frozen HO4.out 3
  clear hn hb
  refine hK.out _ _ ⟨(k _ _ _ hHeld.1), (k _ _ _ hHeld.2)⟩ (fun hHeld => ?_)
  clear hK K
  refine norm_ (a' := ?_) ?_ ?_
  rotate_left
  · show Act.put _ (some 7) _ = _
    simp only [Act.put, List.setIfInBounds_toArray, List.set_cons_zero, List.set_cons_succ, i64_w, i32_w]
    rfl
  refine pure_ (i := 7) (N := some 8) (v := ?_) (a' := ?_) #[true, true, true, true, true, true, true, true, false, false, false, false, false] rfl rfl (by kernel_rfl) (fun _ _ _ h => h) (Or.inl ⟨by rfl, ?_⟩) ?_ ?_
  rotate_left
  · intro w'
    go_simp
    with_reducible rfl
  rotate_left
  · simp only [Act.put, List.setIfInBounds_toArray, List.set_cons_zero, List.set_cons_succ, i64_w, i32_w]
    rfl
  refine pure_ (i := 8) (N := some 9) (v := ?_) (a' := ?_) #[true, true, true, true, true, true, true, true, true, false, false, false, false] rfl rfl (by kernel_rfl) (fun _ _ _ h => h) (Or.inl ⟨by rfl, ?_⟩) ?_ ?_
  rotate_left
  · intro w'
    go_simp
    with_reducible rfl
  rotate_left
  · simp only [Act.put, List.setIfInBounds_toArray, List.set_cons_zero, List.set_cons_succ, i64_w, i32_w]
    rfl
  refine one_ (i := 9) (N := none) #[true, true, true, true, true, true, true, true, true, true, false, false, false] rfl rfl (by kernel_rfl) (by decide) (fun K hK => ?_)
  refine skip_ (w1 := ?_) (by rfl) rfl ?_ ?_
  rotate_left
  · go_simp
    rfl
  refine hK.out _ _ ⟨(cell_far2 hHeld.1 (p := ⟨p, 2, none⟩) n1 _), ((blk_cell HO4.out 1).trans rfl)⟩ (fun hHeld => ?_)
  clear hK K
  refine pure_ (i := 10) (N := some 10) (v := ?_) (a' := ?_) #[true, true, true, true, true, true, true, true, true, true, true, false, false] rfl rfl (by kernel_rfl) (fun _ _ _ h => h) (Or.inl ⟨by rfl, ?_⟩) ?_ ?_
  rotate_left
  · intro w'
    go_simp
    with_reducible rfl
  rotate_left
  · simp only [Act.put, List.setIfInBounds_toArray, List.set_cons_zero, List.set_cons_succ, i64_w, i32_w]
    rfl
  refine pure_ (i := 11) (N := some 11) (v := ?_) (a' := ?_) #[true, true, true, true, true, true, true, true, true, true, true, true, false] rfl rfl (by kernel_rfl) (fun _ _ _ h => h) (Or.inl ⟨by rfl, ?_⟩) ?_ ?_
  rotate_left
  · intro w'
    go_simp
    with_reducible rfl
  rotate_left
  · simp only [Act.put, List.setIfInBounds_toArray, List.set_cons_zero, List.set_cons_succ, i64_w, i32_w]
    rfl
  refine one_ (i := 12) (N := none) #[true, true, true, true, true, true, true, true, true, true, true, true, true] rfl rfl (by kernel_rfl) (by decide) (fun K hK => ?_)
  refine skip_ (w1 := ?_) (by rfl) rfl ?_ ?_
  rotate_left
  · go_simp
    rfl
  refine hK.out _ _ ⟨(cell_far2 hHeld.1 (p := ⟨p, 3, none⟩) n1 _), ((blk_cell (blk_put HO4.out 3 (.slice none 0 0) rfl) 1).trans rfl)⟩ (fun hHeld => ?_)
  clear hK K
  refine done_ (by kernel_rfl) ?_
  go_end0
  have k1 := (But.setCell w3 ⟨p, 2, none⟩ (.map (some w2.heap.size))).trans (But.setCell _ ⟨p, 3, none⟩ (.slice none 0 0))
  have hnm := HL3.out.now
  have n1 := hnm.same (k1.2 _ hnm.lt (HL3.out.nep hnm))
  have n2 := HN3.out.same (k1.2 _ HN3.out.lt (HL3.out.nep HN3.out))
  have l2 := HL2.out.now.lt
  have hB := HL2.out.lop
  have hp2 := HP2.out
  refine ⟨rfl, ⟨_, _, _, _, _, HL3.out.remake k1 (blk_put HO4.out 3 (.slice none 0 0) rfl) n1 n2 HL3.out.lo1 (by omega) (by omega) (Kd.R_nil _ _ _ _ _)⟩, ?_⟩
  exact ((HT2.out.below HB3.out).setCell HL3.out.obj rfl HL3.out.lop 2 _).setCell HO4.out rfl HL3.out.lop 3 _
def syncDirD (D : Dsk) : Option Int × Dsk := if D.off = true then (some 8, D) else if D.armed = 0 then (some 8, offD D) else (none, { stepD D with sure := D.now, opn := [] })
set_option maxRecDepth 100000 in
set_option maxHeartbeats 4000000 in
theorem syncDir_calls (h : DiskAt B w p D) (hE : ErrAt B w E) (hk : D.Ok) (hst : D.steps ≤ 1000000000) :
    Calls Tryd.prog 17 #[.pointer (some ⟨p, 0, none⟩)] w fun e w' => e = .returned (errV E (syncDirD D).1) ∧ DiskAt B w' p (syncDirD D).2 ∧ Turn B w w' := by
  have HB0 := Aside0.mk (show Below w.heap.size w (w.alloc (.cells #[.pointer (some ⟨p, 0, none⟩)] 23)) from (Below.refl _ _).alloc (Nat.le_refl _) _)
  have c0 : (w.alloc (.cells #[.pointer (some ⟨p, 0, none⟩)] 23)).cell? ⟨w.heap.size, 0, none⟩ = some (.pointer (some ⟨p, 0, none⟩)) := (World.cell?_alloc_new _ _ _ _).trans rfl
  have h1 := h.below HB0.out
  have hE1 := hE.turn (Turn.of_below HB0.out)
  have HA := Aside0.mk (ask_zero B p D E _ h1 hE1)
  have HH := Aside0.mk h1
  by_cases ho : D.off = true
  · have e : syncDirD D = (some 8, D) := if_pos ho
    rw [e]
    rw [if_pos ho] at HA
    simp only [errV_some] at HA ⊢
    clear e h hE h1 hE1 ho
    go_enter Tryd.func17, Tryd.ntmps17
    go_wp2_with (go_at_call 30; refine HA.out.mono ?_; rintro e w1 ⟨rfl, rfl⟩)
    go_ret
    exact ⟨rfl, HH.out, Turn.of_below HB0.out⟩
  · rw [if_neg ho, errV_none] at HA
    obtain ⟨L, m1, m2, fv, ov, hl⟩ := h1
    have hpl : p < w.heap.size := by obtain ⟨L, m1, m2, fv, ov, hl⟩ := h; exact blk_lt hl.obj
    by_cases h0 : D.armed = 0
    · have e : syncDirD D = (some 8, offD D) := by unfold syncDirD; rw [if_neg ho, if_pos h0]
      rw [e]
      simp only [errV_some]
      have HS := Aside0.mk (fun (fn : Value) => step_off B p D L m1 m2 fv ov E fn _ hl hE1 h0)
      clear e h hE hE1 ho hl h0
      go_enter Tryd.func17, Tryd.ntmps17
      go_wp2_with (first
        | (go_at_call 30; refine HA.out.mono ?_; rintro e w1 ⟨rfl, rfl⟩)
        | (go_at_call 36; refine (HS.out _).mono ?_; rintro e w2 ⟨rfl, hl2, hb2, ht2⟩; have HL2 := Aside0.mk hl2; have HT2 := Aside0.mk ht2; clear hl2 hb2 ht2; rw [errV_some]))
      go_ret
      exact ⟨rfl, ⟨_, _, _, _, _, HL2.out⟩, (Turn.of_below HB0.out).trans HT2.out⟩
    · have e : syncDirD D = (none, { stepD D with sure := D.now, opn := [] }) := by unfold syncDirD; rw [if_neg ho, if_neg h0]
      rw [e]
      simp only [errV_none]
      have HS := Aside0.mk (step_syncdir B p D L m1 m2 fv ov w.heap.size (fun w' => DiskAt B w' p { stepD D with sure := D.now, opn := [] } ∧ Turn B (w.alloc (.cells #[.pointer (some ⟨p, 0, none⟩)] 23)) w') _ hl h0 hk.armed1 hk.armed0 hk.steps0 (by omega)
        (fun w1 hl1 hb1 ht1 => by
          have ca1 := (World.cell?_of_block (w' := w1) (a := ⟨w.heap.size, 0, none⟩) (hb1.2 w.heap.size (World.block_lt_of_cell? _ _ c0) (fun e => by have := Option.some.inj e; omega))).trans c0
          refine (syncdir1 B p (stepD D) w1 L m1 m2 fv ov w.heap.size hl1 ca1 (by omega)).mono ?_
          rintro e w3 ⟨rfl, h1, h2⟩
          exact ⟨rfl, h1, ht1.trans h2⟩))
      clear e h hE hE1 ho hl h0 hk
      go_enter Tryd.func17, Tryd.ntmps17
      go_wp2_with (first
        | (go_at_call 30; refine HA.out.mono ?_; rintro e w1 ⟨rfl, rfl⟩)
        | (go_at_call 36; refine HS.out.mono ?_; rintro e w2 ⟨rfl, hd2, ht2⟩; have HD2 := Aside0.mk hd2; have HT2 := Aside0.mk ht2; clear hd2 ht2))
      go_ret
      exact ⟨rfl, HD2.out, (Turn.of_below HB0.out).trans HT2.out⟩
end
end Go.Proofs.YtpcfnkmljchiiaaDoor.DSd
