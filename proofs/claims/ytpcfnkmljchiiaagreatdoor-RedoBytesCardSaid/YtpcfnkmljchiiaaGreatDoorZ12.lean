/- Steps towards RBoth: DSd, DCr, DCra, DSwp. -/
import Derived.Test.YtpcfnkmljchiiaaGreatDoorZ11
set_option linter.unusedVariables false
set_option linter.unusedSimpArgs false
section
/- Disk: SyncDir, Rename, Create. -/
namespace Go.Proofs.YtpcfnkmljchiiaaGreatDoor.DAt
open Go Go.RowKit Go.Maps Go.Proofs.YtpcfnkmljchiiaaGreatDoorW.PrintWords DPl Go.Proofs.YtpcfnkmljchiiaaGreatDoor.Is
variable {B : Bx} {p : Nat} {D : Dsk} {L : List (Nat × Value)} {m1 m2 : Nat} {fv ov : Value} {w w' : World}
/-- The struct has been laid anew: other maps, another row of names' steps. -/
theorem Lies.remake (h : Lies B w p D L m1 m2 fv ov) (hk : But w w' (some p)) {n1 n2 : Nat} {ov1 : Value} {N1 N2 : Nms} {es : List Ent} {q ar st : Int} {off : Bool} (ho : w'.heap[p]? = some (diskO fv n1 n2 ov1 q ar off st)) (h1 : NamesAt w' n1 N1) (h2 : NamesAt w' n2 N2)
    (l1 : B ≤ n1) (l2 : B ≤ n2) (hne : n1 ≠ n2) (hE : EntsAt B w' ov1 es) : Lies B w' p ⟨D.files, N1, N2, es, q, ar, off, st⟩ L n1 n2 fv ov1 :=
  ⟨ho, h.lop, l1, l2, hne, h1, h2, R_row h.ptrs hk (h.notp _ (by rw [kPtrE]; decide)), hE, h.files.row hk (h.notp _ (by decide)), Nat.lt_of_lt_of_le h.lt hk.1⟩
end Go.Proofs.YtpcfnkmljchiiaaGreatDoor.DAt
namespace Go.Proofs.YtpcfnkmljchiiaaGreatDoor.DSd
open Go Go.RowKit Go.Maps Go.WideMaps Go.Proofs.YtpcfnkmljchiiaaGreatDoorW.PrintWords Go.Proofs.YtpcfnkmljchiiaaGreatDoorW.PrintLast DBase DPl DAt DEnt DNam Go.Proofs.YtpcfnkmljchiiaaGreatDoor.Is DFil DUsd DStp DOps DSyn DShc DAsk Right
section
variable (B : Bx) (p : Nat) (D : Dsk) (E : Int → Addr) (w : World)
set_option maxRecDepth 100000 in
set_option maxHeartbeats 4000000 in
/-- ask of no name. -/
theorem ask_zero (h : DiskAt B w p D) (hE : ErrAt B w E) : Calls Tryz.prog 59 #[.pointer (some ⟨p, 0, none⟩), .slice none 0 0] w fun e w' => e = .returned (errV E (if D.off = true then some 8 else none)) ∧ w' = w := by
  obtain ⟨L, m1, m2, fv, ov, hl⟩ := h
  have c6 : w.cell? ⟨p, 6, none⟩ = some (.bool D.off) := (blk_cell hl.obj 6).trans rfl
  have c8 := hE.errs.var 8 (by simp [dErr])
  rw [gPower] at c8
  clear hl hE
  cases ho : D.off with
  | true =>
    rw [ho] at c6
    rw [if_pos rfl, errV_some]
    go_enter Tryz.func59, Tryz.ntmps59
    go_wp2
    go_ret
    exact ⟨rfl, rfl⟩
  | false =>
    rw [ho] at c6
    rw [if_neg (by simp), errV_none]
    go_enter Tryz.func59, Tryz.ntmps59
    go_wp2
    refine wp_loop_rounds 1 ?_
    rw [rounds_succ]
    go_wp2
    go_ret
    exact ⟨rfl, rfl⟩
set_option maxRecDepth 100000 in
set_option maxHeartbeats 4000000 in
theorem syncdir1 (L : List (Nat × Value)) (m1 m2 : Nat) (fv ov : Value) (ga : Nat) (h : Lies B w p D L m1 m2 fv ov) (ca : w.cell? ⟨ga, 0, none⟩ = some (.pointer (some ⟨p, 0, none⟩))) (n1 : ga ≠ p) :
    Calls Tryz.prog 93 #[.pointer (some ⟨ga, 0, none⟩)] w fun en w' => en = .returned (.tuple #[]) ∧ (DiskAt B w' p { D with sure := D.now, opn := [] } ∧ Turn B w w') := by
  have e1 : w.cell? ⟨p, 1, none⟩ = some (.map (some m1)) := (blk_cell h.obj 1).trans rfl
  have HL := Aside0.mk h
  have HPl := Aside0.mk (blk_lt h.obj)
  have HCl := Aside0.mk (fun (U : World) (hN : NamesAt U m1 D.now) => clone_calls m1 D.now U hN)
  clear h
  go_enter Tryz.func93, Tryz.ntmps93
  go_wp2
  refine start_ (n := 13) (S := fun w' => w'.cell? ⟨ga, 0, none⟩ = some (.pointer (some ⟨p, 0, none⟩)) ∧ w'.cell? ⟨p, 1, none⟩ = some (.map (some m1))) (ds := []) #[ff,ff,ff,ff,ff,ff,ff,ff,ff,ff,ff,ff,ff] (by kernel_rfl) rfl rfl ⟨ca, e1⟩ (fun hHeld => ?_)
  have HL2 := Aside0.mk HL.out.drew
  have HT2 := Aside0.mk (Turn.refl B w).drew
  have HP2 := Aside0.mk (show p < w.drew.heap.size from HPl.out)
  have HZ2 := Aside0.mk (show w.drew.heap.size = w.heap.size from rfl)
  generalize w.drew = w2 at HL2 HT2 HP2 HZ2 hHeld ⊢
  refine take_ (i := 0) (N := some 1) (v := ?_) (a' := ?_) #[tt,ff,ff,ff,ff,ff,ff,ff,ff,ff,ff,ff,ff] rfl rfl (by kernel_rfl) (fun _ _ _ h => h) (Or.inl ⟨by rfl, ?_⟩) hHeld ?_ ?_
  rotate_left
  · rintro w' ⟨s0, s1⟩
    go_simp
    with_reducible rfl
  rotate_left
  · simp only [Act.put, pkA, pkB, pkC, i64_w, i32_w]
    rfl
  refine take_ (i := 1) (N := some 2) (v := ?_) (a' := ?_) #[tt,tt,ff,ff,ff,ff,ff,ff,ff,ff,ff,ff,ff] rfl rfl (by kernel_rfl) (fun _ _ _ h => h) (Or.inl ⟨by rfl, ?_⟩) hHeld ?_ ?_
  rotate_left
  · rintro w' ⟨s0, s1⟩
    go_simp
    with_reducible rfl
  rotate_left
  · simp only [Act.put, pkA, pkB, pkC, i64_w, i32_w]
    rfl
  refine take_ (i := 2) (N := some 3) (v := ?_) (a' := ?_) #[tt,tt,tt,ff,ff,ff,ff,ff,ff,ff,ff,ff,ff] rfl rfl (by kernel_rfl) (fun _ _ _ h => h) (Or.inl ⟨by rfl, ?_⟩) hHeld ?_ ?_
  rotate_left
  · rintro w' ⟨s0, s1⟩
    go_simp
    with_reducible rfl
  rotate_left
  · simp only [Act.put, pkA, pkB, pkC, i64_w, i32_w]
    rfl
  refine pure_ (i := 3) (N := some 4) (v := ?_) (a' := ?_) #[tt,tt,tt,tt,ff,ff,ff,ff,ff,ff,ff,ff,ff] rfl rfl (by kernel_rfl) (fun _ _ _ h => h) (Or.inl ⟨by rfl, ?_⟩) ?_ ?_
  rotate_left
  · intro w'
    go_simp
    with_reducible rfl
  rotate_left
  · simp only [Act.put, pkA, pkB, pkC, i64_w, i32_w]
    rfl
  refine pure_ (i := 4) (N := some 5) (v := ?_) (a' := ?_) #[tt,tt,tt,tt,tt,ff,ff,ff,ff,ff,ff,ff,ff] rfl rfl (by kernel_rfl) (fun _ _ _ h => h) (Or.inl ⟨by rfl, ?_⟩) ?_ ?_
  rotate_left
  · intro w'
    go_simp
    with_reducible rfl
  rotate_left
  · simp only [Act.put, pkA, pkB, pkC, i64_w, i32_w]
    rfl
  refine take_ (i := 5) (N := some 6) (v := ?_) (a' := ?_) #[tt,tt,tt,tt,tt,tt,ff,ff,ff,ff,ff,ff,ff] rfl rfl (by kernel_rfl) (fun _ _ _ h => h) (Or.inl ⟨by rfl, ?_⟩) hHeld ?_ ?_
  rotate_left
  · rintro w' ⟨s0, s1⟩
    go_simp
    with_reducible rfl
  rotate_left
  · simp only [Act.put, pkA, pkB, pkC, i64_w, i32_w]
    rfl
  refine one_ (i := 6) (N := some 7) #[tt,tt,tt,tt,tt,tt,tt,ff,ff,ff,ff,ff,ff] rfl rfl (by kernel_rfl) (by decide) (fun K hK => ?_)
  refine goes_ Tryz.func67 (by kernel_rfl) rfl #[.map (some m1)] (by rfl) rfl rfl (by simp only [List.map_toArray, List.map_cons, List.map_nil]; rfl) ?_
  with_reducible refine (HCl.out w2 HL2.out.now).mono ?_
  rintro e w3 ⟨rfl, hn, hb⟩
  refine ⟨_, rfl, ?_⟩
  have k := fun (g i : Nat) (u : Value) (hc : w2.cell? ⟨g, i, none⟩ = some u) => (hb.cell (p := ⟨g, i, none⟩) (World.block_lt_of_cell? w2 _ hc)).trans hc
  have HN3 := Aside0.mk hn
  have HB3 := Aside0.mk hb
  have HL3 := Aside0.mk (HL2.out.below hb)
  have c2 : w3.cell? ⟨p, 2, none⟩ = some (.map (some m2)) := (blk_cell HL3.out.obj 2).trans rfl
  have f2 : w3.frozen? ⟨p, 2, none⟩ = false := blk_frozen HL3.out.obj 2
  have HO4 := Aside0.mk (blk_put HL3.out.obj 2 (.map (some w2.heap.size)) rfl)
  have c3 : (w3.setCell ⟨p, 2, none⟩ (.map (some w2.heap.size))).cell? ⟨p, 3, none⟩ = some ov := (blk_cell HO4.out 3).trans rfl
  have f3 : (w3.setCell ⟨p, 2, none⟩ (.map (some w2.heap.size))).frozen? ⟨p, 3, none⟩ = false := blk_frozen HO4.out 3
  clear hn hb
  refine hK.out _ _ ⟨(k _ _ _ hHeld.1), (k _ _ _ hHeld.2)⟩ (fun hHeld => ?_)
  clear hK K
  refine norm_ (a' := ?_) ?_ ?_
  rotate_left
  · show Act.put _ (some 7) _ = _
    simp only [Act.put, pkA, pkB, pkC, i64_w, i32_w]
    rfl
  refine pure_ (i := 7) (N := some 8) (v := ?_) (a' := ?_) #[tt,tt,tt,tt,tt,tt,tt,tt,ff,ff,ff,ff,ff] rfl rfl (by kernel_rfl) (fun _ _ _ h => h) (Or.inl ⟨by rfl, ?_⟩) ?_ ?_
  rotate_left
  · intro w'
    go_simp
    with_reducible rfl
  rotate_left
  · simp only [Act.put, pkA, pkB, pkC, i64_w, i32_w]
    rfl
  refine pure_ (i := 8) (N := some 9) (v := ?_) (a' := ?_) #[tt,tt,tt,tt,tt,tt,tt,tt,tt,ff,ff,ff,ff] rfl rfl (by kernel_rfl) (fun _ _ _ h => h) (Or.inl ⟨by rfl, ?_⟩) ?_ ?_
  rotate_left
  · intro w'
    go_simp
    with_reducible rfl
  rotate_left
  · simp only [Act.put, pkA, pkB, pkC, i64_w, i32_w]
    rfl
  refine one_ (i := 9) (N := none) #[tt,tt,tt,tt,tt,tt,tt,tt,tt,tt,ff,ff,ff] rfl rfl (by kernel_rfl) (by decide) (fun K hK => ?_)
  refine skip_ (w1 := ?_) (by rfl) rfl ?_ ?_
  rotate_left
  · go_simp
    rfl
  refine hK.out _ _ ⟨(cell_far2 hHeld.1 (p := ⟨p, 2, none⟩) n1 _), ((blk_cell HO4.out 1).trans rfl)⟩ (fun hHeld => ?_)
  clear hK K
  refine pure_ (i := 10) (N := some 10) (v := ?_) (a' := ?_) #[tt,tt,tt,tt,tt,tt,tt,tt,tt,tt,tt,ff,ff] rfl rfl (by kernel_rfl) (fun _ _ _ h => h) (Or.inl ⟨by rfl, ?_⟩) ?_ ?_
  rotate_left
  · intro w'
    go_simp
    with_reducible rfl
  rotate_left
  · simp only [Act.put, pkA, pkB, pkC, i64_w, i32_w]
    rfl
  refine pure_ (i := 11) (N := some 11) (v := ?_) (a' := ?_) #[tt,tt,tt,tt,tt,tt,tt,tt,tt,tt,tt,tt,ff] rfl rfl (by kernel_rfl) (fun _ _ _ h => h) (Or.inl ⟨by rfl, ?_⟩) ?_ ?_
  rotate_left
  · intro w'
    go_simp
    with_reducible rfl
  rotate_left
  · simp only [Act.put, pkA, pkB, pkC, i64_w, i32_w]
    rfl
  refine one_ (i := 12) (N := none) #[tt,tt,tt,tt,tt,tt,tt,tt,tt,tt,tt,tt,tt] rfl rfl (by kernel_rfl) (by decide) (fun K hK => ?_)
  refine skip_ (w1 := ?_) (by rfl) rfl ?_ ?_
  rotate_left
  · go_simp
    rfl
  refine hK.out _ _ ⟨(cell_far2 hHeld.1 (p := ⟨p, 3, none⟩) n1 _), ((blk_cell (blk_put HO4.out 3 (.slice none 0 0) rfl) 1).trans rfl)⟩ (fun hHeld => ?_)
  clear hK K
  refine done_ (by kernel_rfl) ?_
  go_end0
  have k1 := (But.setCell w3 ⟨p, 2, none⟩ (.map (some w2.heap.size))).trans (But.setCell _ ⟨p, 3, none⟩ (.slice none 0 0))
  have hnm := HL3.out.now
  have n1 := hnm.same (k1.2 _ hnm.lt (HL3.out.nep hnm))
  have n2 := HN3.out.same (k1.2 _ HN3.out.lt (HL3.out.nep HN3.out))
  have l2 := HL2.out.now.lt
  have hB := HL2.out.lop
  have hp2 := HP2.out
  refine ⟨rfl, ⟨_, _, _, _, _, HL3.out.remake k1 (blk_put HO4.out 3 (.slice none 0 0) rfl) n1 n2 HL3.out.lo1 (by omega) (by omega) (Kd.R_nil _ _ _ _ _)⟩, ?_⟩
  exact ((HT2.out.below HB3.out).setCell HL3.out.obj rfl HL3.out.lop 2 _).setCell HO4.out rfl HL3.out.lop 3 _
def syncDirD (D : Dsk) : Option Int × Dsk := if D.off = true then (some 8, D) else if D.armed = 0 then (some 8, offD D) else (none, { stepD D with sure := D.now, opn := [] })
set_option maxRecDepth 100000 in
set_option maxHeartbeats 4000000 in
theorem syncDir_calls (h : DiskAt B w p D) (hE : ErrAt B w E) (hk : D.Ok) (hst : D.steps ≤ 1000000000) :
    Calls Tryz.prog 35 #[.pointer (some ⟨p, 0, none⟩)] w fun e w' => e = .returned (errV E (syncDirD D).1) ∧ DiskAt B w' p (syncDirD D).2 ∧ Turn B w w' := by
  have HB0 := Aside0.mk (show Below w.heap.size w (w.alloc (.cells #[.pointer (some ⟨p, 0, none⟩)] 25)) from (Below.refl _ _).alloc (Nat.le_refl _) _)
  have c0 : (w.alloc (.cells #[.pointer (some ⟨p, 0, none⟩)] 25)).cell? ⟨w.heap.size, 0, none⟩ = some (.pointer (some ⟨p, 0, none⟩)) := (World.cell?_alloc_new _ _ _ _).trans rfl
  have h1 := h.below HB0.out
  have hE1 := hE.turn (Turn.of_below HB0.out)
  have HA := Aside0.mk (ask_zero B p D E _ h1 hE1)
  have HH := Aside0.mk h1
  by_cases ho : D.off = true
  · have e : syncDirD D = (some 8, D) := if_pos ho
    rw [e]
    rw [if_pos ho] at HA
    simp only [errV_some] at HA ⊢
    clear e h hE h1 hE1 ho
    go_enter Tryz.func35, Tryz.ntmps35
    go_wp2_with (go_at_call 59; refine HA.out.mono ?_; rintro e w1 ⟨rfl, rfl⟩)
    go_ret
    exact ⟨rfl, HH.out, Turn.of_below HB0.out⟩
  · rw [if_neg ho, errV_none] at HA
    obtain ⟨L, m1, m2, fv, ov, hl⟩ := h1
    have hpl : p < w.heap.size := by obtain ⟨L, m1, m2, fv, ov, hl⟩ := h; exact blk_lt hl.obj
    by_cases h0 : D.armed = 0
    · have e : syncDirD D = (some 8, offD D) := by unfold syncDirD; rw [if_neg ho, if_pos h0]
      rw [e]
      simp only [errV_some]
      have HS := Aside0.mk (fun (fn : Value) => step_off B p D L m1 m2 fv ov E fn _ hl hE1 h0)
      clear e h hE hE1 ho hl h0
      go_enter Tryz.func35, Tryz.ntmps35
      go_wp2_with (first
        | (go_at_call 59; refine HA.out.mono ?_; rintro e w1 ⟨rfl, rfl⟩)
        | (go_at_call 92; refine (HS.out _).mono ?_; rintro e w2 ⟨rfl, hl2, hb2, ht2⟩; have HL2 := Aside0.mk hl2; have HT2 := Aside0.mk ht2; clear hl2 hb2 ht2; rw [errV_some]))
      go_ret
      exact ⟨rfl, ⟨_, _, _, _, _, HL2.out⟩, (Turn.of_below HB0.out).trans HT2.out⟩
    · have e : syncDirD D = (none, { stepD D with sure := D.now, opn := [] }) := by unfold syncDirD; rw [if_neg ho, if_neg h0]
      rw [e]
      simp only [errV_none]
      have HS := Aside0.mk (step_syncdir B p D L m1 m2 fv ov w.heap.size (fun w' => DiskAt B w' p { stepD D with sure := D.now, opn := [] } ∧ Turn B (w.alloc (.cells #[.pointer (some ⟨p, 0, none⟩)] 25)) w') _ hl h0 hk.armed1 hk.armed0 hk.steps0 (by omega)
        (fun w1 hl1 hb1 ht1 => by
          have ca1 := (World.cell?_of_block (w' := w1) (a := ⟨w.heap.size, 0, none⟩) (hb1.2 w.heap.size (World.block_lt_of_cell? _ _ c0) (fun e => by have := Option.some.inj e; omega))).trans c0
          refine (syncdir1 B p (stepD D) w1 L m1 m2 fv ov w.heap.size hl1 ca1 (by omega)).mono ?_
          rintro e w3 ⟨rfl, h1, h2⟩
          exact ⟨rfl, h1, ht1.trans h2⟩))
      clear e h hE hE1 ho hl h0 hk
      go_enter Tryz.func35, Tryz.ntmps35
      go_wp2_with (first
        | (go_at_call 59; refine HA.out.mono ?_; rintro e w1 ⟨rfl, rfl⟩)
        | (go_at_call 92; refine HS.out.mono ?_; rintro e w2 ⟨rfl, hd2, ht2⟩; have HD2 := Aside0.mk hd2; have HT2 := Aside0.mk ht2; clear hd2 ht2))
      go_ret
      exact ⟨rfl, HD2.out, (Turn.of_below HB0.out).trans HT2.out⟩
end
end Go.Proofs.YtpcfnkmljchiiaaGreatDoor.DSd
end
section
/- Disk: Create, Rename. -/
namespace Go.Proofs.YtpcfnkmljchiiaaGreatDoor.DAt
open Go Go.RowKit Go.Maps Go.Proofs.YtpcfnkmljchiiaaGreatDoorW.PrintWords DPl Go.Proofs.YtpcfnkmljchiiaaGreatDoor.Is
variable {B : Bx} {p : Nat} {D : Dsk} {L : List (Nat × Value)} {m1 m2 : Nat} {fv ov : Value} {w w1 w2 : World}
def fileO : Obj := .cells #[.slice none 0 0, .slice none 0 0, .slice none 0 0] 108 (0, 0)
/-- A file more. -/
theorem Lies.addFile (h : Lies B w p D L m1 m2 fv ov) (hf : w.heap[w.heap.size - 1]? = some fileO) (hnew : ∀ x ∈ L, x.1 ≠ w.heap.size - 1) (hB : B ≤ w.heap.size - 1) {v1 : Value} (hP : PtrsAt B w2 v1 (L.map Prod.fst ++ [w.heap.size - 1])) (hg : w.grownBy w2 fv.ownBlock) :
    Lies B (w2.setCell ⟨p, 0, none⟩ v1) p { D with files := D.files ++ [⟨[], [], []⟩] } (L ++ [(w.heap.size - 1, .slice none 0 0)]) m1 m2 v1 ov ∧ Turn B w (w2.setCell ⟨p, 0, none⟩ v1) := by
  have hk := But.grown hg
  obtain ⟨inner, how⟩ := own_of h.ptrs
  have nr : ∀ qs : List Nat, 103 ∉ qs → Not w fv.ownBlock qs := fun qs hq => Not.own how (fun q hq2 e => hq (e ▸ hq2))
  have op1 : some p ≠ fv.ownBlock := fun e => by obtain ⟨cs, hc⟩ := own_typed how p e.symm; rw [h.obj] at hc; cases hc
  have of1 : some (w.heap.size - 1) ≠ fv.ownBlock := fun e => by obtain ⟨cs, hc⟩ := own_typed how _ e.symm; rw [hf] at hc; cases hc
  have om : ∀ {m : Nat} {N : Nms}, NamesAt w m N → some m ≠ fv.ownBlock := fun hm e => by
    obtain ⟨cs, hc⟩ := own_typed how _ e.symm
    obtain ⟨es, cl, h1⟩ := hm.obj
    rw [h1] at hc
    cases hc
  have obj1 := hk.obj h.obj op1
  have fil1 := hk.obj hf of1
  have hs := But.setCell w2 ⟨p, 0, none⟩ v1
  have np : ∀ qs : List Nat, tD ∉ qs → Not w2 (some p) qs := fun qs hq => Not.cells (t := tD) (fun g hg => by obtain rfl := Option.some.inj hg; exact ⟨_, _, obj1⟩) (fun q hq2 e => hq (e ▸ hq2))
  have ne1 : ∀ {m : Nat} {N : Nms}, NamesAt w2 m N → some m ≠ some p := fun hm e => by
    obtain rfl := Option.some.inj e
    obtain ⟨es, cl, h1⟩ := hm.obj
    rw [obj1] at h1
    cases h1
  have now1 := h.now.same (hk.2 _ h.now.lt (om h.now))
  have sure1 := h.sure.same (hk.2 _ h.sure.lt (om h.sure))
  have fil2 := hs.obj fil1 (fun e => by
    have := Option.some.inj e
    rw [this] at hf
    rw [h.obj] at hf
    cases hf)
  have fs2 := (h.files.row hk (nr _ (by decide))).row hs (np _ (by decide))
  refine ⟨⟨blk_put obj1 0 v1 rfl, h.lop, h.lo1, h.lo2, h.ne, now1.same (hs.2 _ now1.lt (ne1 now1)), sure1.same (hs.2 _ sure1.lt (ne1 sure1)), ?_, R_row (R_row h.opn hk (nr _ (by rw [kEntE]; decide))) hs (np _ (by rw [kEntE]; decide)), ⟨by simp [h.files.len], ?_, ?_⟩, Nat.lt_of_lt_of_le h.lt (Nat.le_trans hk.1 hs.1)⟩, ?_⟩
  · have e : (L ++ [(w.heap.size - 1, Value.slice none 0 0)]).map Prod.fst = L.map Prod.fst ++ [w.heap.size - 1] := by simp
    rw [e]
    exact R_row hP hs (np _ (by rw [kPtrE]; decide))
  · intro i x f hx hfi
    by_cases hi : i < L.length
    · rw [List.getElem?_append_left hi] at hx
      rw [List.getElem?_append_left (by rw [← h.files.len]; exact hi)] at hfi
      exact fs2.each i x f hx hfi
    · have hi2 : i = L.length := by have := (List.getElem?_eq_some_iff.1 hx).1; simp at this; omega
      subst hi2
      rw [List.getElem?_append_right (Nat.le_refl _), Nat.sub_self] at hx
      rw [h.files.len, List.getElem?_append_right (Nat.le_refl _), Nat.sub_self] at hfi
      obtain rfl := Option.some.inj hx
      obtain rfl := Option.some.inj hfi
      exact ⟨⟨_, _, fil2, Kd.R_nil _ _ _ _ _, Kd.R_nil _ _ _ _ _⟩, hB, Kd.R_nil _ _ _ _ _⟩
  · intro i j x y hx hy hij
    have cs : ∀ (i : Nat) (x : Nat × Value), (L ++ [(w.heap.size - 1, Value.slice none 0 0)])[i]? = some x → (i < L.length ∧ L[i]? = some x) ∨ (i = L.length ∧ x = (w.heap.size - 1, Value.slice none 0 0)) := fun i x hx => by
      by_cases hi : i < L.length
      · rw [List.getElem?_append_left hi] at hx; exact .inl ⟨hi, hx⟩
      · have hi2 : i = L.length := by have := (List.getElem?_eq_some_iff.1 hx).1; simp at this; omega
        subst hi2
        rw [List.getElem?_append_right (Nat.le_refl _), Nat.sub_self] at hx
        exact .inr ⟨rfl, (Option.some.inj hx).symm⟩
    rcases cs i x hx with ⟨h1, h2⟩ | ⟨h1, h2⟩
    · rcases cs j y hy with ⟨h3, h4⟩ | ⟨h3, h4⟩
      · exact h.files.far i j x y h2 h4 hij
      · subst h4
        exact ⟨hnew x (List.mem_of_getElem? h2), by cases hh : x.2.ownBlock with | none => exact .inl rfl | some b => exact .inr (by simp [Value.ownBlock])⟩
    · rcases cs j y hy with ⟨h3, h4⟩ | ⟨h3, h4⟩
      · subst h2
        exact ⟨(hnew y (List.mem_of_getElem? h4)).symm, .inl rfl⟩
      · exact absurd (h1.trans h3.symm) hij
  · exact ((Turn.refl B w).own how rfl hg).setCell obj1 rfl h.lop 0 _
end Go.Proofs.YtpcfnkmljchiiaaGreatDoor.DAt
namespace Go.Proofs.YtpcfnkmljchiiaaGreatDoor.DCr
open Go Go.RowKit Go.Maps Go.WideMaps Go.Proofs.YtpcfnkmljchiiaaGreatDoorW.PrintWords Go.Proofs.YtpcfnkmljchiiaaGreatDoorW.PrintLast DBase DPl DAt DEnt DNam Go.Proofs.YtpcfnkmljchiiaaGreatDoor.Is DFil DUsd DStp DOps DAsk Right
theorem gExists : gOf 6 = 5 := by decide
theorem gFull : gOf 11 = 10 := by decide
theorem infoP : (Tryz.prog.info? 103).map (fun i => (i.zero, i.size, i.bytes)) = some (some (.pointer none), 1, 8) := by kernel_rfl
def createD (D : Dsk) (s : ByteArray) : Option Int × Dsk :=
  match askD D s with
  | some c => (some c, D)
  | none => if hasN D.now s.data.toList = true then (some 6, D) else if 64 ≤ D.now.length then (some 11, D) else
    match namedD D ⟨s, (⟨#[]⟩ : ByteArray), D.files.length⟩ with
    | (some c, D1) => (some c, D1)
    | (none, D1) => (none, { D1 with files := D1.files ++ [⟨[], [], []⟩] })
theorem namedD_files (D : Dsk) (e : Ent) : (namedD D e).2.files = D.files := by
  unfold namedD
  split <;> rfl
section
variable (B : Bx) (p : Nat) (D : Dsk) (E : Int → Addr) (w : World)
set_option maxRecDepth 100000 in
set_option maxHeartbeats 8000000 in
theorem create_calls (h : DiskAt B w p D) (hE : ErrAt B w E) (hk : D.Ok) (hst : D.steps ≤ 1000000000) (s : ByteArray) (hs : s.size < 9223372036854775807) :
    Calls Tryz.prog 34 #[.pointer (some ⟨p, 0, none⟩), .string s] w fun e w' => e = .returned (errV E (createD D s).1) ∧ DiskAt B w' p (createD D s).2 ∧ Turn B w w' := by
  have HB0 := Aside0.mk (show Below w.heap.size w (w.alloc (.cells #[.string s] 9)) from (Below.refl _ _).alloc (Nat.le_refl _) _)
  have h1 := h.below HB0.out
  have hE1 := hE.turn (Turn.of_below HB0.out)
  have HH := Aside0.mk h
  obtain ⟨L, m1, m2, fv, ov, hl⟩ := h1
  have HA := Aside0.mk (ask_calls p w.heap.size 1 D s hs E _ hl hE1 ((World.cell?_alloc_new _ _ _ _).trans rfl))
  cases hq : askD D s with
  | some c =>
    have e : createD D s = (some c, D) := by unfold createD; rw [hq]
    rw [e]
    rw [hq] at HA
    simp only [errV_some] at HA ⊢
    clear e hE hE1 hl hq h
    go_enter Tryz.func34, Tryz.ntmps34
    go_wp2_with (go_at_call 59; refine HA.out.mono ?_; rintro e w1 ⟨rfl, hb⟩; have HB1 := Aside0.mk (HB0.out.trans (hb.mono (by simp))); clear hb)
    go_ret
    exact ⟨rfl, HH.out.below HB1.out, Turn.of_below HB1.out⟩
  | none =>
    rw [hq, errV_none] at HA
    have hsz := (askD_none hq).1
    have K1 := keyS s hsz
    clear hl
    obtain ⟨L, m1, m2, fv, ov, hl⟩ := h
    have c1 : w.cell? ⟨p, 1, none⟩ = some (.map (some m1)) := (blk_cell hl.obj 1).trans rfl
    have hp := blk_lt hl.obj
    have HC := Aside0.mk (fun W (hb : Below w.heap.size w W) => (hb.cell (p := ⟨p, 1, none⟩) hp).trans c1)
    have HM := Aside0.mk (fun W (hb : Below w.heap.size w W) => (show W.ownsMap (H := Unit) Tryz.prog 9 (plainElem Tryz.prog 3) m1 D.now.length (nmData D.now) from hl.now.below hb))
    have hhas := nmData_has D.now s.data.toList
    have hsize := nmData_size D.now
    have HSz := Aside0.mk hsize
    have c6 := hE.errs.var 6 (by simp [dErr])
    have c11 := hE.errs.var 11 (by simp [dErr])
    rw [gExists] at c6
    rw [gFull] at c11
    have HE6 := Aside0.mk (fun W (hb : Below w.heap.size w W) => (hb.cell (p := ⟨5, 0, none⟩) (World.block_lt_of_cell? w _ c6)).trans c6)
    have HE11 := Aside0.mk (fun W (hb : Below w.heap.size w W) => (hb.cell (p := ⟨10, 0, none⟩) (World.block_lt_of_cell? w _ c11)).trans c11)
    by_cases hn : hasN D.now s.data.toList = true
    · have e : createD D s = (some 6, D) := by unfold createD; rw [hq]; simp only; rw [if_pos hn]
      rw [e]
      rw [hn] at hhas
      have HHs := Aside0.mk hhas
      simp only [errV_some]
      clear e hE hE1 hl hq hn hhas hsize c1 c6 c11 hsz
      go_enter Tryz.func34, Tryz.ntmps34
      go_wp2_with (first
        | (go_at_call 59; refine HA.out.mono ?_; rintro e w1 ⟨rfl, hb⟩; have HB1 := Aside0.mk (HB0.out.trans (hb.mono (by simp))); clear hb; have c1 := HC.out _ HB1.out; have c6 := HE6.out _ HB1.out)
        | (at_lookup; refine wpList_lookup_own_ok_int _ rfl _ _ 83 rfl 9 3 .i64 law Tryz.underlying83 Tryz.underlying3 (zeroE _) m1 D.now.length (nmData D.now) rfl (HM.out _ HB1.out) _ _ rfl K1 ?_; rw [HHs.out]; intro c hat hwc; clear hat hwc))
      go_ret
      exact ⟨rfl, HH.out.below HB1.out, Turn.of_below HB1.out⟩
    · have hn' : hasN D.now s.data.toList = false := by simpa using hn
      rw [hn'] at hhas
      have HHs := Aside0.mk hhas
      by_cases hfull : 64 ≤ D.now.length
      · have e : createD D s = (some 11, D) := by unfold createD; rw [hq]; simp only; rw [if_neg hn, if_pos hfull]
        rw [e]
        simp only [errV_some]
        have t1 : decide ((64 : Int) ≤ (D.now.length : Int)) = true := decide_eq_true (by omega)
        clear e hE hE1 hl hq hn hn' hhas hsize c1 c6 c11 hsz
        go_enter Tryz.func34, Tryz.ntmps34
        go_wp2_with (first
          | (go_at_call 59; refine HA.out.mono ?_; rintro e w1 ⟨rfl, hb⟩; have HB1 := Aside0.mk (HB0.out.trans (hb.mono (by simp))); clear hb; have c1 := HC.out _ HB1.out; have c11 := HE11.out _ HB1.out)
          | (at_lookup; refine wpList_lookup_own_ok_int _ rfl _ _ 83 rfl 9 3 .i64 law Tryz.underlying83 Tryz.underlying3 (zeroE _) m1 D.now.length (nmData D.now) rfl (HM.out _ HB1.out) _ _ rfl K1 ?_; rw [HHs.out]; intro c hat hwc; clear hat hwc)
          | (at_len; refine wpList_len_own _ rfl _ 83 rfl 9 3 Tryz.underlying83 _ m1 D.now.length (nmData D.now) rfl (HM.out _ HB1.out) ?_; rw [HSz.out]))
        go_ret
        exact ⟨rfl, HH.out.below HB1.out, Turn.of_below HB1.out⟩
      · have t1 : decide ((64 : Int) ≤ (D.now.length : Int)) = false := decide_eq_false (by omega)
        have e : createD D s = (match namedD D ⟨s, (⟨#[]⟩ : ByteArray), D.files.length⟩ with | (some c, D1) => (some c, D1) | (none, D1) => (none, { D1 with files := D1.files ++ [⟨[], [], []⟩] })) := by unfold createD; rw [hq]; simp only; rw [if_neg hn, if_neg hfull]
        rw [e]
        obtain ⟨g, cp, nl, efv, enl⟩ : ∃ A cp nl, fv = .slice A nl cp ∧ nl = D.files.length := by
          obtain ⟨A, cp, e⟩ := Kd.R_slice hl.ptrs
          exact ⟨A, cp, _, e, by rw [List.length_map, hl.files.len]⟩
        have c0 : w.cell? ⟨p, 0, none⟩ = some (.slice g nl cp) := by rw [← efv]; exact (blk_cell hl.obj 0).trans rfl
        have HC0 := Aside0.mk (fun W (hb : Below w.heap.size w W) => (hb.cell (p := ⟨p, 0, none⟩) hp).trans c0)
        have hfl := hk.cntF
        have HN := Aside0.mk (fun (U : World) (hb : Below w.heap.size w U) => named_calls B p D ⟨s, (⟨#[]⟩ : ByteArray), D.files.length⟩ E U (HH.out.below hb) (hE.turn (Turn.of_below hb)) hk (by omega) hsz (by simp only; decide) (by simp only; omega) (by simp only; omega))
        simp only [entV] at HN
        rw [← enl] at HN ⊢
        have hNF := namedD_files D ⟨s, (⟨#[]⟩ : ByteArray), nl⟩
        cases hres : namedD D ⟨s, (⟨#[]⟩ : ByteArray), nl⟩ with
        | mk r D1 =>
          rw [hres] at HN hNF
          simp only at HN hNF
          have HNF := Aside0.mk hNF
          have HFl := Aside0.mk (show (D.files.length : Int) ≤ 1000000000 by omega)
          cases r with
          | some c =>
            simp only [errV_some] at HN ⊢
            clear e hE hE1 hl hq hn hn' hhas hsize c1 c6 c11 hsz hfull efv enl c0 hres hNF hfl
            go_enter Tryz.func34, Tryz.ntmps34
            go_wp2_with (first
              | (go_at_call 59; refine HA.out.mono ?_; rintro e w1 ⟨rfl, hb⟩; have HB1 := Aside0.mk (HB0.out.trans (hb.mono (by simp))); clear hb; have c1 := HC.out _ HB1.out; have c0 := HC0.out _ HB1.out)
              | (at_lookup; refine wpList_lookup_own_ok_int _ rfl _ _ 83 rfl 9 3 .i64 law Tryz.underlying83 Tryz.underlying3 (zeroE _) m1 D.now.length (nmData D.now) rfl (HM.out _ HB1.out) _ _ rfl K1 ?_; rw [HHs.out]; intro c hat hwc; clear hat hwc)
              | (at_len; refine wpList_len_own _ rfl _ 83 rfl 9 3 Tryz.underlying83 _ m1 D.now.length (nmData D.now) rfl (HM.out _ HB1.out) ?_; rw [HSz.out])
              | (go_at_call 91; refine (HN.out _ HB1.out).mono ?_; rintro e w2 ⟨rfl, hd, ht⟩; have HD2 := Aside0.mk hd; have HT2 := Aside0.mk ht; clear hd ht))
            go_ret
            exact ⟨rfl, HD2.out, (Turn.of_below HB1.out).trans HT2.out⟩
          | none =>
            simp only [errV_none] at HN ⊢
            clear e hE hE1 hl hq hn hn' hhas hsize c1 c6 c11 hsz hfull efv enl c0 hres hNF hfl
            go_enter Tryz.func34, Tryz.ntmps34
            go_wp2_with (first
              | (go_at_call 59; refine HA.out.mono ?_; rintro e w1 ⟨rfl, hb⟩; have HB1 := Aside0.mk (HB0.out.trans (hb.mono (by simp))); clear hb; have c1 := HC.out _ HB1.out; have c0 := HC0.out _ HB1.out)
              | (at_lookup; refine wpList_lookup_own_ok_int _ rfl _ _ 83 rfl 9 3 .i64 law Tryz.underlying83 Tryz.underlying3 (zeroE _) m1 D.now.length (nmData D.now) rfl (HM.out _ HB1.out) _ _ rfl K1 ?_; rw [HHs.out]; intro c hat hwc; clear hat hwc)
              | (at_len; refine wpList_len_own _ rfl _ 83 rfl 9 3 Tryz.underlying83 _ m1 D.now.length (nmData D.now) rfl (HM.out _ HB1.out) ?_; rw [HSz.out])
              | (go_at_call 91; refine (HN.out _ HB1.out).mono ?_; rintro e w2 ⟨rfl, hd, ht⟩; obtain ⟨L2, n1, n2, fv2, ov2, hl2⟩ := hd; have HL2 := Aside0.mk hl2; have HT2 := Aside0.mk ht; have d0 : w2.cell? ⟨p, 0, none⟩ = some fv2 := (blk_cell hl2.obj 0).trans rfl; have HB3 := Aside0.mk (show Below w2.heap.size w2 (w2.alloc (.cells #[.slice none 0 0, .slice none 0 0, .slice none 0 0] 108)) from (Below.refl _ _).alloc (Nat.le_refl _) _); have HL3 := Aside0.mk (hl2.below HB3.out); clear ht hl2)
              | (at_builtin; refine Kd.R_append kPtr (w0 := w2.alloc (.cells #[.slice none 0 0, .slice none 0 0, .slice none 0 0] 108)) B rfl _ _ 84 103 (.pointer none) 8 rfl Tryz.underlying84 infoP rfl (by decide) (by omega) fv2 (L2.map Prod.fst) w2.heap.size [.pointer (some ⟨w2.heap.size, 0, none⟩)] (fun _ => True) (fun _ => False) rfl ?aX rfl (fun _ h => h.elim) (fun _ _ => trivial) ?aO (Below.refl _ _) ?aS ?aL ?_; (case aX => show Value.slice (some ⟨w2.heap.size + 1, 0, none⟩) 1 1 = _; simp); (case aO => exact HL3.out.ptrs); (case aS => have := HL3.out.lop; have := blk_lt HL3.out.obj; omega); (case aL => have h8 := HL3.out.files.len; have h9 := HFl.out; rw [HNF.out] at h8; rw [List.length_map, h8]; omega); intro v5 w5 ho5 hb5 hg5 hat5; obtain ⟨A5, cp5, rfl⟩ := Kd.R_slice ho5; have HO5 := Aside0.mk ((But.grown hg5).obj HL3.out.obj (by obtain ⟨inner, how⟩ := own_of HL3.out.ptrs; exact fun e => by obtain ⟨cs, hc⟩ := own_typed how p e.symm; rw [HL3.out.obj] at hc; cases hc)); have e5 := (blk_cell HO5.out 0).trans rfl; have f5 := blk_frozen HO5.out 0; have HP5 := Aside0.mk ho5; have HG5 := Aside0.mk hg5; clear hb5 hat5 ho5 hg5))
            go_ret
            have hE := HP5.out
            rw [show (L2.map Prod.fst ++ [w2.heap.size]).length = L2.length + 1 by simp] at hE
            have hz : (w2.alloc (.cells #[.slice none 0 0, .slice none 0 0, .slice none 0 0] 108)).heap.size - 1 = w2.heap.size := by simp
            have hnew : ∀ x ∈ L2, x.1 ≠ w2.heap.size := fun x hx e => by
              obtain ⟨j, hj⟩ := List.getElem?_of_mem hx
              have hjl := (List.getElem?_eq_some_iff.1 hj).1
              have hjf : j < D1.files.length := by have := HL2.out.files.len; omega
              obtain ⟨nv, sv, ho, _, _⟩ := (HL2.out.files.each j x D1.files[j] hj (List.getElem?_eq_getElem hjf)).ex
              have := blk_lt ho
              omega
            have hB : B ≤ w2.heap.size := by have := HL2.out.lop; have := blk_lt HL2.out.obj; omega
            have hA := HL3.out.addFile (w2 := w5) (v1 := Value.slice A5 (L2.length + 1) cp5) (by rw [hz]; exact heap_alloc_new w2 _) (by rw [hz]; exact hnew) (by rw [hz]; exact hB) (by rw [hz]; exact hE) HG5.out
            exact ⟨rfl, ⟨_, _, _, _, _, hA.1⟩, ((Turn.of_below HB1.out).trans HT2.out).trans ((Turn.of_below HB3.out).trans hA.2)⟩
end
end Go.Proofs.YtpcfnkmljchiiaaGreatDoor.DCr
end
section
/- Disk.Crash: what it makes of the disk, told plainly; its closure. -/
namespace Go.Proofs.YtpcfnkmljchiiaaGreatDoor.DCra
open Go Go.RowKit Go.Maps Go.WideMaps Go.Proofs.YtpcfnkmljchiiaaGreatDoorW.PrintWords Go.Proofs.YtpcfnkmljchiiaaGreatDoorW.PrintLast Go.Proofs.YtpcfnkmljchiiaaGreatDoorW.PrintMore DBase DPl DAt DEnt DNam Go.Proofs.YtpcfnkmljchiiaaGreatDoor.Is DFil DUsd DChg DCg DStp DCh2 DOps
attribute [local go_sem] max2_int min2_int max_two min_two max_three min_three max_four min_four
/-! ### told plainly -/
/-- How many of n stay, by the next number. -/
def ofK (keep : List Int) (n : Nat) : Nat := match keep with | [] => 0 | k :: _ => ((max k 0) % ((n : Int) + 1)).toNat
theorem ofK_le (keep : List Int) (n : Nat) : ofK keep n ≤ n := by
  unfold ofK
  cases keep with
  | nil => simp
  | cons k r =>
    have h := Int.emod_lt_of_pos (max k 0) (show (0 : Int) < (n : Int) + 1 by omega)
    simp only
    omega
/-- A step of which a part alone stays. -/
def partC (c : Chg) (j : Nat) : Chg := ⟨c.pos, c.b.take j, c.cut⟩
/-- A file's bytes behind the loss, and what is left of the numbers. -/
def crashF (f : Fil) (keep : List Int) : List Int × List Int :=
  let k := ofK keep f.opn.length
  let s := chgAll f.sure (f.opn.take k)
  match f.opn[k]? with
  | some c => if c.cut = true then (s, keep.tail) else ((partC c (ofK keep.tail c.b.length)).go s, keep.tail.tail)
  | none => (s, keep.tail)
def crashFs : List Fil → List Int → List Fil
  | [], _ => []
  | f :: r, keep => if f.opn = [] then f :: crashFs r keep else ⟨(crashF f keep).1, (crashF f keep).1, []⟩ :: crashFs r (crashF f keep).2
/-- Only files that have a name keep their bytes. -/
def sweepFs (fs : List Fil) (N : Nms) : List Fil := fs.mapIdx fun i f => if N.any (fun p => p.2 == (i : Int)) then f else ⟨[], [], f.opn⟩
def crashD (D : Dsk) (keep : List Int) : Dsk :=
  let k := ofK keep D.opn.length
  let N := goAll D.sure (D.opn.take k)
  ⟨sweepFs (crashFs D.files keep.tail) N, N, N, [], D.quota, -1, false, D.steps⟩
/-! ### the numbers that are left, where they lie -/
theorem _root_.Go.Proofs.YtpcfnkmljchiiaaGreatDoor.DAt.Turn.setNew {B : Nat} {a w : World} (h : Turn B a w) {g : Nat} (hg : a.heap.size ≤ g) (i : Nat) (u : Value) : Turn B a (w.setCell ⟨g, i, none⟩ u) := by
  have hk : ∀ k, k ≠ g → (w.setCell ⟨g, i, none⟩ u).heap[k]? = w.heap[k]? := fun k hk => Below.heap_setCell w ⟨g, i, none⟩ u k hk
  refine ⟨h.os, h.tape, h.output, by simpa [World.setCell] using h.size, fun k h1 h2 => (hk k (by omega)).trans (h.low k h1 h2), fun k o ho hd => ?_⟩
  have := blk_lt ho
  exact (hk k (by omega)).trans (h.kind k o ho hd)
abbrev tI : Nat := 33
/-- The box of the numbers that are left. -/
structure KeepAt (B : Nat) (w : World) (kb : Nat) (W : World) (l : List Int) : Prop where
  ex : ∃ A c, W.heap[kb]? = some (.cells #[.slice A l.length c] tI (0, 0)) ∧ l.length ≤ c ∧ ∀ V, Turn B w V → ReadsInt V .i64 A l.length l
  nb : w.heap.size ≤ kb
theorem KeepAt.but {B : Nat} {w : World} {kb : Nat} {W V : World} {l : List Int} {row : Option Nat} (h : KeepAt B w kb W l) (hk : But W V row) (hne : some kb ≠ row) : KeepAt B w kb V l := by
  obtain ⟨A, c, ho, r⟩ := h.ex
  exact ⟨⟨A, c, hk.obj ho hne, r⟩, h.nb⟩
theorem infoI : (Tryz.prog.info? 3).map (fun i => (i.zero, i.size, i.bytes)) = some (some (.int .i64 0), 1, 8) := by kernel_rfl
set_option maxRecDepth 100000 in
set_option maxHeartbeats 4000000 in
theorem of_calls (B : Nat) (w : World) (kb n : Nat) (l : List Int) (W : World) (h : KeepAt B w kb W l) (ht : Turn B w W) (hn : n ≤ 1100000000000) :
    Calls Tryz.prog 64 #[.int .i64 (n : Int), .pointer (some ⟨kb, 0, none⟩)] W fun e w' => e = .returned (.int .i64 (ofK l n : Nat)) ∧ KeepAt B w kb w' l.tail ∧ But W w' (some kb) ∧ Turn B w w' := by
  obtain ⟨A, c, ho, hc, hR⟩ := h.ex
  have hnb := h.nb
  have c0 : W.cell? ⟨kb, 0, none⟩ = some (.slice A l.length c) := (blk_cell ho 0).trans rfl
  have f0 : W.frozen? ⟨kb, 0, none⟩ = false := blk_frozen ho 0
  cases l with
  | nil =>
    have HH := Aside0.mk h
    have HT := Aside0.mk ht
    clear h ht hR ho
    simp only [List.length_nil] at c0
    go_enter Tryz.func64, Tryz.ntmps64
    go_wp2
    go_ret
    exact ⟨rfl, HH.out, ⟨Nat.le_refl _, fun _ _ _ => rfl⟩, HT.out⟩
  | cons k r =>
    obtain ⟨ad, ea, hcell⟩ := (hR W ht).at_ 0 (by omega) (by simp)
    subst ea
    have hrd : Go.Proofs.YtpcfnkmljchiiaaGreatDoorW.PrintWords.rd (k :: r) 0 = k := rfl
    rw [hrd] at hcell
    have hcell0 : W.cell? (ad.add 0) = some (.int .i64 k) := hcell
    have ead : ad.add 0 = ad := by unfold Addr.add; split <;> simp_all
    rw [ead] at hcell0
    obtain ⟨A', hcut, hred⟩ := print_cut (P := Tryz.prog) 33 3 .i64 Tryz.underlying33 (by exact (info_parts infoI).choose_spec.1) (by exact (info_parts infoI).choose_spec.2.2.1) (some ad) (k :: r).length c 1 (by simp)
    have HRd := Aside0.mk (fun V (hV : Turn B w V) => hred V .i64 (k :: r) hc (hR V hV))
    have e1 : (k :: r).length - 1 = r.length := by simp
    rw [e1] at hcut
    have hlen : (k :: r).length = r.length + 1 := rfl
    rw [hlen] at c0 hcut
    have hcut1 : ∀ V : World, (Instr.slice 33 (.slice (some ad) (r.length + 1) c) (some (.int .i64 1)) none none).run Tryz.prog V = .ok (.slice A' r.length (c - 1)) V := hcut
    clear hcut
    have hll : r.length + 1 ≤ c := hc
    have hll2 := (hR W ht).2.1
    simp only [List.length_cons] at hll2
    have HKB := Aside0.mk (fun V (A2 : Option Addr) (c2 : Nat) (hV : V.heap[kb]? = some (.cells #[.slice A2 r.length c2] tI (0, 0))) (h2 : r.length ≤ c2) (h3 : ∀ V, Turn B w V → ReadsInt V .i64 A2 r.length r) => (⟨⟨A2, c2, hV, h2, h3⟩, hnb⟩ : KeepAt B w kb V r))
    have HO := Aside0.mk ho
    have HT := Aside0.mk ht
    have HLc := Aside0.mk (show r.length ≤ c - 1 by omega)
    have HRd2 := Aside0.mk (fun V (hV : Turn B w V) => (by have := HRd.out V hV; rw [e1] at this; exact this : ReadsInt V .i64 A' r.length r))
    have b0 : (0 : Int) ≤ (n : Int) := by omega
    have b1 : (n : Int) ≤ 1100000000000 := by omega
    have w1 : IntKind.i64.wrap ((n : Int) + 1) = (n : Int) + 1 := IntWalk.i64_in _ ⟨by omega, by omega⟩
    have z0 : (((n : Int) + 1) == 0) = false := by simpa using (by omega : (n : Int) + 1 ≠ 0)
    have z1 : ¬ (n : Int) + 1 = 0 := by omega
    have u1 : (0 : Int) < ((r.length + 1 : Nat) : Int) := by omega
    by_cases hk : k < 0
    · have t1 : decide (k < 0) = true := decide_eq_true hk
      have hres : ofK (k :: r) n = 0 := by
        unfold ofK
        simp only
        rw [show max k 0 = 0 by omega]
        simp
      rw [hres]
      have hmod : Int.tmod 0 ((n : Int) + 1) = 0 := Int.zero_tmod _
      clear h ht hR ho hred HRd e1 hc hcell hrd hres hlen t1
      go_enter Tryz.func64, Tryz.ntmps64
      go_wp2
      go_ret
      have o2 := blk_put HO.out 0 (.slice A' r.length (c - 1)) rfl
      exact ⟨rfl, HKB.out _ A' (c - 1) o2 HLc.out HRd2.out, But.setCell W ⟨kb, 0, none⟩ _, HT.out.setNew hnb 0 _⟩
    · have t1 : decide (k < 0) = false := decide_eq_false hk
      have hk0 : 0 ≤ k := by omega
      have HRES := Aside0.mk (show ((ofK (k :: r) n : Nat) : Int) = k % ((n : Int) + 1) by
        unfold ofK
        simp only
        rw [show max k 0 = k by omega]
        have := Int.emod_nonneg k (show (n : Int) + 1 ≠ 0 by omega)
        omega)
      obtain ⟨rs, hrs⟩ : ∃ rs, rs = ofK (k :: r) n := ⟨_, rfl⟩
      rw [← hrs] at HRES ⊢
      clear h ht hR ho hred HRd e1 hc hcell hrd hlen hk hrs
      go_enter Tryz.func64, Tryz.ntmps64
      go_wp2
      go_ret
      have o2 := blk_put HO.out 0 (.slice A' r.length (c - 1)) rfl
      exact ⟨by rw [HRES.out]; rfl, HKB.out _ A' (c - 1) o2 HLc.out HRd2.out, But.setCell W ⟨kb, 0, none⟩ _, HT.out.setNew hnb 0 _⟩
end Go.Proofs.YtpcfnkmljchiiaaGreatDoor.DCra
end
section
/- Disk.sweep. -/
namespace Go.Proofs.YtpcfnkmljchiiaaGreatDoor.DSwp
open Go Go.RowKit Go.Maps Go.WideMaps Go.Proofs.YtpcfnkmljchiiaaGreatDoorW.PrintWords Go.Proofs.YtpcfnkmljchiiaaGreatDoorW.PrintLast DBase DPl DAt DEnt DNam Go.Proofs.YtpcfnkmljchiiaaGreatDoor.Is DFil DUsd DCg DStp DOps DShc DCra
def swept (N : Nms) (i : Nat) (f : Fil) : Fil := if N.any (fun p => p.2 == (i : Int)) then f else ⟨[], [], f.opn⟩
/-- The first k files have been looked at. -/
def upTo (fs : List Fil) (N : Nms) (k : Nat) : List Fil := fs.mapIdx fun i f => if i < k then swept N i f else f
theorem upTo_zero (fs : List Fil) (N : Nms) : upTo fs N 0 = fs := by
  apply List.ext_getElem?
  intro j
  simp [upTo]
theorem upTo_all (fs : List Fil) (N : Nms) : upTo fs N fs.length = sweepFs fs N := by
  apply List.ext_getElem?
  intro j
  simp only [upTo, sweepFs, List.getElem?_mapIdx]
  cases hj : fs[j]? with
  | none => rfl
  | some f =>
    have := (List.getElem?_eq_some_iff.1 hj).1
    simp [this, swept]
theorem upTo_len (fs : List Fil) (N : Nms) (k : Nat) : (upTo fs N k).length = fs.length := by simp [upTo]
theorem upTo_at (fs : List Fil) (N : Nms) (k : Nat) (f : Fil) (h : fs[k]? = some f) : (upTo fs N k)[k]? = some f := by
  simp [upTo, List.getElem?_mapIdx, h]
theorem upTo_step (fs : List Fil) (N : Nms) (k : Nat) (f : Fil) (h : fs[k]? = some f) : (upTo fs N k).set k (swept N k f) = upTo fs N (k + 1) := by
  apply List.ext_getElem?
  intro j
  have hk := (List.getElem?_eq_some_iff.1 h).1
  simp only [upTo, List.getElem?_set, List.getElem?_mapIdx, List.length_mapIdx]
  by_cases hj : k = j
  · subst hj
    have e : fs[k] = f := (List.getElem?_eq_some_iff.1 h).2
    simp [hk, e]
  · rw [if_neg hj]
    cases hf : fs[j]? with
    | none => rfl
    | some g =>
      simp only [Option.map_some]
      by_cases h1 : j < k
      · rw [if_pos h1, if_pos (by omega)]
      · rw [if_neg h1, if_neg (by omega)]
theorem upTo_keep (fs : List Fil) (N : Nms) (k : Nat) (f : Fil) (h : fs[k]? = some f) (hs : swept N k f = f) : upTo fs N (k + 1) = upTo fs N k := by
  rw [← upTo_step fs N k f h, hs]
  apply List.ext_getElem?
  intro j
  rw [List.getElem?_set]
  by_cases hj : k = j
  · subst hj
    rw [if_pos rfl, upTo_at fs N k f h, if_pos (by rw [upTo_len]; exact (List.getElem?_eq_some_iff.1 h).1)]
  · rw [if_neg hj]
theorem own_turn {B : Nat} {w1 W : World} {base size n : Nat} {t : Nat} {v : Value} {xs : List Value} (h : w1.ownsRow base t size v n xs) (ht : Turn B w1 W) (hd : dkT t = false) : W.ownsRow base t size v n xs :=
  own_move h (fun k hk => by
    obtain ⟨cs, hc⟩ := own_typed h k hk
    rw [ht.kind k _ hc (by simpa [dk] using hd), hc])
theorem any_mem (N : Nms) (xs : List Int) (hx : ∀ i : Int, i ∈ xs ↔ ∃ p ∈ N, p.2 = i) (i : Nat) : decide ((i : Int) ∈ xs) = N.any (fun p => p.2 == (i : Int)) := by
  rw [Bool.eq_iff_iff, decide_eq_true_eq, hx, List.any_eq_true]
  constructor
  · rintro ⟨p, h1, h2⟩; exact ⟨p, h1, by simpa using h2⟩
  · rintro ⟨p, h1, h2⟩; exact ⟨p, h1, by simpa using h2⟩
set_option maxRecDepth 100000 in
set_option maxHeartbeats 8000000 in
theorem sweep_calls (B : Bx) (p : Nat) (D : Dsk) (L : List (Nat × Value)) (m1 m2 : Nat) (fv ov : Value) (w : World) (h : Lies B w p D L m1 m2 fv ov) (hl : D.files.length ≤ 1000000000) (hN : D.now.length ≤ 1000000000) :
    Calls Tryz.prog 68 #[.pointer (some ⟨p, 0, none⟩)] w fun e w' => e = .returned (.tuple #[]) ∧ Lies B w' p { D with files := sweepFs D.files D.now } L m1 m2 fv ov ∧ Turn B w w' := by
  have c1 : w.cell? ⟨p, 1, none⟩ = some (.map (some m1)) := (blk_cell h.obj 1).trans rfl
  have HP := Aside0.mk (blk_lt h.obj)
  have HO := Aside0.mk h
  have HV := Aside0.mk (fun (U : World) => values_calls m1 U)
  have HC := Aside0.mk (fun (U : World) (g : Nat) (hb : Below w.heap.size w U) (hg : g < U.heap.size) (hc : U.cell? ⟨g, 0, none⟩ = some (.map (some m1))) => collect_calls g m1 D.now U hg hc (h.now.below hb) hN)
  obtain ⟨Af, cpf, efv⟩ := Kd.R_slice h.ptrs
  have elen : (L.map Prod.fst).length = D.files.length := by rw [List.length_map, h.files.len]
  rw [elen] at efv
  subst efv
  have c0 : w.cell? ⟨p, 0, none⟩ = some (.slice Af D.files.length cpf) := (blk_cell h.obj 0).trans rfl
  obtain ⟨n, hn⟩ : ∃ n, n = D.files.length := ⟨_, rfl⟩
  rw [← hn] at c0
  have HN := Aside0.mk hn
  have HNl := Aside0.mk hN
  have hnl : (n : Int) ≤ 1000000000 := by omega
  clear h hN hl elen hn
  go_enter Tryz.func68, Tryz.ntmps68
  go_wp2_with (first
    | (go_at_call 113; refine (HV.out _).mono ?_; rintro e w1 ⟨rfl, rfl⟩)
    | (go_at_call 112; refine (HC.out _ w.heap.size ((Below.refl _ _).alloc (Nat.le_refl _) _) (by simp) ((World.cell?_alloc_new _ _ _ _).trans rfl)).mono ?_; rintro e w2 ⟨v, xs, rfl, hxs, hxl, hrow, hb⟩; have HB2 := Aside0.mk (((Below.refl w.heap.size w).alloc (Nat.le_refl _) (.cells #[.map (some m1)] 83)).trans (hb.mono (by simp))); have HXS := Aside0.mk hxs; have HXL := Aside0.mk hxl; obtain ⟨A2, cp2, e2⟩ := own_slice hrow; subst e2; have HRow := Aside0.mk hrow; clear hxs hxl hrow hb; have c0 := (HB2.out.cell (p := ⟨p, 0, none⟩) HP.out).trans c0))
  generalize hxn : xs.length = xn
  have HXn := Aside0.mk hxn
  clear hxn
  go_loopw [16] (fun i wr => ∃ k : Nat, k ≤ n ∧ i = .int .i64 k ∧ Aside0 (Lies B wr p { D with files := upTo D.files D.now k } L m1 m2 (.slice Af D.files.length cpf) ov) ∧ Aside0 (Turn B w2 wr)) (fun i _ => n - (Go.RowKit.intOf i).toNat)
  case atStart => exact ⟨0, by omega, rfl, ⟨by rw [upTo_zero]; exact HO.out.below HB2.out⟩, ⟨Turn.refl B w2⟩⟩
  case round =>
    obtain ⟨k, hk, rfl, HL, HT⟩ := hrel
    by_cases hlt : k < n
    · have t1 : decide (k < n) = true := decide_eq_true hlt
      have hkl : k < D.files.length := by rw [← HN.out]; exact hlt
      obtain ⟨f, hf⟩ : ∃ f, D.files[k]? = some f := ⟨_, List.getElem?_eq_getElem hkl⟩
      have hLl : k < L.length := by have := HL.out.files.len; rw [upTo_len] at this; omega
      obtain ⟨x, hx⟩ : ∃ x, L[k]? = some x := ⟨_, List.getElem?_eq_getElem hLl⟩
      obtain ⟨g, cp, ef, _, hg⟩ := ptr_at HL.out.ptrs k x.1 (by rw [List.getElem?_map, hx]; rfl)
      simp only [Value.slice.injEq] at ef
      obtain ⟨rfl, _, rfl⟩ := ef
      have hfk := upTo_at D.files D.now k f hf
      obtain ⟨nv, sv, ho, hnv, hsv⟩ := (HL.out.files.each k x f hx hfk).ex
      have lo := (HL.out.files.each k x f hx hfk).lo
      have hop := (HL.out.files.each k x f hx hfk).opn
      have u0 : (0 : Int) ≤ (k : Int) := by omega
      have u1 : (k : Int) < (n : Int) := by omega
      have HCon := Aside0.mk (contains_calls A2 cp2 xs (k : Int) wr (by
        obtain ⟨A3, c3, e3, hR⟩ := own_reads (own_turn HRow.out HT.out rfl)
        simp only [Value.slice.injEq] at e3
        obtain ⟨rfl, _, _⟩ := e3
        exact hR) (by rw [HXL.out]; exact HNl.out))
      rw [any_mem D.now xs HXS.out k] at HCon
      obtain ⟨b, hb⟩ : ∃ b, b = D.now.any (fun p => p.2 == (k : Int)) := ⟨_, rfl⟩
      rw [← hb, HXn.out] at HCon
      have e0 : wr.cell? ⟨x.1, 0, none⟩ = some nv := (blk_cell ho 0).trans rfl
      have f0 : wr.frozen? ⟨x.1, 0, none⟩ = false := blk_frozen ho 0
      have o1 := blk_put ho 0 (.slice none 0 0) rfl
      have e1 : (wr.setCell ⟨x.1, 0, none⟩ (.slice none 0 0)).cell? ⟨x.1, 1, none⟩ = some sv := (blk_cell o1 1).trans rfl
      have f1 : (wr.setCell ⟨x.1, 0, none⟩ (.slice none 0 0)).frozen? ⟨x.1, 1, none⟩ = false := blk_frozen o1 1
      have HO1 := Aside0.mk o1
      have HHo := Aside0.mk ho
      have HFK := Aside0.mk hfk
      have HF := Aside0.mk hf
      have HX := Aside0.mk hx
      have HOp := Aside0.mk hop
      have HB := Aside0.mk hb
      clear o1 ho hfk hf hx hop hb hkl hLl hnv hsv
      cases b with
      | true =>
        have HS := Aside0.mk (show swept D.now k f = f from if_pos HB.out.symm)
        go_wp2_with (go_at_call 114; refine HCon.out.mono ?_; rintro e w3 ⟨rfl, rfl⟩)
        go_roundw
        case rel => exact ⟨k + 1, by omega, by go_num, ⟨by rw [upTo_keep D.files D.now k f HF.out HS.out]; exact HL.out⟩, HT⟩
        case measure => simp [Go.RowKit.intOf]; omega
      | false =>
        have HS := Aside0.mk (show swept D.now k f = ⟨[], [], f.opn⟩ from if_neg (by rw [← HB.out]; simp))
        go_wp2_with (go_at_call 114; refine HCon.out.mono ?_; rintro e w3 ⟨rfl, rfl⟩)
        go_roundw
        case rel =>
          have k1 := But.setCell w3 ⟨x.1, 0, none⟩ (.slice none 0 0)
          have k2 := But.setCell (w3.setCell ⟨x.1, 0, none⟩ (.slice none 0 0)) ⟨x.1, 1, none⟩ (.slice none 0 0)
          have nx : Not w3 (some x.1) (tC :: kChg.E) := by
            rw [chgE]
            exact Not.cells (t := tF) (fun g hg => by obtain rfl := Option.some.inj hg; exact ⟨_, _, HHo.out⟩) (by decide)
          have hL2 := HL.out.file k x f HX.out HFK.out (Nat.le_trans k1.1 k2.1) (fun j hj h1 h2 => (k1.trans k2).2 j hj (fun e => h1 (Option.some.inj e))) x.2 ⟨[], [], f.opn⟩ ⟨⟨_, _, blk_put HO1.out 1 (.slice none 0 0) rfl, Kd.R_nil _ _ _ _ _, Kd.R_nil _ _ _ _ _⟩, lo, R_row HOp.out (k1.trans k2) nx⟩ (.inr (.inl rfl))
          have eL : L.set k (x.1, x.2) = L := by
            apply List.ext_getElem?
            intro j
            rw [List.getElem?_set]
            by_cases hj : k = j
            · subst hj; rw [if_pos rfl, HX.out, if_pos (List.getElem?_eq_some_iff.1 HX.out).1]
            · rw [if_neg hj]
          rw [eL] at hL2
          have eF : (upTo D.files D.now k).set k ⟨[], [], f.opn⟩ = upTo D.files D.now (k + 1) := by rw [← HS.out]; exact upTo_step D.files D.now k f HF.out
          simp only [eF] at hL2
          exact ⟨k + 1, by omega, by go_num, ⟨hL2⟩, ⟨(HT.out.setCell HHo.out rfl lo 0 _).setCell HO1.out rfl lo 1 _⟩⟩
        case measure => simp [Go.RowKit.intOf]; omega
    · have t1 : decide (k < n) = false := decide_eq_false hlt
      have HK := Aside0.mk (show k = D.files.length by rw [← HN.out]; omega)
      go_wp2
      go_end0
      refine ⟨rfl, ?_, (Turn.of_below HB2.out).trans HT.out⟩
      have := HL.out
      rw [HK.out, upTo_all] at this
      exact this
end Go.Proofs.YtpcfnkmljchiiaaGreatDoor.DSwp
end
