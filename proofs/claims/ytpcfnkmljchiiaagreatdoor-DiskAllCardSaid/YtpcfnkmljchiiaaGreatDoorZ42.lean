/- Steps towards RDiskAll: DRpl. -/
import Derived.Test.YtpcfnkmljchiiaaGreatDoorZ41
set_option linter.unusedVariables false
set_option linter.unusedSimpArgs false
/- played walked: a disk and its document's disk answer alike. Written by a program of mine (genpl.py). -/
namespace Go.Proofs.YtpcfnkmljchiiaaGreatDoor.DRpl
open Go Go.RowKit Go.Maps Go.Proofs.YtpcfnkmljchiiaaGreatDoorW.PrintWords Go.Proofs.YtpcfnkmljchiiaaGreatDoorW.PrintLast Go.Proofs.YtpcfnkmljchiiaaGreatDoorW.PrintMore DPl DAt Go.Proofs.YtpcfnkmljchiiaaGreatDoor.Is DNw DRn DRd DRl DRt DDo DRel DRak DRau DRlm DRnb DRnc DRnd DRne DRcr DRin DRpa DFil DUsd DCh2 DOps DSyn DSd DCr DCra DCrc DRen DOpn GPl
attribute [local go_sem] max2_int min2_int max_two min_two max_three min_three max_four min_four
theorem _root_.Go.Proofs.YtpcfnkmljchiiaaGreatDoor.DRl.RDiskAt.cells {n d : Nat} {M : Dsk} {W : World} (h : RDiskAt n W d M) : W.cell? ⟨d, 4, none⟩ = some (.int .i64 M.quota) ∧ W.cell? ⟨d, 5, none⟩ = some (.int .i64 M.armed) ∧ W.cell? ⟨d, 6, none⟩ = some (.bool M.off) ∧ W.cell? ⟨d, 7, none⟩ = some (.int .i64 M.steps) ∧ ∀ i, W.frozen? ⟨d, i, none⟩ = false := by
  obtain ⟨L, fv, nv, iv, ov, hl⟩ := h
  exact ⟨(blk_cell hl.obj 4).trans rfl, (blk_cell hl.obj 5).trans rfl, (blk_cell hl.obj 6).trans rfl, (blk_cell hl.obj 7).trans rfl, fun i => blk_frozen hl.obj i⟩
theorem used_at2 {B : Bx} {p : Nat} {D : Dsk} {w : World} (h : DiskAt B w p D) (hk : D.Ok) (hs : D.steps ≤ 1000000000) : Calls Tryz.prog 52 #[.pointer (some ⟨p, 0, none⟩)] w fun e w' => e = .returned (.int .i64 (usedD D : Nat)) ∧ Below w.heap.size w w' := by
  obtain ⟨L, m1, m2, fv, ov, hl⟩ := h
  exact used_calls p D w hl hk hs
theorem ints_C {w : World} {base c : Nat} {a : Addr} {l : List Int} {ok : Nat → Prop} (h : Kd.R (Kd.int .i64) 3 w base ok (.slice (some a) (l.length + 4) c) (l ++ four4)) : Kd.C (Kd.int .i64) w (some a) (l.length + 4) (l ++ four4) := by
  obtain ⟨A, c2, e, hc, hC⟩ := Kd.R_reads h
  have el : (l ++ four4).length = l.length + 4 := by simp [four4]
  rw [el] at e hC
  simp only [Value.slice.injEq] at e
  obtain ⟨rfl, _, rfl⟩ := e
  exact hC
theorem rise_act {D : Dsk} (hk : D.Ok) (h : Rising D.sure) (o : S35) : Rising (actD o D).sure := by
  unfold actD
  split
  · exact rise_create h _
  split
  · exact rise_append h _ _
  split
  · exact rise_write h _ _ _
  split
  · exact rise_trunc h _ _
  split
  · exact rise_rename h _ _
  split
  · exact rise_remove h _
  split
  · exact rise_sync h _
  split
  · exact rise_syncDir hk h
  split
  · exact rise_quota h _
  split
  · exact h
  split
  · exact rise_crash h _
  · exact h
section
variable {B ob q c : Nat} {w0 W V : World} {E : Int → Addr} {cs : Array Value} {l : List Int}
theorem _root_.Go.Proofs.YtpcfnkmljchiiaaGreatDoor.DRpa.FW.cell (h : FW B w0 E ob cs q c l W) (i : Nat) (v : Value) (hv : cs[i]? = some v) : W.cell? ⟨ob, i, none⟩ = some v := (blk_cell h.ho i).trans hv
theorem _root_.Go.Proofs.YtpcfnkmljchiiaaGreatDoor.DRpa.FW.all (h : FW B w0 E ob cs q c l W) : Kd.C (Kd.int .u8) W (some ⟨q, 0, none⟩) (l.length + 6) (l ++ six) ∧ l.length + 6 ≤ c := by
  obtain ⟨A, c2, e, hc, hC⟩ := Kd.R_reads h.hb
  have el : (l ++ six).length = l.length + 6 := by simp [six]
  rw [el] at e hc hC
  simp only [Value.slice.injEq] at e
  obtain ⟨rfl, _, rfl⟩ := e
  exact ⟨hC, hc⟩
theorem _root_.Go.Proofs.YtpcfnkmljchiiaaGreatDoor.DRpa.FW.head (h : FW B w0 E ob cs q c l W) : Kd.C (Kd.int .u8) W (some ⟨q, 0, none⟩) l.length l := kept_head h.all.1
theorem _root_.Go.Proofs.YtpcfnkmljchiiaaGreatDoor.DRpa.FW.cap (h : FW B w0 E ob cs q c l W) : l.length ≤ c := by have := h.all.2; omega
end
set_option maxRecDepth 100000 in
set_option maxHeartbeats 32000000 in
theorem played_calls (n q0 d m : Nat) (w0 : World) (hn : n = w0.heap.size) (E : Int → Addr) (o : S35) (D : Dsk) (G : List Fil) (A4 : Option Addr) (c4 : Nat) (A5 : Option Addr) (c5 : Nat) (W : World)
    (hbel : Below n w0 W) (hd : DiskAt ⟨n, q0⟩ W d D) (hm : RDiskAt n W m (withF D G)) (hE : AllAt n W E) (hk : D.Ok) (hr : FRel D G) (hri : Rising D.sure) (hst : D.steps ≤ 999999990)
    (hk2 : (actD o D).Ok) (hst2 : (actD o D).steps ≤ 1000000000) (hs2 : o.f2.size < 9223372036854775807) (hs3 : o.f3.size < 9223372036854775807)
    (hC4 : Kd.C (Kd.int .u8) w0 A4 o.f4.length o.f4) (hc4 : o.f4.length ≤ c4) (hl4 : o.f4.length ≤ 1000000) (hC5 : Kd.C (Kd.int .i64) w0 A5 o.f5.length o.f5) (hc5 : o.f5.length ≤ c5) (hl5 : o.f5.length ≤ 1000000) :
    Calls Tryz.prog 11 #[.pointer (some ⟨d, 0, none⟩), .pointer (some ⟨m, 0, none⟩), .agg #[.int .i64 o.f0, .int .i64 o.f1, .string o.f2, .string o.f3, .slice A4 o.f4.length c4, .slice A5 o.f5.length c5]] W fun e w' => e = .returned (.bool true) ∧ ∃ q2 G2, DiskAt ⟨n, q2⟩ w' d (actD o D) ∧ RDiskAt n w' m (withF (actD o D) G2) ∧ FRel (actD o D) G2 ∧ Below n w0 w' := by
  have HnW := Aside0.mk (show n ≤ w0.heap.size from Nat.le_of_eq hn)
  have hnW : n ≤ W.heap.size := Nat.le_trans HnW.out hbel.size
  have HC4 := Aside0.mk (fun (V : World) (hb : Below n w0 V) => Kd.C_below hC4 (hn ▸ hb))
  have HC5 := Aside0.mk (fun (V : World) (hb : Below n w0 V) => Kd.C_below hC5 (hn ▸ hb))
  have HCv := Aside0.mk (fun (V : World) (hb : Below n w0 V) => Kd.C_string (P := Tryz.prog) (w := V) (A := A4) (c := c4) Tryz.underlying32 Tryz.underlying5 Tryz.underlying9 (Kd.C_below hC4 (hn ▸ hb)))
  have Hc4 := Aside0.mk hc4
  have Hc5 := Aside0.mk hc5
  have HL4 := Aside0.mk hl4
  have HL5 := Aside0.mk hl5
  have HOk := Aside0.mk hk
  have HRl := Aside0.mk hr
  have HRi := Aside0.mk hri
  have HSt := Aside0.mk hst
  have HOk2 := Aside0.mk hk2
  have HSt2 := Aside0.mk hst2
  have HS2 := Aside0.mk hs2
  have HS3 := Aside0.mk hs3
  have HOG := Aside0.mk (ok_with hk hr)
  have HD := Aside0.mk hd
  have HM := Aside0.mk hm
  have HE := Aside0.mk hE
  have HBl := Aside0.mk hbel
  obtain ⟨kd, hkd⟩ : ∃ kd, kd = o.f0 := ⟨_, rfl⟩
  have HKd := Aside0.mk hkd
  rw [← hkd]
  clear hkd
  obtain ⟨cs, hcs⟩ : ∃ cs : Array Value, cs = #[.int .i64 kd, .int .i64 o.f1, .string o.f2, .string o.f3, .slice A4 o.f4.length c4, .slice A5 o.f5.length c5] := ⟨_, rfl⟩
  have HB1 := Aside0.mk (show Below W.heap.size W (W.alloc (.cells #[.int .i64 kd, .int .i64 o.f1, .string o.f2, .string o.f3, .slice A4 o.f4.length c4, .slice A5 o.f5.length c5] tOp)) from (Below.refl _ _).alloc (Nat.le_refl _) _)
  have HO1 := Aside0.mk (heap_alloc_new W (.cells #[.int .i64 kd, .int .i64 o.f1, .string o.f2, .string o.f3, .slice A4 o.f4.length c4, .slice A5 o.f5.length c5] tOp))
  have b4 := (blk_cell HO1.out 4).trans (rfl : _ = some (Value.slice A4 o.f4.length c4))
  have HBt := Aside0.mk (fun (U : World) (hb : Below n w0 U) => postbagnum_Bytes.calls A4 c4 o.f4 U (HC4.out U hb) Hc4.out HL4.out)
  clear hbel hd hm hE hk hr hri hst hk2 hst2 hs2 hs3 hC4 hc4 hl4 hC5 hc5 hl5 hn
  go_enter Tryz.func11, Tryz.ntmps11
  go_upto_region 2 with (go_at_call 24; refine (HBt.out _ (HBl.out.trans (HB1.out.mono hnW))).mono ?_; rintro e w2 ⟨a, c, rfl, hcc, hrow, hb2⟩; obtain ⟨inner, how⟩ := Kd.R_own hrow; obtain ⟨q, cp, eq_, _, _⟩ := World.ownsRow.form how (by simp [six]); simp only [Value.slice.injEq, Option.some.injEq] at eq_; obtain ⟨rfl, _, rfl⟩ := eq_; have HB2 := Aside0.mk (HB1.out.trans (hb2.mono HB1.out.size)); have HF2 := Aside0.mk (show FW n w0 E W.heap.size cs q c o.f4 w2 from ⟨HBl.out.trans (HB2.out.mono hnW), HE.out.low (HB2.out.mono hnW) (Nat.le_refl _), by rw [hcs]; exact (hb2.block _ (blk_lt HO1.out)).trans HO1.out, Kd.R_lower hrow (by have h9 := HB1.out.size; omega)⟩); have HQn := Aside0.mk (show n ≤ q from Nat.le_trans hnW (Nat.le_trans HB1.out.size (own_base how _ rfl))); have HD2 := Aside0.mk (HD.out.requ (q := q) HB2.out (Nat.le_trans HB1.out.size (own_base how _ rfl)) (own_lt how _ rfl)); have HM2 := Aside0.mk (HM.out.keep HB2.out); clear hcc hrow hb2 how)
  generalize hob : W.heap.size = ob at HF2 ⊢
  clear hob HD HM HE HBl HB1 HO1 b4 HB2 HBt
  subst hcs
  have f0 := HF2.out.cell 0 _ rfl
  go_upto_block 0 with (fail)
  go_cut [8] from 9 to 178 (fun s wx => s = .bool true ∧ ∃ G2, FRel (actD o D) G2 ∧ Aside0 (DiskAt ⟨n, q⟩ wx d (actD o D)) ∧ Aside0 (RDiskAt n wx m (withF (actD o D) G2)) ∧ Aside0 (FW n w0 E ob #[.int .i64 kd, .int .i64 o.f1, .string o.f2, .string o.f3, .slice A4 o.f4.length c4, .slice A5 o.f5.length c5] q c o.f4 wx))
  case first =>
    clear f0
    have HFd := Aside0.mk (HF2.out.below (Below.refl _ w2).drew (HF2.out.size HnW.out))
    by_cases k1 : kd = 1
    · subst k1
      have HAct := Aside0.mk (show actD o D = (createD D o.f2).2 by unfold actD; rw [← HKd.out]; rfl)
      obtain ⟨G2, hp1, hp2⟩ := par_create HOk.out HRl.out o.f2
      have hp1 : createD (withF D G) o.f2 = ((createD D o.f2).1, withF (createD D o.f2).2 G2) := hp1
      have HMc := Aside0.mk (fun (U : World) (hu : RDiskAt n U m (withF D G)) => rcreate_calls (B := n) (p := m) (D := withF D G) (w := U) o.f2 HS2.out hu HOG.out (by have := HSt.out; show D.steps ≤ 999999999; omega) HRi.out)
      rw [hp1] at HMc
      have HP2 := Aside0.mk hp2
      have HNm := Aside0.mk (fun (U : World) (hu : AllAt n U E) => num_calls (createD D o.f2).1 (numE (createD D o.f2).1) E U hu.errs (numF_of (es_create D o.f2)))
      clear hp1 hp2
      go_upto_region 5 with (fail)
      refine start_ (n := 11) (S := fun w' => w'.cell? ⟨ob, 2, none⟩ = some (.string o.f2)) (ds := []) #[ff,ff,ff,ff,ff,ff,ff,ff,ff,ff,ff] (by kernel_rfl) rfl rfl ((HFd.out.cell 2 _ rfl)) (fun hHeld => ?_)
      have HD0 := Aside0.mk (show DiskAt ⟨n, q⟩ w2.drew d D from HD2.out.below (Below.refl _ _).drew)
      have HM0 := Aside0.mk (HM2.out.keep (Below.refl _ w2).drew)
      have HF0 := Aside0.mk (HF2.out.below (Below.refl _ w2).drew (HF2.out.size HnW.out))
      generalize w2.drew = u0 at HD0 HM0 HF0 hHeld ⊢
      refine pure_ (i := 0) (N := some 19) (v := ?_) (a' := ?_) #[tt,ff,ff,ff,ff,ff,ff,ff,ff,ff,ff] rfl rfl (by kernel_rfl) (fun _ _ _ h => h) (Or.inl ⟨by rfl, ?_⟩) ?_ ?_
      rotate_left
      · intro w'
        go_simp
        with_reducible rfl
      rotate_left
      · simp only [Act.put, pkA, pkB, pkC, i64_w, i32_w]
        rfl
      refine pure_ (i := 1) (N := some 20) (v := ?_) (a' := ?_) #[tt,tt,ff,ff,ff,ff,ff,ff,ff,ff,ff] rfl rfl (by kernel_rfl) (fun _ _ _ h => h) (Or.inl ⟨by rfl, ?_⟩) ?_ ?_
      rotate_left
      · intro w'
        go_simp
        with_reducible rfl
      rotate_left
      · simp only [Act.put, pkA, pkB, pkC, i64_w, i32_w]
        rfl
      refine pure_ (i := 5) (N := some 24) (v := ?_) (a' := ?_) #[tt,tt,ff,ff,ff,tt,ff,ff,ff,ff,ff] rfl rfl (by kernel_rfl) (fun _ _ _ h => h) (Or.inl ⟨by rfl, ?_⟩) ?_ ?_
      rotate_left
      · intro w'
        go_simp
        with_reducible rfl
      rotate_left
      · simp only [Act.put, pkA, pkB, pkC, i64_w, i32_w]
        rfl
      refine pure_ (i := 6) (N := some 25) (v := ?_) (a' := ?_) #[tt,tt,ff,ff,ff,tt,tt,ff,ff,ff,ff] rfl rfl (by kernel_rfl) (fun _ _ _ h => h) (Or.inl ⟨by rfl, ?_⟩) ?_ ?_
      rotate_left
      · intro w'
        go_simp
        with_reducible rfl
      rotate_left
      · simp only [Act.put, pkA, pkB, pkC, i64_w, i32_w]
        rfl
      refine take_ (i := 2) (N := some 21) (v := ?_) (a' := ?_) #[tt,tt,tt,ff,ff,tt,tt,ff,ff,ff,ff] rfl rfl (by kernel_rfl) (fun _ _ _ h => h) (Or.inl ⟨by rfl, ?_⟩) hHeld ?_ ?_
      rotate_left
      · intro w' s0
        go_simp
        with_reducible rfl
      rotate_left
      · simp only [Act.put, pkA, pkB, pkC, i64_w, i32_w]
        rfl
      refine take_ (i := 7) (N := some 26) (v := ?_) (a' := ?_) #[tt,tt,tt,ff,ff,tt,tt,tt,ff,ff,ff] rfl rfl (by kernel_rfl) (fun _ _ _ h => h) (Or.inl ⟨by rfl, ?_⟩) hHeld ?_ ?_
      rotate_left
      · intro w' s0
        go_simp
        with_reducible rfl
      rotate_left
      · simp only [Act.put, pkA, pkB, pkC, i64_w, i32_w]
        rfl
      refine one_ (i := 3) (N := some 22) #[tt,tt,tt,tt,ff,tt,tt,tt,ff,ff,ff] rfl rfl (by kernel_rfl) (by decide) (fun K hK => ?_)
      refine goes_ Tryz.func34 (by kernel_rfl) rfl #[.pointer (some ⟨d, 0, none⟩), .string o.f2] (by rfl) rfl rfl (by simp only [List.map_toArray, List.map_cons, List.map_nil]; rfl) ?_
      with_reducible refine (create_calls (h := HD0.out) (hE := HF0.out.errs.disk) (hk := HOk.out) (hst := by have := HSt.out; omega) (s := o.f2) (hs := HS2.out)).mono ?_
      rintro e u1 ⟨rfl, hd1, ht1⟩
      refine ⟨_, rfl, ?_⟩
      have HD1 := Aside0.mk hd1
      have HM1 := Aside0.mk (HM0.out.turnN ht1)
      have HF1 := Aside0.mk (HF0.out.turn ht1 (HF0.out.size HnW.out))
      clear hd1 ht1
      refine hK.out _ _ ((HF1.out.cell 2 _ rfl)) (fun hHeld => ?_)
      clear hK K
      refine norm_ (a' := ?_) ?_ ?_
      rotate_left
      · show Act.put _ (some 22) _ = _
        simp only [Act.put, pkA, pkB, pkC, i64_w, i32_w]
        rfl
      refine one_ (i := 4) (N := some 23) #[tt,tt,tt,tt,tt,tt,tt,tt,ff,ff,ff] rfl rfl (by kernel_rfl) (by decide) (fun K hK => ?_)
      refine goes_ Tryz.func20 (by kernel_rfl) rfl #[errV E (createD D o.f2).1] (by rfl) rfl rfl (by simp only [List.map_toArray, List.map_cons, List.map_nil]; rfl) ?_
      with_reducible refine (HNm.out _ HF1.out.errs).mono ?_
      rintro e u2 ⟨rfl, hb2⟩
      refine ⟨_, rfl, ?_⟩
      have HD2' := Aside0.mk (HD1.out.below hb2)
      have HM2' := Aside0.mk (HM1.out.keep hb2)
      have HF2' := Aside0.mk (HF1.out.below hb2 (HF1.out.size HnW.out))
      clear hb2
      refine hK.out _ _ ((HF2'.out.cell 2 _ rfl)) (fun hHeld => ?_)
      clear hK K
      refine norm_ (a' := ?_) ?_ ?_
      rotate_left
      · show Act.put _ (some 23) _ = _
        simp only [Act.put, pkA, pkB, pkC, i64_w, i32_w]
        rfl
      refine one_ (i := 8) (N := some 27) #[tt,tt,tt,tt,tt,tt,tt,tt,tt,ff,ff] rfl rfl (by kernel_rfl) (by decide) (fun K hK => ?_)
      refine goes_ Tryz.func38 (by kernel_rfl) rfl #[.pointer (some ⟨m, 0, none⟩), .string o.f2] (by rfl) rfl rfl (by simp only [List.map_toArray, List.map_cons, List.map_nil]; rfl) ?_
      with_reducible refine (HMc.out _ HM2'.out).mono ?_
      rintro e u3 ⟨rfl, hm3, ht3⟩
      refine ⟨_, rfl, ?_⟩
      have HD3 := Aside0.mk (HD2'.out.rturnN ht3)
      have HM3 := Aside0.mk hm3
      have HF3 := Aside0.mk (HF2'.out.rturn ht3 (HF2'.out.size HnW.out))
      clear hm3 ht3
      refine hK.out _ _ ((HF3.out.cell 2 _ rfl)) (fun hHeld => ?_)
      clear hK K
      refine norm_ (a' := ?_) ?_ ?_
      rotate_left
      · show Act.put _ (some 27) _ = _
        simp only [Act.put, pkA, pkB, pkC, i64_w, i32_w]
        rfl
      refine pure_ (i := 9) (N := some 28) (v := ?_) (a' := ?_) #[tt,tt,tt,tt,tt,tt,tt,tt,tt,tt,ff] rfl rfl (by kernel_rfl) (fun _ _ _ h => h) (Or.inl ⟨by rfl, ?_⟩) ?_ ?_
      rotate_left
      · intro w'
        go_simp
        with_reducible rfl
      rotate_left
      · simp only [Act.put, pkA, pkB, pkC, i64_w, i32_w]
        rfl
      refine pure_ (i := 10) (N := some 8) (v := ?_) (a' := ?_) #[tt,tt,tt,tt,tt,tt,tt,tt,tt,tt,tt] rfl rfl (by kernel_rfl) (fun _ _ _ h => h) (Or.inl ⟨by rfl, ?_⟩) ?_ ?_
      rotate_left
      · intro w'
        go_simp
        with_reducible rfl
      rotate_left
      · simp only [Act.put, pkA, pkB, pkC, i64_w, i32_w]
        rfl
      refine done_ (by kernel_rfl) ?_
      go_wp2
      go_meet
      exact ⟨rfl, G2, by rw [HAct.out]; exact HP2.out, ⟨by rw [HAct.out]; exact HD3.out⟩, ⟨by rw [HAct.out]; exact HM3.out⟩, HF3⟩
    have e1 : (kd == 1) = false := by simpa using k1
    by_cases k2 : kd = 2
    · subst k2
      have HAct := Aside0.mk (show actD o D = (appendD D o.f2 o.f4).2 by unfold actD; rw [← HKd.out]; rfl)
      obtain ⟨G2, hp1, hp2⟩ := par_append HOk.out HRl.out o.f2 o.f4
      have hp1 : appendD (withF D G) o.f2 o.f4 = ((appendD D o.f2 o.f4).1, withF (appendD D o.f2 o.f4).2 G2) := hp1
      have HMc := Aside0.mk (fun (U : World) (hu : RDiskAt n U m (withF D G)) => (show Calls _ _ _ _ (fun e w' => e = .returned (.int .i64 (numE (chgD (withF D G) o.f2 true false 0 o.f4).1)) ∧ RDiskAt n w' m (chgD (withF D G) o.f2 true false 0 o.f4).2 ∧ RTurn n U w') from rchange_calls (B := n) (p := m) (D := withF D G) (w := U) o.f2 HS2.out 1 0 true false rfl rfl o.f4 HL4.out hu HOG.out (by have := HSt.out; show D.steps ≤ 999999999; omega) HRi.out))
      simp only [chg_append, hp1] at HMc
      have HP2 := Aside0.mk hp2
      have HNm := Aside0.mk (fun (U : World) (hu : AllAt n U E) => num_calls (appendD D o.f2 o.f4).1 (numE (appendD D o.f2 o.f4).1) E U hu.errs (numF_of (es_append D o.f2 o.f4)))
      clear hp1 hp2
      go_upto_region 7 with (fail)
      refine start_ (n := 15) (S := fun w' => w'.cell? ⟨ob, 2, none⟩ = some (.string o.f2) ∧ w'.cell? ⟨ob, 4, none⟩ = some (.slice A4 o.f4.length c4) ∧ (convert 32 9 (.slice A4 o.f4.length c4)).run Tryz.prog w' = .ok (.string (strOfNums o.f4)) w') (ds := []) #[ff,ff,ff,ff,ff,ff,ff,ff,ff,ff,ff,ff,ff,ff,ff] (by kernel_rfl) rfl rfl ⟨(HFd.out.cell 2 _ rfl), (HFd.out.cell 4 _ rfl), (HCv.out _ HFd.out.bel)⟩ (fun hHeld => ?_)
      have HD0 := Aside0.mk (show DiskAt ⟨n, q⟩ w2.drew d D from HD2.out.below (Below.refl _ _).drew)
      have HM0 := Aside0.mk (HM2.out.keep (Below.refl _ w2).drew)
      have HF0 := Aside0.mk (HF2.out.below (Below.refl _ w2).drew (HF2.out.size HnW.out))
      generalize w2.drew = u0 at HD0 HM0 HF0 hHeld ⊢
      refine pure_ (i := 0) (N := some 31) (v := ?_) (a' := ?_) #[tt,ff,ff,ff,ff,ff,ff,ff,ff,ff,ff,ff,ff,ff,ff] rfl rfl (by kernel_rfl) (fun _ _ _ h => h) (Or.inl ⟨by rfl, ?_⟩) ?_ ?_
      rotate_left
      · intro w'
        go_simp
        with_reducible rfl
      rotate_left
      · simp only [Act.put, pkA, pkB, pkC, i64_w, i32_w]
        rfl
      refine pure_ (i := 1) (N := some 32) (v := ?_) (a' := ?_) #[tt,tt,ff,ff,ff,ff,ff,ff,ff,ff,ff,ff,ff,ff,ff] rfl rfl (by kernel_rfl) (fun _ _ _ h => h) (Or.inl ⟨by rfl, ?_⟩) ?_ ?_
      rotate_left
      · intro w'
        go_simp
        with_reducible rfl
      rotate_left
      · simp only [Act.put, pkA, pkB, pkC, i64_w, i32_w]
        rfl
      refine pure_ (i := 3) (N := some 34) (v := ?_) (a' := ?_) #[tt,tt,ff,tt,ff,ff,ff,ff,ff,ff,ff,ff,ff,ff,ff] rfl rfl (by kernel_rfl) (fun _ _ _ h => h) (Or.inl ⟨by rfl, ?_⟩) ?_ ?_
      rotate_left
      · intro w'
        go_simp
        with_reducible rfl
      rotate_left
      · simp only [Act.put, pkA, pkB, pkC, i64_w, i32_w]
        rfl
      refine pure_ (i := 6) (N := some 37) (v := ?_) (a' := ?_) #[tt,tt,ff,tt,ff,ff,tt,ff,ff,ff,ff,ff,ff,ff,ff] rfl rfl (by kernel_rfl) (fun _ _ _ h => h) (Or.inl ⟨by rfl, ?_⟩) ?_ ?_
      rotate_left
      · intro w'
        go_simp
        with_reducible rfl
      rotate_left
      · simp only [Act.put, pkA, pkB, pkC, i64_w, i32_w]
        rfl
      refine pure_ (i := 7) (N := some 38) (v := ?_) (a' := ?_) #[tt,tt,ff,tt,ff,ff,tt,tt,ff,ff,ff,ff,ff,ff,ff] rfl rfl (by kernel_rfl) (fun _ _ _ h => h) (Or.inl ⟨by rfl, ?_⟩) ?_ ?_
      rotate_left
      · intro w'
        go_simp
        with_reducible rfl
      rotate_left
      · simp only [Act.put, pkA, pkB, pkC, i64_w, i32_w]
        rfl
      refine pure_ (i := 9) (N := some 40) (v := ?_) (a' := ?_) #[tt,tt,ff,tt,ff,ff,tt,tt,ff,tt,ff,ff,ff,ff,ff] rfl rfl (by kernel_rfl) (fun _ _ _ h => h) (Or.inl ⟨by rfl, ?_⟩) ?_ ?_
      rotate_left
      · intro w'
        go_simp
        with_reducible rfl
      rotate_left
      · simp only [Act.put, pkA, pkB, pkC, i64_w, i32_w]
        rfl
      refine take_ (i := 2) (N := some 33) (v := ?_) (a' := ?_) #[tt,tt,tt,tt,ff,ff,tt,tt,ff,tt,ff,ff,ff,ff,ff] rfl rfl (by kernel_rfl) (fun _ _ _ h => h) (Or.inl ⟨by rfl, ?_⟩) hHeld ?_ ?_
      rotate_left
      · rintro w' ⟨s0, s1, s2⟩
        go_simp
        with_reducible rfl
      rotate_left
      · simp only [Act.put, pkA, pkB, pkC, i64_w, i32_w]
        rfl
      refine take_ (i := 8) (N := some 39) (v := ?_) (a' := ?_) #[tt,tt,tt,tt,ff,ff,tt,tt,tt,tt,ff,ff,ff,ff,ff] rfl rfl (by kernel_rfl) (fun _ _ _ h => h) (Or.inl ⟨by rfl, ?_⟩) hHeld ?_ ?_
      rotate_left
      · rintro w' ⟨s0, s1, s2⟩
        go_simp
        with_reducible rfl
      rotate_left
      · simp only [Act.put, pkA, pkB, pkC, i64_w, i32_w]
        rfl
      refine take_ (i := 10) (N := some 41) (v := ?_) (a' := ?_) #[tt,tt,tt,tt,ff,ff,tt,tt,tt,tt,tt,ff,ff,ff,ff] rfl rfl (by kernel_rfl) (fun _ _ _ h => h) (Or.inl ⟨by rfl, ?_⟩) hHeld ?_ ?_
      rotate_left
      · rintro w' ⟨s0, s1, s2⟩
        go_simp
        with_reducible rfl
      rotate_left
      · simp only [Act.put, pkA, pkB, pkC, i64_w, i32_w]
        rfl
      refine take_ (i := 11) (N := some 42) (v := ?_) (a' := ?_) #[tt,tt,tt,tt,ff,ff,tt,tt,tt,tt,tt,tt,ff,ff,ff] rfl rfl (by kernel_rfl) (fun _ _ _ h => h) (Or.inl ⟨by rfl, ?_⟩) hHeld ?_ ?_
      rotate_left
      · rintro w' ⟨s0, s1, s2⟩
        go_simp
        with_reducible rfl
      rotate_left
      · simp only [Act.put, pkA, pkB, pkC, i64_w, i32_w]
        rfl
      refine one_ (i := 4) (N := some 35) #[tt,tt,tt,tt,tt,ff,tt,tt,tt,tt,tt,tt,ff,ff,ff] rfl rfl (by kernel_rfl) (by decide) (fun K hK => ?_)
      refine goes_ Tryz.func36 (by kernel_rfl) rfl #[.pointer (some ⟨d, 0, none⟩), .string o.f2, .slice (some ⟨q, 0, none⟩) o.f4.length c] (by rfl) rfl rfl (by simp only [List.map_toArray, List.map_cons, List.map_nil]; rfl) ?_
      with_reducible refine (append_calls (h := HD0.out) (hE := HF0.out.errs.disk) (hk := HOk.out) (hst := by have := HSt.out; omega) (s := o.f2) (hs := HS2.out) (A0 := some ⟨q, 0, none⟩) (c0 := c) (b := o.f4) (hC := HF0.out.head) (hc0 := HF0.out.cap) (hbl := HL4.out)).mono ?_
      rintro e u1 ⟨rfl, hd1, ht1⟩
      refine ⟨_, rfl, ?_⟩
      have HD1 := Aside0.mk hd1
      have HM1 := Aside0.mk (HM0.out.turnN ht1)
      have HF1 := Aside0.mk (HF0.out.turn ht1 (HF0.out.size HnW.out))
      clear hd1 ht1
      refine hK.out _ _ ⟨(HF1.out.cell 2 _ rfl), (HF1.out.cell 4 _ rfl), (HCv.out _ HF1.out.bel)⟩ (fun hHeld => ?_)
      clear hK K
      refine norm_ (a' := ?_) ?_ ?_
      rotate_left
      · show Act.put _ (some 35) _ = _
        simp only [Act.put, pkA, pkB, pkC, i64_w, i32_w]
        rfl
      refine one_ (i := 5) (N := some 36) #[tt,tt,tt,tt,tt,tt,tt,tt,tt,tt,tt,tt,ff,ff,ff] rfl rfl (by kernel_rfl) (by decide) (fun K hK => ?_)
      refine goes_ Tryz.func20 (by kernel_rfl) rfl #[errV E (appendD D o.f2 o.f4).1] (by rfl) rfl rfl (by simp only [List.map_toArray, List.map_cons, List.map_nil]; rfl) ?_
      with_reducible refine (HNm.out _ HF1.out.errs).mono ?_
      rintro e u2 ⟨rfl, hb2⟩
      refine ⟨_, rfl, ?_⟩
      have HD2' := Aside0.mk (HD1.out.below hb2)
      have HM2' := Aside0.mk (HM1.out.keep hb2)
      have HF2' := Aside0.mk (HF1.out.below hb2 (HF1.out.size HnW.out))
      clear hb2
      refine hK.out _ _ ⟨(HF2'.out.cell 2 _ rfl), (HF2'.out.cell 4 _ rfl), (HCv.out _ HF2'.out.bel)⟩ (fun hHeld => ?_)
      clear hK K
      refine norm_ (a' := ?_) ?_ ?_
      rotate_left
      · show Act.put _ (some 36) _ = _
        simp only [Act.put, pkA, pkB, pkC, i64_w, i32_w]
        rfl
      refine one_ (i := 12) (N := some 43) #[tt,tt,tt,tt,tt,tt,tt,tt,tt,tt,tt,tt,tt,ff,ff] rfl rfl (by kernel_rfl) (by decide) (fun K hK => ?_)
      refine goes_ Tryz.func39 (by kernel_rfl) rfl #[.pointer (some ⟨m, 0, none⟩), .string o.f2, .int .i64 1, .int .i64 0, .string (strOfNums o.f4)] (by rfl) rfl rfl (by simp only [List.map_toArray, List.map_cons, List.map_nil]; rfl) ?_
      with_reducible refine (HMc.out _ HM2'.out).mono ?_
      rintro e u3 ⟨rfl, hm3, ht3⟩
      refine ⟨_, rfl, ?_⟩
      have HD3 := Aside0.mk (HD2'.out.rturnN ht3)
      have HM3 := Aside0.mk hm3
      have HF3 := Aside0.mk (HF2'.out.rturn ht3 (HF2'.out.size HnW.out))
      clear hm3 ht3
      refine hK.out _ _ ⟨(HF3.out.cell 2 _ rfl), (HF3.out.cell 4 _ rfl), (HCv.out _ HF3.out.bel)⟩ (fun hHeld => ?_)
      clear hK K
      refine norm_ (a' := ?_) ?_ ?_
      rotate_left
      · show Act.put _ (some 43) _ = _
        simp only [Act.put, pkA, pkB, pkC, i64_w, i32_w]
        rfl
      refine pure_ (i := 13) (N := some 44) (v := ?_) (a' := ?_) #[tt,tt,tt,tt,tt,tt,tt,tt,tt,tt,tt,tt,tt,tt,ff] rfl rfl (by kernel_rfl) (fun _ _ _ h => h) (Or.inl ⟨by rfl, ?_⟩) ?_ ?_
      rotate_left
      · intro w'
        go_simp
        with_reducible rfl
      rotate_left
      · simp only [Act.put, pkA, pkB, pkC, i64_w, i32_w]
        rfl
      refine pure_ (i := 14) (N := some 8) (v := ?_) (a' := ?_) #[tt,tt,tt,tt,tt,tt,tt,tt,tt,tt,tt,tt,tt,tt,tt] rfl rfl (by kernel_rfl) (fun _ _ _ h => h) (Or.inl ⟨by rfl, ?_⟩) ?_ ?_
      rotate_left
      · intro w'
        go_simp
        with_reducible rfl
      rotate_left
      · simp only [Act.put, pkA, pkB, pkC, i64_w, i32_w]
        rfl
      refine done_ (by kernel_rfl) ?_
      go_wp2
      go_meet
      exact ⟨rfl, G2, by rw [HAct.out]; exact HP2.out, ⟨by rw [HAct.out]; exact HD3.out⟩, ⟨by rw [HAct.out]; exact HM3.out⟩, HF3⟩
    have e2 : (kd == 2) = false := by simpa using k2
    by_cases k3 : kd = 3
    · subst k3
      have HAct := Aside0.mk (show actD o D = (writeD D o.f2 o.f1 o.f4).2 by unfold actD; rw [← HKd.out]; rfl)
      obtain ⟨G2, hp1, hp2⟩ := par_write HOk.out HRl.out o.f2 o.f1 o.f4
      have hp1 : writeD (withF D G) o.f2 o.f1 o.f4 = ((writeD D o.f2 o.f1 o.f4).1, withF (writeD D o.f2 o.f1 o.f4).2 G2) := hp1
      have HMc := Aside0.mk (fun (U : World) (hu : RDiskAt n U m (withF D G)) => (show Calls _ _ _ _ (fun e w' => e = .returned (.int .i64 (numE (chgD (withF D G) o.f2 false false o.f1 o.f4).1)) ∧ RDiskAt n w' m (chgD (withF D G) o.f2 false false o.f1 o.f4).2 ∧ RTurn n U w') from rchange_calls (B := n) (p := m) (D := withF D G) (w := U) o.f2 HS2.out 2 o.f1 false false rfl rfl o.f4 HL4.out hu HOG.out (by have := HSt.out; show D.steps ≤ 999999999; omega) HRi.out))
      simp only [chg_write, hp1] at HMc
      have HP2 := Aside0.mk hp2
      have HNm := Aside0.mk (fun (U : World) (hu : AllAt n U E) => num_calls (writeD D o.f2 o.f1 o.f4).1 (numE (writeD D o.f2 o.f1 o.f4).1) E U hu.errs (numF_of (es_write D o.f2 o.f1 o.f4)))
      clear hp1 hp2
      go_upto_region 9 with (fail)
      refine start_ (n := 19) (S := fun w' => w'.cell? ⟨ob, 2, none⟩ = some (.string o.f2) ∧ w'.cell? ⟨ob, 1, none⟩ = some (.int .i64 o.f1) ∧ w'.cell? ⟨ob, 4, none⟩ = some (.slice A4 o.f4.length c4) ∧ (convert 32 9 (.slice A4 o.f4.length c4)).run Tryz.prog w' = .ok (.string (strOfNums o.f4)) w') (ds := []) #[ff,ff,ff,ff,ff,ff,ff,ff,ff,ff,ff,ff,ff,ff,ff,ff,ff,ff,ff] (by kernel_rfl) rfl rfl ⟨(HFd.out.cell 2 _ rfl), (HFd.out.cell 1 _ rfl), (HFd.out.cell 4 _ rfl), (HCv.out _ HFd.out.bel)⟩ (fun hHeld => ?_)
      have HD0 := Aside0.mk (show DiskAt ⟨n, q⟩ w2.drew d D from HD2.out.below (Below.refl _ _).drew)
      have HM0 := Aside0.mk (HM2.out.keep (Below.refl _ w2).drew)
      have HF0 := Aside0.mk (HF2.out.below (Below.refl _ w2).drew (HF2.out.size HnW.out))
      generalize w2.drew = u0 at HD0 HM0 HF0 hHeld ⊢
      refine pure_ (i := 0) (N := some 47) (v := ?_) (a' := ?_) #[tt,ff,ff,ff,ff,ff,ff,ff,ff,ff,ff,ff,ff,ff,ff,ff,ff,ff,ff] rfl rfl (by kernel_rfl) (fun _ _ _ h => h) (Or.inl ⟨by rfl, ?_⟩) ?_ ?_
      rotate_left
      · intro w'
        go_simp
        with_reducible rfl
      rotate_left
      · simp only [Act.put, pkA, pkB, pkC, i64_w, i32_w]
        rfl
      refine pure_ (i := 1) (N := some 48) (v := ?_) (a' := ?_) #[tt,tt,ff,ff,ff,ff,ff,ff,ff,ff,ff,ff,ff,ff,ff,ff,ff,ff,ff] rfl rfl (by kernel_rfl) (fun _ _ _ h => h) (Or.inl ⟨by rfl, ?_⟩) ?_ ?_
      rotate_left
      · intro w'
        go_simp
        with_reducible rfl
      rotate_left
      · simp only [Act.put, pkA, pkB, pkC, i64_w, i32_w]
        rfl
      refine pure_ (i := 3) (N := some 50) (v := ?_) (a' := ?_) #[tt,tt,ff,tt,ff,ff,ff,ff,ff,ff,ff,ff,ff,ff,ff,ff,ff,ff,ff] rfl rfl (by kernel_rfl) (fun _ _ _ h => h) (Or.inl ⟨by rfl, ?_⟩) ?_ ?_
      rotate_left
      · intro w'
        go_simp
        with_reducible rfl
      rotate_left
      · simp only [Act.put, pkA, pkB, pkC, i64_w, i32_w]
        rfl
      refine pure_ (i := 5) (N := some 52) (v := ?_) (a' := ?_) #[tt,tt,ff,tt,ff,tt,ff,ff,ff,ff,ff,ff,ff,ff,ff,ff,ff,ff,ff] rfl rfl (by kernel_rfl) (fun _ _ _ h => h) (Or.inl ⟨by rfl, ?_⟩) ?_ ?_
      rotate_left
      · intro w'
        go_simp
        with_reducible rfl
      rotate_left
      · simp only [Act.put, pkA, pkB, pkC, i64_w, i32_w]
        rfl
      refine pure_ (i := 8) (N := some 55) (v := ?_) (a' := ?_) #[tt,tt,ff,tt,ff,tt,ff,ff,tt,ff,ff,ff,ff,ff,ff,ff,ff,ff,ff] rfl rfl (by kernel_rfl) (fun _ _ _ h => h) (Or.inl ⟨by rfl, ?_⟩) ?_ ?_
      rotate_left
      · intro w'
        go_simp
        with_reducible rfl
      rotate_left
      · simp only [Act.put, pkA, pkB, pkC, i64_w, i32_w]
        rfl
      refine pure_ (i := 9) (N := some 56) (v := ?_) (a' := ?_) #[tt,tt,ff,tt,ff,tt,ff,ff,tt,tt,ff,ff,ff,ff,ff,ff,ff,ff,ff] rfl rfl (by kernel_rfl) (fun _ _ _ h => h) (Or.inl ⟨by rfl, ?_⟩) ?_ ?_
      rotate_left
      · intro w'
        go_simp
        with_reducible rfl
      rotate_left
      · simp only [Act.put, pkA, pkB, pkC, i64_w, i32_w]
        rfl
      refine pure_ (i := 11) (N := some 58) (v := ?_) (a' := ?_) #[tt,tt,ff,tt,ff,tt,ff,ff,tt,tt,ff,tt,ff,ff,ff,ff,ff,ff,ff] rfl rfl (by kernel_rfl) (fun _ _ _ h => h) (Or.inl ⟨by rfl, ?_⟩) ?_ ?_
      rotate_left
      · intro w'
        go_simp
        with_reducible rfl
      rotate_left
      · simp only [Act.put, pkA, pkB, pkC, i64_w, i32_w]
        rfl
      refine pure_ (i := 13) (N := some 60) (v := ?_) (a' := ?_) #[tt,tt,ff,tt,ff,tt,ff,ff,tt,tt,ff,tt,ff,tt,ff,ff,ff,ff,ff] rfl rfl (by kernel_rfl) (fun _ _ _ h => h) (Or.inl ⟨by rfl, ?_⟩) ?_ ?_
      rotate_left
      · intro w'
        go_simp
        with_reducible rfl
      rotate_left
      · simp only [Act.put, pkA, pkB, pkC, i64_w, i32_w]
        rfl
      refine take_ (i := 2) (N := some 49) (v := ?_) (a' := ?_) #[tt,tt,tt,tt,ff,tt,ff,ff,tt,tt,ff,tt,ff,tt,ff,ff,ff,ff,ff] rfl rfl (by kernel_rfl) (fun _ _ _ h => h) (Or.inl ⟨by rfl, ?_⟩) hHeld ?_ ?_
      rotate_left
      · rintro w' ⟨s0, s1, s2, s3⟩
        go_simp
        with_reducible rfl
      rotate_left
      · simp only [Act.put, pkA, pkB, pkC, i64_w, i32_w]
        rfl
      refine take_ (i := 4) (N := some 51) (v := ?_) (a' := ?_) #[tt,tt,tt,tt,tt,tt,ff,ff,tt,tt,ff,tt,ff,tt,ff,ff,ff,ff,ff] rfl rfl (by kernel_rfl) (fun _ _ _ h => h) (Or.inl ⟨by rfl, ?_⟩) hHeld ?_ ?_
      rotate_left
      · rintro w' ⟨s0, s1, s2, s3⟩
        go_simp
        with_reducible rfl
      rotate_left
      · simp only [Act.put, pkA, pkB, pkC, i64_w, i32_w]
        rfl
      refine take_ (i := 10) (N := some 57) (v := ?_) (a' := ?_) #[tt,tt,tt,tt,tt,tt,ff,ff,tt,tt,tt,tt,ff,tt,ff,ff,ff,ff,ff] rfl rfl (by kernel_rfl) (fun _ _ _ h => h) (Or.inl ⟨by rfl, ?_⟩) hHeld ?_ ?_
      rotate_left
      · rintro w' ⟨s0, s1, s2, s3⟩
        go_simp
        with_reducible rfl
      rotate_left
      · simp only [Act.put, pkA, pkB, pkC, i64_w, i32_w]
        rfl
      refine take_ (i := 12) (N := some 59) (v := ?_) (a' := ?_) #[tt,tt,tt,tt,tt,tt,ff,ff,tt,tt,tt,tt,tt,tt,ff,ff,ff,ff,ff] rfl rfl (by kernel_rfl) (fun _ _ _ h => h) (Or.inl ⟨by rfl, ?_⟩) hHeld ?_ ?_
      rotate_left
      · rintro w' ⟨s0, s1, s2, s3⟩
        go_simp
        with_reducible rfl
      rotate_left
      · simp only [Act.put, pkA, pkB, pkC, i64_w, i32_w]
        rfl
      refine take_ (i := 14) (N := some 61) (v := ?_) (a' := ?_) #[tt,tt,tt,tt,tt,tt,ff,ff,tt,tt,tt,tt,tt,tt,tt,ff,ff,ff,ff] rfl rfl (by kernel_rfl) (fun _ _ _ h => h) (Or.inl ⟨by rfl, ?_⟩) hHeld ?_ ?_
      rotate_left
      · rintro w' ⟨s0, s1, s2, s3⟩
        go_simp
        with_reducible rfl
      rotate_left
      · simp only [Act.put, pkA, pkB, pkC, i64_w, i32_w]
        rfl
      refine take_ (i := 15) (N := some 62) (v := ?_) (a' := ?_) #[tt,tt,tt,tt,tt,tt,ff,ff,tt,tt,tt,tt,tt,tt,tt,tt,ff,ff,ff] rfl rfl (by kernel_rfl) (fun _ _ _ h => h) (Or.inl ⟨by rfl, ?_⟩) hHeld ?_ ?_
      rotate_left
      · rintro w' ⟨s0, s1, s2, s3⟩
        go_simp
        with_reducible rfl
      rotate_left
      · simp only [Act.put, pkA, pkB, pkC, i64_w, i32_w]
        rfl
      refine one_ (i := 6) (N := some 53) #[tt,tt,tt,tt,tt,tt,tt,ff,tt,tt,tt,tt,tt,tt,tt,tt,ff,ff,ff] rfl rfl (by kernel_rfl) (by decide) (fun K hK => ?_)
      refine goes_ Tryz.func40 (by kernel_rfl) rfl #[.pointer (some ⟨d, 0, none⟩), .string o.f2, .int .i64 o.f1, .slice (some ⟨q, 0, none⟩) o.f4.length c] (by rfl) rfl rfl (by simp only [List.map_toArray, List.map_cons, List.map_nil]; rfl) ?_
      with_reducible refine (write_calls (h := HD0.out) (hE := HF0.out.errs.disk) (hk := HOk.out) (hst := by have := HSt.out; omega) (s := o.f2) (hs := HS2.out) (n := o.f1) (A0 := some ⟨q, 0, none⟩) (c0 := c) (b := o.f4) (hC := HF0.out.head) (hc0 := HF0.out.cap) (hbl := HL4.out)).mono ?_
      rintro e u1 ⟨rfl, hd1, ht1⟩
      refine ⟨_, rfl, ?_⟩
      have HD1 := Aside0.mk hd1
      have HM1 := Aside0.mk (HM0.out.turnN ht1)
      have HF1 := Aside0.mk (HF0.out.turn ht1 (HF0.out.size HnW.out))
      clear hd1 ht1
      refine hK.out _ _ ⟨(HF1.out.cell 2 _ rfl), (HF1.out.cell 1 _ rfl), (HF1.out.cell 4 _ rfl), (HCv.out _ HF1.out.bel)⟩ (fun hHeld => ?_)
      clear hK K
      refine norm_ (a' := ?_) ?_ ?_
      rotate_left
      · show Act.put _ (some 53) _ = _
        simp only [Act.put, pkA, pkB, pkC, i64_w, i32_w]
        rfl
      refine one_ (i := 7) (N := some 54) #[tt,tt,tt,tt,tt,tt,tt,tt,tt,tt,tt,tt,tt,tt,tt,tt,ff,ff,ff] rfl rfl (by kernel_rfl) (by decide) (fun K hK => ?_)
      refine goes_ Tryz.func20 (by kernel_rfl) rfl #[errV E (writeD D o.f2 o.f1 o.f4).1] (by rfl) rfl rfl (by simp only [List.map_toArray, List.map_cons, List.map_nil]; rfl) ?_
      with_reducible refine (HNm.out _ HF1.out.errs).mono ?_
      rintro e u2 ⟨rfl, hb2⟩
      refine ⟨_, rfl, ?_⟩
      have HD2' := Aside0.mk (HD1.out.below hb2)
      have HM2' := Aside0.mk (HM1.out.keep hb2)
      have HF2' := Aside0.mk (HF1.out.below hb2 (HF1.out.size HnW.out))
      clear hb2
      refine hK.out _ _ ⟨(HF2'.out.cell 2 _ rfl), (HF2'.out.cell 1 _ rfl), (HF2'.out.cell 4 _ rfl), (HCv.out _ HF2'.out.bel)⟩ (fun hHeld => ?_)
      clear hK K
      refine norm_ (a' := ?_) ?_ ?_
      rotate_left
      · show Act.put _ (some 54) _ = _
        simp only [Act.put, pkA, pkB, pkC, i64_w, i32_w]
        rfl
      refine one_ (i := 16) (N := some 63) #[tt,tt,tt,tt,tt,tt,tt,tt,tt,tt,tt,tt,tt,tt,tt,tt,tt,ff,ff] rfl rfl (by kernel_rfl) (by decide) (fun K hK => ?_)
      refine goes_ Tryz.func39 (by kernel_rfl) rfl #[.pointer (some ⟨m, 0, none⟩), .string o.f2, .int .i64 2, .int .i64 o.f1, .string (strOfNums o.f4)] (by rfl) rfl rfl (by simp only [List.map_toArray, List.map_cons, List.map_nil]; rfl) ?_
      with_reducible refine (HMc.out _ HM2'.out).mono ?_
      rintro e u3 ⟨rfl, hm3, ht3⟩
      refine ⟨_, rfl, ?_⟩
      have HD3 := Aside0.mk (HD2'.out.rturnN ht3)
      have HM3 := Aside0.mk hm3
      have HF3 := Aside0.mk (HF2'.out.rturn ht3 (HF2'.out.size HnW.out))
      clear hm3 ht3
      refine hK.out _ _ ⟨(HF3.out.cell 2 _ rfl), (HF3.out.cell 1 _ rfl), (HF3.out.cell 4 _ rfl), (HCv.out _ HF3.out.bel)⟩ (fun hHeld => ?_)
      clear hK K
      refine norm_ (a' := ?_) ?_ ?_
      rotate_left
      · show Act.put _ (some 63) _ = _
        simp only [Act.put, pkA, pkB, pkC, i64_w, i32_w]
        rfl
      refine pure_ (i := 17) (N := some 64) (v := ?_) (a' := ?_) #[tt,tt,tt,tt,tt,tt,tt,tt,tt,tt,tt,tt,tt,tt,tt,tt,tt,tt,ff] rfl rfl (by kernel_rfl) (fun _ _ _ h => h) (Or.inl ⟨by rfl, ?_⟩) ?_ ?_
      rotate_left
      · intro w'
        go_simp
        with_reducible rfl
      rotate_left
      · simp only [Act.put, pkA, pkB, pkC, i64_w, i32_w]
        rfl
      refine pure_ (i := 18) (N := some 8) (v := ?_) (a' := ?_) #[tt,tt,tt,tt,tt,tt,tt,tt,tt,tt,tt,tt,tt,tt,tt,tt,tt,tt,tt] rfl rfl (by kernel_rfl) (fun _ _ _ h => h) (Or.inl ⟨by rfl, ?_⟩) ?_ ?_
      rotate_left
      · intro w'
        go_simp
        with_reducible rfl
      rotate_left
      · simp only [Act.put, pkA, pkB, pkC, i64_w, i32_w]
        rfl
      refine done_ (by kernel_rfl) ?_
      go_wp2
      go_meet
      exact ⟨rfl, G2, by rw [HAct.out]; exact HP2.out, ⟨by rw [HAct.out]; exact HD3.out⟩, ⟨by rw [HAct.out]; exact HM3.out⟩, HF3⟩
    have e3 : (kd == 3) = false := by simpa using k3
    by_cases k4 : kd = 4
    · subst k4
      have HAct := Aside0.mk (show actD o D = (truncD D o.f2 o.f1).2 by unfold actD; rw [← HKd.out]; rfl)
      obtain ⟨G2, hp1, hp2⟩ := par_trunc HOk.out HRl.out o.f2 o.f1
      have hp1 : truncD (withF D G) o.f2 o.f1 = ((truncD D o.f2 o.f1).1, withF (truncD D o.f2 o.f1).2 G2) := hp1
      have HMc := Aside0.mk (fun (U : World) (hu : RDiskAt n U m (withF D G)) => (show Calls _ _ _ _ (fun e w' => e = .returned (.int .i64 (numE (chgD (withF D G) o.f2 false true o.f1 []).1)) ∧ RDiskAt n w' m (chgD (withF D G) o.f2 false true o.f1 []).2 ∧ RTurn n U w') from rchange_calls (B := n) (p := m) (D := withF D G) (w := U) o.f2 HS2.out 3 o.f1 false true rfl rfl [] (by decide) hu HOG.out (by have := HSt.out; show D.steps ≤ 999999999; omega) HRi.out))
      simp only [chg_trunc, hp1] at HMc
      have HP2 := Aside0.mk hp2
      have HNm := Aside0.mk (fun (U : World) (hu : AllAt n U E) => num_calls (truncD D o.f2 o.f1).1 (numE (truncD D o.f2 o.f1).1) E U hu.errs (numF_of (es_trunc D o.f2 o.f1)))
      clear hp1 hp2
      go_upto_region 11 with (fail)
      refine start_ (n := 15) (S := fun w' => w'.cell? ⟨ob, 2, none⟩ = some (.string o.f2) ∧ w'.cell? ⟨ob, 1, none⟩ = some (.int .i64 o.f1)) (ds := []) #[ff,ff,ff,ff,ff,ff,ff,ff,ff,ff,ff,ff,ff,ff,ff] (by kernel_rfl) rfl rfl ⟨(HFd.out.cell 2 _ rfl), (HFd.out.cell 1 _ rfl)⟩ (fun hHeld => ?_)
      have HD0 := Aside0.mk (show DiskAt ⟨n, q⟩ w2.drew d D from HD2.out.below (Below.refl _ _).drew)
      have HM0 := Aside0.mk (HM2.out.keep (Below.refl _ w2).drew)
      have HF0 := Aside0.mk (HF2.out.below (Below.refl _ w2).drew (HF2.out.size HnW.out))
      generalize w2.drew = u0 at HD0 HM0 HF0 hHeld ⊢
      refine pure_ (i := 0) (N := some 67) (v := ?_) (a' := ?_) #[tt,ff,ff,ff,ff,ff,ff,ff,ff,ff,ff,ff,ff,ff,ff] rfl rfl (by kernel_rfl) (fun _ _ _ h => h) (Or.inl ⟨by rfl, ?_⟩) ?_ ?_
      rotate_left
      · intro w'
        go_simp
        with_reducible rfl
      rotate_left
      · simp only [Act.put, pkA, pkB, pkC, i64_w, i32_w]
        rfl
      refine pure_ (i := 1) (N := some 68) (v := ?_) (a' := ?_) #[tt,tt,ff,ff,ff,ff,ff,ff,ff,ff,ff,ff,ff,ff,ff] rfl rfl (by kernel_rfl) (fun _ _ _ h => h) (Or.inl ⟨by rfl, ?_⟩) ?_ ?_
      rotate_left
      · intro w'
        go_simp
        with_reducible rfl
      rotate_left
      · simp only [Act.put, pkA, pkB, pkC, i64_w, i32_w]
        rfl
      refine pure_ (i := 3) (N := some 70) (v := ?_) (a' := ?_) #[tt,tt,ff,tt,ff,ff,ff,ff,ff,ff,ff,ff,ff,ff,ff] rfl rfl (by kernel_rfl) (fun _ _ _ h => h) (Or.inl ⟨by rfl, ?_⟩) ?_ ?_
      rotate_left
      · intro w'
        go_simp
        with_reducible rfl
      rotate_left
      · simp only [Act.put, pkA, pkB, pkC, i64_w, i32_w]
        rfl
      refine pure_ (i := 7) (N := some 74) (v := ?_) (a' := ?_) #[tt,tt,ff,tt,ff,ff,ff,tt,ff,ff,ff,ff,ff,ff,ff] rfl rfl (by kernel_rfl) (fun _ _ _ h => h) (Or.inl ⟨by rfl, ?_⟩) ?_ ?_
      rotate_left
      · intro w'
        go_simp
        with_reducible rfl
      rotate_left
      · simp only [Act.put, pkA, pkB, pkC, i64_w, i32_w]
        rfl
      refine pure_ (i := 8) (N := some 75) (v := ?_) (a' := ?_) #[tt,tt,ff,tt,ff,ff,ff,tt,tt,ff,ff,ff,ff,ff,ff] rfl rfl (by kernel_rfl) (fun _ _ _ h => h) (Or.inl ⟨by rfl, ?_⟩) ?_ ?_
      rotate_left
      · intro w'
        go_simp
        with_reducible rfl
      rotate_left
      · simp only [Act.put, pkA, pkB, pkC, i64_w, i32_w]
        rfl
      refine pure_ (i := 10) (N := some 77) (v := ?_) (a' := ?_) #[tt,tt,ff,tt,ff,ff,ff,tt,tt,ff,tt,ff,ff,ff,ff] rfl rfl (by kernel_rfl) (fun _ _ _ h => h) (Or.inl ⟨by rfl, ?_⟩) ?_ ?_
      rotate_left
      · intro w'
        go_simp
        with_reducible rfl
      rotate_left
      · simp only [Act.put, pkA, pkB, pkC, i64_w, i32_w]
        rfl
      refine take_ (i := 2) (N := some 69) (v := ?_) (a' := ?_) #[tt,tt,tt,tt,ff,ff,ff,tt,tt,ff,tt,ff,ff,ff,ff] rfl rfl (by kernel_rfl) (fun _ _ _ h => h) (Or.inl ⟨by rfl, ?_⟩) hHeld ?_ ?_
      rotate_left
      · rintro w' ⟨s0, s1⟩
        go_simp
        with_reducible rfl
      rotate_left
      · simp only [Act.put, pkA, pkB, pkC, i64_w, i32_w]
        rfl
      refine take_ (i := 4) (N := some 71) (v := ?_) (a' := ?_) #[tt,tt,tt,tt,tt,ff,ff,tt,tt,ff,tt,ff,ff,ff,ff] rfl rfl (by kernel_rfl) (fun _ _ _ h => h) (Or.inl ⟨by rfl, ?_⟩) hHeld ?_ ?_
      rotate_left
      · rintro w' ⟨s0, s1⟩
        go_simp
        with_reducible rfl
      rotate_left
      · simp only [Act.put, pkA, pkB, pkC, i64_w, i32_w]
        rfl
      refine take_ (i := 9) (N := some 76) (v := ?_) (a' := ?_) #[tt,tt,tt,tt,tt,ff,ff,tt,tt,tt,tt,ff,ff,ff,ff] rfl rfl (by kernel_rfl) (fun _ _ _ h => h) (Or.inl ⟨by rfl, ?_⟩) hHeld ?_ ?_
      rotate_left
      · rintro w' ⟨s0, s1⟩
        go_simp
        with_reducible rfl
      rotate_left
      · simp only [Act.put, pkA, pkB, pkC, i64_w, i32_w]
        rfl
      refine take_ (i := 11) (N := some 78) (v := ?_) (a' := ?_) #[tt,tt,tt,tt,tt,ff,ff,tt,tt,tt,tt,tt,ff,ff,ff] rfl rfl (by kernel_rfl) (fun _ _ _ h => h) (Or.inl ⟨by rfl, ?_⟩) hHeld ?_ ?_
      rotate_left
      · rintro w' ⟨s0, s1⟩
        go_simp
        with_reducible rfl
      rotate_left
      · simp only [Act.put, pkA, pkB, pkC, i64_w, i32_w]
        rfl
      refine one_ (i := 5) (N := some 72) #[tt,tt,tt,tt,tt,tt,ff,tt,tt,tt,tt,tt,ff,ff,ff] rfl rfl (by kernel_rfl) (by decide) (fun K hK => ?_)
      refine goes_ Tryz.func41 (by kernel_rfl) rfl #[.pointer (some ⟨d, 0, none⟩), .string o.f2, .int .i64 o.f1] (by rfl) rfl rfl (by simp only [List.map_toArray, List.map_cons, List.map_nil]; rfl) ?_
      with_reducible refine (trunc_calls (h := HD0.out) (hE := HF0.out.errs.disk) (hk := HOk.out) (hst := by have := HSt.out; omega) (s := o.f2) (hs := HS2.out) (n := o.f1)).mono ?_
      rintro e u1 ⟨rfl, hd1, ht1⟩
      refine ⟨_, rfl, ?_⟩
      have HD1 := Aside0.mk hd1
      have HM1 := Aside0.mk (HM0.out.turnN ht1)
      have HF1 := Aside0.mk (HF0.out.turn ht1 (HF0.out.size HnW.out))
      clear hd1 ht1
      refine hK.out _ _ ⟨(HF1.out.cell 2 _ rfl), (HF1.out.cell 1 _ rfl)⟩ (fun hHeld => ?_)
      clear hK K
      refine norm_ (a' := ?_) ?_ ?_
      rotate_left
      · show Act.put _ (some 72) _ = _
        simp only [Act.put, pkA, pkB, pkC, i64_w, i32_w]
        rfl
      refine one_ (i := 6) (N := some 73) #[tt,tt,tt,tt,tt,tt,tt,tt,tt,tt,tt,tt,ff,ff,ff] rfl rfl (by kernel_rfl) (by decide) (fun K hK => ?_)
      refine goes_ Tryz.func20 (by kernel_rfl) rfl #[errV E (truncD D o.f2 o.f1).1] (by rfl) rfl rfl (by simp only [List.map_toArray, List.map_cons, List.map_nil]; rfl) ?_
      with_reducible refine (HNm.out _ HF1.out.errs).mono ?_
      rintro e u2 ⟨rfl, hb2⟩
      refine ⟨_, rfl, ?_⟩
      have HD2' := Aside0.mk (HD1.out.below hb2)
      have HM2' := Aside0.mk (HM1.out.keep hb2)
      have HF2' := Aside0.mk (HF1.out.below hb2 (HF1.out.size HnW.out))
      clear hb2
      refine hK.out _ _ ⟨(HF2'.out.cell 2 _ rfl), (HF2'.out.cell 1 _ rfl)⟩ (fun hHeld => ?_)
      clear hK K
      refine norm_ (a' := ?_) ?_ ?_
      rotate_left
      · show Act.put _ (some 73) _ = _
        simp only [Act.put, pkA, pkB, pkC, i64_w, i32_w]
        rfl
      refine one_ (i := 12) (N := some 79) #[tt,tt,tt,tt,tt,tt,tt,tt,tt,tt,tt,tt,tt,ff,ff] rfl rfl (by kernel_rfl) (by decide) (fun K hK => ?_)
      refine goes_ Tryz.func39 (by kernel_rfl) rfl #[.pointer (some ⟨m, 0, none⟩), .string o.f2, .int .i64 3, .int .i64 o.f1, .string (strOfNums [])] (by rfl) rfl rfl (by simp only [List.map_toArray, List.map_cons, List.map_nil]; rfl) ?_
      with_reducible refine (HMc.out _ HM2'.out).mono ?_
      rintro e u3 ⟨rfl, hm3, ht3⟩
      refine ⟨_, rfl, ?_⟩
      have HD3 := Aside0.mk (HD2'.out.rturnN ht3)
      have HM3 := Aside0.mk hm3
      have HF3 := Aside0.mk (HF2'.out.rturn ht3 (HF2'.out.size HnW.out))
      clear hm3 ht3
      refine hK.out _ _ ⟨(HF3.out.cell 2 _ rfl), (HF3.out.cell 1 _ rfl)⟩ (fun hHeld => ?_)
      clear hK K
      refine norm_ (a' := ?_) ?_ ?_
      rotate_left
      · show Act.put _ (some 79) _ = _
        simp only [Act.put, pkA, pkB, pkC, i64_w, i32_w]
        rfl
      refine pure_ (i := 13) (N := some 80) (v := ?_) (a' := ?_) #[tt,tt,tt,tt,tt,tt,tt,tt,tt,tt,tt,tt,tt,tt,ff] rfl rfl (by kernel_rfl) (fun _ _ _ h => h) (Or.inl ⟨by rfl, ?_⟩) ?_ ?_
      rotate_left
      · intro w'
        go_simp
        with_reducible rfl
      rotate_left
      · simp only [Act.put, pkA, pkB, pkC, i64_w, i32_w]
        rfl
      refine pure_ (i := 14) (N := some 8) (v := ?_) (a' := ?_) #[tt,tt,tt,tt,tt,tt,tt,tt,tt,tt,tt,tt,tt,tt,tt] rfl rfl (by kernel_rfl) (fun _ _ _ h => h) (Or.inl ⟨by rfl, ?_⟩) ?_ ?_
      rotate_left
      · intro w'
        go_simp
        with_reducible rfl
      rotate_left
      · simp only [Act.put, pkA, pkB, pkC, i64_w, i32_w]
        rfl
      refine done_ (by kernel_rfl) ?_
      go_wp2
      go_meet
      exact ⟨rfl, G2, by rw [HAct.out]; exact HP2.out, ⟨by rw [HAct.out]; exact HD3.out⟩, ⟨by rw [HAct.out]; exact HM3.out⟩, HF3⟩
    have e4 : (kd == 4) = false := by simpa using k4
    by_cases k5 : kd = 5
    · subst k5
      have HAct := Aside0.mk (show actD o D = (renameD D o.f2 o.f3).2 by unfold actD; rw [← HKd.out]; rfl)
      obtain ⟨G2, hp1, hp2⟩ := par_rename HOk.out HRl.out o.f2 o.f3
      have hp1 : renameD (withF D G) o.f2 o.f3 = ((renameD D o.f2 o.f3).1, withF (renameD D o.f2 o.f3).2 G2) := hp1
      have HMc := Aside0.mk (fun (U : World) (hu : RDiskAt n U m (withF D G)) => rrename_calls (B := n) (p := m) (D := withF D G) (w := U) o.f2 o.f3 HS2.out HS3.out hu HOG.out (by have := HSt.out; show D.steps ≤ 1000000000; omega) HRi.out)
      rw [hp1] at HMc
      have HP2 := Aside0.mk hp2
      have HNm := Aside0.mk (fun (U : World) (hu : AllAt n U E) => num_calls (renameD D o.f2 o.f3).1 (numE (renameD D o.f2 o.f3).1) E U hu.errs (numF_of (es_rename D o.f2 o.f3)))
      clear hp1 hp2
      go_upto_region 13 with (fail)
      refine start_ (n := 15) (S := fun w' => w'.cell? ⟨ob, 2, none⟩ = some (.string o.f2) ∧ w'.cell? ⟨ob, 3, none⟩ = some (.string o.f3)) (ds := []) #[ff,ff,ff,ff,ff,ff,ff,ff,ff,ff,ff,ff,ff,ff,ff] (by kernel_rfl) rfl rfl ⟨(HFd.out.cell 2 _ rfl), (HFd.out.cell 3 _ rfl)⟩ (fun hHeld => ?_)
      have HD0 := Aside0.mk (show DiskAt ⟨n, q⟩ w2.drew d D from HD2.out.below (Below.refl _ _).drew)
      have HM0 := Aside0.mk (HM2.out.keep (Below.refl _ w2).drew)
      have HF0 := Aside0.mk (HF2.out.below (Below.refl _ w2).drew (HF2.out.size HnW.out))
      generalize w2.drew = u0 at HD0 HM0 HF0 hHeld ⊢
      refine pure_ (i := 0) (N := some 83) (v := ?_) (a' := ?_) #[tt,ff,ff,ff,ff,ff,ff,ff,ff,ff,ff,ff,ff,ff,ff] rfl rfl (by kernel_rfl) (fun _ _ _ h => h) (Or.inl ⟨by rfl, ?_⟩) ?_ ?_
      rotate_left
      · intro w'
        go_simp
        with_reducible rfl
      rotate_left
      · simp only [Act.put, pkA, pkB, pkC, i64_w, i32_w]
        rfl
      refine pure_ (i := 1) (N := some 84) (v := ?_) (a' := ?_) #[tt,tt,ff,ff,ff,ff,ff,ff,ff,ff,ff,ff,ff,ff,ff] rfl rfl (by kernel_rfl) (fun _ _ _ h => h) (Or.inl ⟨by rfl, ?_⟩) ?_ ?_
      rotate_left
      · intro w'
        go_simp
        with_reducible rfl
      rotate_left
      · simp only [Act.put, pkA, pkB, pkC, i64_w, i32_w]
        rfl
      refine pure_ (i := 3) (N := some 86) (v := ?_) (a' := ?_) #[tt,tt,ff,tt,ff,ff,ff,ff,ff,ff,ff,ff,ff,ff,ff] rfl rfl (by kernel_rfl) (fun _ _ _ h => h) (Or.inl ⟨by rfl, ?_⟩) ?_ ?_
      rotate_left
      · intro w'
        go_simp
        with_reducible rfl
      rotate_left
      · simp only [Act.put, pkA, pkB, pkC, i64_w, i32_w]
        rfl
      refine pure_ (i := 7) (N := some 90) (v := ?_) (a' := ?_) #[tt,tt,ff,tt,ff,ff,ff,tt,ff,ff,ff,ff,ff,ff,ff] rfl rfl (by kernel_rfl) (fun _ _ _ h => h) (Or.inl ⟨by rfl, ?_⟩) ?_ ?_
      rotate_left
      · intro w'
        go_simp
        with_reducible rfl
      rotate_left
      · simp only [Act.put, pkA, pkB, pkC, i64_w, i32_w]
        rfl
      refine pure_ (i := 8) (N := some 91) (v := ?_) (a' := ?_) #[tt,tt,ff,tt,ff,ff,ff,tt,tt,ff,ff,ff,ff,ff,ff] rfl rfl (by kernel_rfl) (fun _ _ _ h => h) (Or.inl ⟨by rfl, ?_⟩) ?_ ?_
      rotate_left
      · intro w'
        go_simp
        with_reducible rfl
      rotate_left
      · simp only [Act.put, pkA, pkB, pkC, i64_w, i32_w]
        rfl
      refine pure_ (i := 10) (N := some 93) (v := ?_) (a' := ?_) #[tt,tt,ff,tt,ff,ff,ff,tt,tt,ff,tt,ff,ff,ff,ff] rfl rfl (by kernel_rfl) (fun _ _ _ h => h) (Or.inl ⟨by rfl, ?_⟩) ?_ ?_
      rotate_left
      · intro w'
        go_simp
        with_reducible rfl
      rotate_left
      · simp only [Act.put, pkA, pkB, pkC, i64_w, i32_w]
        rfl
      refine take_ (i := 2) (N := some 85) (v := ?_) (a' := ?_) #[tt,tt,tt,tt,ff,ff,ff,tt,tt,ff,tt,ff,ff,ff,ff] rfl rfl (by kernel_rfl) (fun _ _ _ h => h) (Or.inl ⟨by rfl, ?_⟩) hHeld ?_ ?_
      rotate_left
      · rintro w' ⟨s0, s1⟩
        go_simp
        with_reducible rfl
      rotate_left
      · simp only [Act.put, pkA, pkB, pkC, i64_w, i32_w]
        rfl
      refine take_ (i := 4) (N := some 87) (v := ?_) (a' := ?_) #[tt,tt,tt,tt,tt,ff,ff,tt,tt,ff,tt,ff,ff,ff,ff] rfl rfl (by kernel_rfl) (fun _ _ _ h => h) (Or.inl ⟨by rfl, ?_⟩) hHeld ?_ ?_
      rotate_left
      · rintro w' ⟨s0, s1⟩
        go_simp
        with_reducible rfl
      rotate_left
      · simp only [Act.put, pkA, pkB, pkC, i64_w, i32_w]
        rfl
      refine take_ (i := 9) (N := some 92) (v := ?_) (a' := ?_) #[tt,tt,tt,tt,tt,ff,ff,tt,tt,tt,tt,ff,ff,ff,ff] rfl rfl (by kernel_rfl) (fun _ _ _ h => h) (Or.inl ⟨by rfl, ?_⟩) hHeld ?_ ?_
      rotate_left
      · rintro w' ⟨s0, s1⟩
        go_simp
        with_reducible rfl
      rotate_left
      · simp only [Act.put, pkA, pkB, pkC, i64_w, i32_w]
        rfl
      refine take_ (i := 11) (N := some 94) (v := ?_) (a' := ?_) #[tt,tt,tt,tt,tt,ff,ff,tt,tt,tt,tt,tt,ff,ff,ff] rfl rfl (by kernel_rfl) (fun _ _ _ h => h) (Or.inl ⟨by rfl, ?_⟩) hHeld ?_ ?_
      rotate_left
      · rintro w' ⟨s0, s1⟩
        go_simp
        with_reducible rfl
      rotate_left
      · simp only [Act.put, pkA, pkB, pkC, i64_w, i32_w]
        rfl
      refine one_ (i := 5) (N := some 88) #[tt,tt,tt,tt,tt,tt,ff,tt,tt,tt,tt,tt,ff,ff,ff] rfl rfl (by kernel_rfl) (by decide) (fun K hK => ?_)
      refine goes_ Tryz.func42 (by kernel_rfl) rfl #[.pointer (some ⟨d, 0, none⟩), .string o.f2, .string o.f3] (by rfl) rfl rfl (by simp only [List.map_toArray, List.map_cons, List.map_nil]; rfl) ?_
      with_reducible refine (rename_calls (h := HD0.out) (hE := HF0.out.errs.disk) (hk := HOk.out) (hst := by have := HSt.out; omega) (a := o.f2) (b := o.f3) (ha := HS2.out) (hb := HS3.out)).mono ?_
      rintro e u1 ⟨rfl, hd1, ht1⟩
      refine ⟨_, rfl, ?_⟩
      have HD1 := Aside0.mk hd1
      have HM1 := Aside0.mk (HM0.out.turnN ht1)
      have HF1 := Aside0.mk (HF0.out.turn ht1 (HF0.out.size HnW.out))
      clear hd1 ht1
      refine hK.out _ _ ⟨(HF1.out.cell 2 _ rfl), (HF1.out.cell 3 _ rfl)⟩ (fun hHeld => ?_)
      clear hK K
      refine norm_ (a' := ?_) ?_ ?_
      rotate_left
      · show Act.put _ (some 88) _ = _
        simp only [Act.put, pkA, pkB, pkC, i64_w, i32_w]
        rfl
      refine one_ (i := 6) (N := some 89) #[tt,tt,tt,tt,tt,tt,tt,tt,tt,tt,tt,tt,ff,ff,ff] rfl rfl (by kernel_rfl) (by decide) (fun K hK => ?_)
      refine goes_ Tryz.func20 (by kernel_rfl) rfl #[errV E (renameD D o.f2 o.f3).1] (by rfl) rfl rfl (by simp only [List.map_toArray, List.map_cons, List.map_nil]; rfl) ?_
      with_reducible refine (HNm.out _ HF1.out.errs).mono ?_
      rintro e u2 ⟨rfl, hb2⟩
      refine ⟨_, rfl, ?_⟩
      have HD2' := Aside0.mk (HD1.out.below hb2)
      have HM2' := Aside0.mk (HM1.out.keep hb2)
      have HF2' := Aside0.mk (HF1.out.below hb2 (HF1.out.size HnW.out))
      clear hb2
      refine hK.out _ _ ⟨(HF2'.out.cell 2 _ rfl), (HF2'.out.cell 3 _ rfl)⟩ (fun hHeld => ?_)
      clear hK K
      refine norm_ (a' := ?_) ?_ ?_
      rotate_left
      · show Act.put _ (some 89) _ = _
        simp only [Act.put, pkA, pkB, pkC, i64_w, i32_w]
        rfl
      refine one_ (i := 12) (N := some 95) #[tt,tt,tt,tt,tt,tt,tt,tt,tt,tt,tt,tt,tt,ff,ff] rfl rfl (by kernel_rfl) (by decide) (fun K hK => ?_)
      refine goes_ Tryz.func43 (by kernel_rfl) rfl #[.pointer (some ⟨m, 0, none⟩), .string o.f2, .string o.f3] (by rfl) rfl rfl (by simp only [List.map_toArray, List.map_cons, List.map_nil]; rfl) ?_
      with_reducible refine (HMc.out _ HM2'.out).mono ?_
      rintro e u3 ⟨rfl, hm3, ht3⟩
      refine ⟨_, rfl, ?_⟩
      have HD3 := Aside0.mk (HD2'.out.rturnN ht3)
      have HM3 := Aside0.mk hm3
      have HF3 := Aside0.mk (HF2'.out.rturn ht3 (HF2'.out.size HnW.out))
      clear hm3 ht3
      refine hK.out _ _ ⟨(HF3.out.cell 2 _ rfl), (HF3.out.cell 3 _ rfl)⟩ (fun hHeld => ?_)
      clear hK K
      refine norm_ (a' := ?_) ?_ ?_
      rotate_left
      · show Act.put _ (some 95) _ = _
        simp only [Act.put, pkA, pkB, pkC, i64_w, i32_w]
        rfl
      refine pure_ (i := 13) (N := some 96) (v := ?_) (a' := ?_) #[tt,tt,tt,tt,tt,tt,tt,tt,tt,tt,tt,tt,tt,tt,ff] rfl rfl (by kernel_rfl) (fun _ _ _ h => h) (Or.inl ⟨by rfl, ?_⟩) ?_ ?_
      rotate_left
      · intro w'
        go_simp
        with_reducible rfl
      rotate_left
      · simp only [Act.put, pkA, pkB, pkC, i64_w, i32_w]
        rfl
      refine pure_ (i := 14) (N := some 8) (v := ?_) (a' := ?_) #[tt,tt,tt,tt,tt,tt,tt,tt,tt,tt,tt,tt,tt,tt,tt] rfl rfl (by kernel_rfl) (fun _ _ _ h => h) (Or.inl ⟨by rfl, ?_⟩) ?_ ?_
      rotate_left
      · intro w'
        go_simp
        with_reducible rfl
      rotate_left
      · simp only [Act.put, pkA, pkB, pkC, i64_w, i32_w]
        rfl
      refine done_ (by kernel_rfl) ?_
      go_wp2
      go_meet
      exact ⟨rfl, G2, by rw [HAct.out]; exact HP2.out, ⟨by rw [HAct.out]; exact HD3.out⟩, ⟨by rw [HAct.out]; exact HM3.out⟩, HF3⟩
    have e5 : (kd == 5) = false := by simpa using k5
    by_cases k6 : kd = 6
    · subst k6
      have HAct := Aside0.mk (show actD o D = (removeD D o.f2).2 by unfold actD; rw [← HKd.out]; rfl)
      obtain ⟨G2, hp1, hp2⟩ := par_remove HOk.out HRl.out o.f2
      have hp1 : removeD (withF D G) o.f2 = ((removeD D o.f2).1, withF (removeD D o.f2).2 G2) := hp1
      have HMc := Aside0.mk (fun (U : World) (hu : RDiskAt n U m (withF D G)) => rremove_calls (B := n) (p := m) (D := withF D G) (w := U) o.f2 HS2.out hu HOG.out (by have := HSt.out; show D.steps ≤ 1000000000; omega) HRi.out)
      rw [hp1] at HMc
      have HP2 := Aside0.mk hp2
      have HNm := Aside0.mk (fun (U : World) (hu : AllAt n U E) => num_calls (removeD D o.f2).1 (numE (removeD D o.f2).1) E U hu.errs (numF_of (es_remove D o.f2)))
      clear hp1 hp2
      go_upto_region 15 with (fail)
      refine start_ (n := 11) (S := fun w' => w'.cell? ⟨ob, 2, none⟩ = some (.string o.f2)) (ds := []) #[ff,ff,ff,ff,ff,ff,ff,ff,ff,ff,ff] (by kernel_rfl) rfl rfl ((HFd.out.cell 2 _ rfl)) (fun hHeld => ?_)
      have HD0 := Aside0.mk (show DiskAt ⟨n, q⟩ w2.drew d D from HD2.out.below (Below.refl _ _).drew)
      have HM0 := Aside0.mk (HM2.out.keep (Below.refl _ w2).drew)
      have HF0 := Aside0.mk (HF2.out.below (Below.refl _ w2).drew (HF2.out.size HnW.out))
      generalize w2.drew = u0 at HD0 HM0 HF0 hHeld ⊢
      refine pure_ (i := 0) (N := some 99) (v := ?_) (a' := ?_) #[tt,ff,ff,ff,ff,ff,ff,ff,ff,ff,ff] rfl rfl (by kernel_rfl) (fun _ _ _ h => h) (Or.inl ⟨by rfl, ?_⟩) ?_ ?_
      rotate_left
      · intro w'
        go_simp
        with_reducible rfl
      rotate_left
      · simp only [Act.put, pkA, pkB, pkC, i64_w, i32_w]
        rfl
      refine pure_ (i := 1) (N := some 100) (v := ?_) (a' := ?_) #[tt,tt,ff,ff,ff,ff,ff,ff,ff,ff,ff] rfl rfl (by kernel_rfl) (fun _ _ _ h => h) (Or.inl ⟨by rfl, ?_⟩) ?_ ?_
      rotate_left
      · intro w'
        go_simp
        with_reducible rfl
      rotate_left
      · simp only [Act.put, pkA, pkB, pkC, i64_w, i32_w]
        rfl
      refine pure_ (i := 5) (N := some 104) (v := ?_) (a' := ?_) #[tt,tt,ff,ff,ff,tt,ff,ff,ff,ff,ff] rfl rfl (by kernel_rfl) (fun _ _ _ h => h) (Or.inl ⟨by rfl, ?_⟩) ?_ ?_
      rotate_left
      · intro w'
        go_simp
        with_reducible rfl
      rotate_left
      · simp only [Act.put, pkA, pkB, pkC, i64_w, i32_w]
        rfl
      refine pure_ (i := 6) (N := some 105) (v := ?_) (a' := ?_) #[tt,tt,ff,ff,ff,tt,tt,ff,ff,ff,ff] rfl rfl (by kernel_rfl) (fun _ _ _ h => h) (Or.inl ⟨by rfl, ?_⟩) ?_ ?_
      rotate_left
      · intro w'
        go_simp
        with_reducible rfl
      rotate_left
      · simp only [Act.put, pkA, pkB, pkC, i64_w, i32_w]
        rfl
      refine take_ (i := 2) (N := some 101) (v := ?_) (a' := ?_) #[tt,tt,tt,ff,ff,tt,tt,ff,ff,ff,ff] rfl rfl (by kernel_rfl) (fun _ _ _ h => h) (Or.inl ⟨by rfl, ?_⟩) hHeld ?_ ?_
      rotate_left
      · intro w' s0
        go_simp
        with_reducible rfl
      rotate_left
      · simp only [Act.put, pkA, pkB, pkC, i64_w, i32_w]
        rfl
      refine take_ (i := 7) (N := some 106) (v := ?_) (a' := ?_) #[tt,tt,tt,ff,ff,tt,tt,tt,ff,ff,ff] rfl rfl (by kernel_rfl) (fun _ _ _ h => h) (Or.inl ⟨by rfl, ?_⟩) hHeld ?_ ?_
      rotate_left
      · intro w' s0
        go_simp
        with_reducible rfl
      rotate_left
      · simp only [Act.put, pkA, pkB, pkC, i64_w, i32_w]
        rfl
      refine one_ (i := 3) (N := some 102) #[tt,tt,tt,tt,ff,tt,tt,tt,ff,ff,ff] rfl rfl (by kernel_rfl) (by decide) (fun K hK => ?_)
      refine goes_ Tryz.func44 (by kernel_rfl) rfl #[.pointer (some ⟨d, 0, none⟩), .string o.f2] (by rfl) rfl rfl (by simp only [List.map_toArray, List.map_cons, List.map_nil]; rfl) ?_
      with_reducible refine (remove_calls (h := HD0.out) (hE := HF0.out.errs.disk) (hk := HOk.out) (hst := by have := HSt.out; omega) (s := o.f2) (hs := HS2.out)).mono ?_
      rintro e u1 ⟨rfl, hd1, ht1⟩
      refine ⟨_, rfl, ?_⟩
      have HD1 := Aside0.mk hd1
      have HM1 := Aside0.mk (HM0.out.turnN ht1)
      have HF1 := Aside0.mk (HF0.out.turn ht1 (HF0.out.size HnW.out))
      clear hd1 ht1
      refine hK.out _ _ ((HF1.out.cell 2 _ rfl)) (fun hHeld => ?_)
      clear hK K
      refine norm_ (a' := ?_) ?_ ?_
      rotate_left
      · show Act.put _ (some 102) _ = _
        simp only [Act.put, pkA, pkB, pkC, i64_w, i32_w]
        rfl
      refine one_ (i := 4) (N := some 103) #[tt,tt,tt,tt,tt,tt,tt,tt,ff,ff,ff] rfl rfl (by kernel_rfl) (by decide) (fun K hK => ?_)
      refine goes_ Tryz.func20 (by kernel_rfl) rfl #[errV E (removeD D o.f2).1] (by rfl) rfl rfl (by simp only [List.map_toArray, List.map_cons, List.map_nil]; rfl) ?_
      with_reducible refine (HNm.out _ HF1.out.errs).mono ?_
      rintro e u2 ⟨rfl, hb2⟩
      refine ⟨_, rfl, ?_⟩
      have HD2' := Aside0.mk (HD1.out.below hb2)
      have HM2' := Aside0.mk (HM1.out.keep hb2)
      have HF2' := Aside0.mk (HF1.out.below hb2 (HF1.out.size HnW.out))
      clear hb2
      refine hK.out _ _ ((HF2'.out.cell 2 _ rfl)) (fun hHeld => ?_)
      clear hK K
      refine norm_ (a' := ?_) ?_ ?_
      rotate_left
      · show Act.put _ (some 103) _ = _
        simp only [Act.put, pkA, pkB, pkC, i64_w, i32_w]
        rfl
      refine one_ (i := 8) (N := some 107) #[tt,tt,tt,tt,tt,tt,tt,tt,tt,ff,ff] rfl rfl (by kernel_rfl) (by decide) (fun K hK => ?_)
      refine goes_ Tryz.func45 (by kernel_rfl) rfl #[.pointer (some ⟨m, 0, none⟩), .string o.f2] (by rfl) rfl rfl (by simp only [List.map_toArray, List.map_cons, List.map_nil]; rfl) ?_
      with_reducible refine (HMc.out _ HM2'.out).mono ?_
      rintro e u3 ⟨rfl, hm3, ht3⟩
      refine ⟨_, rfl, ?_⟩
      have HD3 := Aside0.mk (HD2'.out.rturnN ht3)
      have HM3 := Aside0.mk hm3
      have HF3 := Aside0.mk (HF2'.out.rturn ht3 (HF2'.out.size HnW.out))
      clear hm3 ht3
      refine hK.out _ _ ((HF3.out.cell 2 _ rfl)) (fun hHeld => ?_)
      clear hK K
      refine norm_ (a' := ?_) ?_ ?_
      rotate_left
      · show Act.put _ (some 107) _ = _
        simp only [Act.put, pkA, pkB, pkC, i64_w, i32_w]
        rfl
      refine pure_ (i := 9) (N := some 108) (v := ?_) (a' := ?_) #[tt,tt,tt,tt,tt,tt,tt,tt,tt,tt,ff] rfl rfl (by kernel_rfl) (fun _ _ _ h => h) (Or.inl ⟨by rfl, ?_⟩) ?_ ?_
      rotate_left
      · intro w'
        go_simp
        with_reducible rfl
      rotate_left
      · simp only [Act.put, pkA, pkB, pkC, i64_w, i32_w]
        rfl
      refine pure_ (i := 10) (N := some 8) (v := ?_) (a' := ?_) #[tt,tt,tt,tt,tt,tt,tt,tt,tt,tt,tt] rfl rfl (by kernel_rfl) (fun _ _ _ h => h) (Or.inl ⟨by rfl, ?_⟩) ?_ ?_
      rotate_left
      · intro w'
        go_simp
        with_reducible rfl
      rotate_left
      · simp only [Act.put, pkA, pkB, pkC, i64_w, i32_w]
        rfl
      refine done_ (by kernel_rfl) ?_
      go_wp2
      go_meet
      exact ⟨rfl, G2, by rw [HAct.out]; exact HP2.out, ⟨by rw [HAct.out]; exact HD3.out⟩, ⟨by rw [HAct.out]; exact HM3.out⟩, HF3⟩
    have e6 : (kd == 6) = false := by simpa using k6
    by_cases k7 : kd = 7
    · subst k7
      have HAct := Aside0.mk (show actD o D = (syncD D o.f2).2 by unfold actD; rw [← HKd.out]; rfl)
      obtain ⟨G2, hp1, hp2⟩ := par_sync HOk.out HRl.out o.f2
      have hp1 : syncD (withF D G) o.f2 = ((syncD D o.f2).1, withF (syncD D o.f2).2 G2) := hp1
      have HMc := Aside0.mk (fun (U : World) (hu : RDiskAt n U m (withF D G)) => rsync_calls (B := n) (p := m) (D := withF D G) (w := U) o.f2 HS2.out hu HOG.out (by have := HSt.out; show D.steps ≤ 999999999; omega) HRi.out)
      rw [hp1] at HMc
      have HP2 := Aside0.mk hp2
      have HNm := Aside0.mk (fun (U : World) (hu : AllAt n U E) => num_calls (syncD D o.f2).1 (numE (syncD D o.f2).1) E U hu.errs (numF_of (es_sync D o.f2)))
      clear hp1 hp2
      go_upto_region 17 with (fail)
      refine start_ (n := 11) (S := fun w' => w'.cell? ⟨ob, 2, none⟩ = some (.string o.f2)) (ds := []) #[ff,ff,ff,ff,ff,ff,ff,ff,ff,ff,ff] (by kernel_rfl) rfl rfl ((HFd.out.cell 2 _ rfl)) (fun hHeld => ?_)
      have HD0 := Aside0.mk (show DiskAt ⟨n, q⟩ w2.drew d D from HD2.out.below (Below.refl _ _).drew)
      have HM0 := Aside0.mk (HM2.out.keep (Below.refl _ w2).drew)
      have HF0 := Aside0.mk (HF2.out.below (Below.refl _ w2).drew (HF2.out.size HnW.out))
      generalize w2.drew = u0 at HD0 HM0 HF0 hHeld ⊢
      refine pure_ (i := 0) (N := some 111) (v := ?_) (a' := ?_) #[tt,ff,ff,ff,ff,ff,ff,ff,ff,ff,ff] rfl rfl (by kernel_rfl) (fun _ _ _ h => h) (Or.inl ⟨by rfl, ?_⟩) ?_ ?_
      rotate_left
      · intro w'
        go_simp
        with_reducible rfl
      rotate_left
      · simp only [Act.put, pkA, pkB, pkC, i64_w, i32_w]
        rfl
      refine pure_ (i := 1) (N := some 112) (v := ?_) (a' := ?_) #[tt,tt,ff,ff,ff,ff,ff,ff,ff,ff,ff] rfl rfl (by kernel_rfl) (fun _ _ _ h => h) (Or.inl ⟨by rfl, ?_⟩) ?_ ?_
      rotate_left
      · intro w'
        go_simp
        with_reducible rfl
      rotate_left
      · simp only [Act.put, pkA, pkB, pkC, i64_w, i32_w]
        rfl
      refine pure_ (i := 5) (N := some 116) (v := ?_) (a' := ?_) #[tt,tt,ff,ff,ff,tt,ff,ff,ff,ff,ff] rfl rfl (by kernel_rfl) (fun _ _ _ h => h) (Or.inl ⟨by rfl, ?_⟩) ?_ ?_
      rotate_left
      · intro w'
        go_simp
        with_reducible rfl
      rotate_left
      · simp only [Act.put, pkA, pkB, pkC, i64_w, i32_w]
        rfl
      refine pure_ (i := 6) (N := some 117) (v := ?_) (a' := ?_) #[tt,tt,ff,ff,ff,tt,tt,ff,ff,ff,ff] rfl rfl (by kernel_rfl) (fun _ _ _ h => h) (Or.inl ⟨by rfl, ?_⟩) ?_ ?_
      rotate_left
      · intro w'
        go_simp
        with_reducible rfl
      rotate_left
      · simp only [Act.put, pkA, pkB, pkC, i64_w, i32_w]
        rfl
      refine take_ (i := 2) (N := some 113) (v := ?_) (a' := ?_) #[tt,tt,tt,ff,ff,tt,tt,ff,ff,ff,ff] rfl rfl (by kernel_rfl) (fun _ _ _ h => h) (Or.inl ⟨by rfl, ?_⟩) hHeld ?_ ?_
      rotate_left
      · intro w' s0
        go_simp
        with_reducible rfl
      rotate_left
      · simp only [Act.put, pkA, pkB, pkC, i64_w, i32_w]
        rfl
      refine take_ (i := 7) (N := some 118) (v := ?_) (a' := ?_) #[tt,tt,tt,ff,ff,tt,tt,tt,ff,ff,ff] rfl rfl (by kernel_rfl) (fun _ _ _ h => h) (Or.inl ⟨by rfl, ?_⟩) hHeld ?_ ?_
      rotate_left
      · intro w' s0
        go_simp
        with_reducible rfl
      rotate_left
      · simp only [Act.put, pkA, pkB, pkC, i64_w, i32_w]
        rfl
      refine one_ (i := 3) (N := some 114) #[tt,tt,tt,tt,ff,tt,tt,tt,ff,ff,ff] rfl rfl (by kernel_rfl) (by decide) (fun K hK => ?_)
      refine goes_ Tryz.func46 (by kernel_rfl) rfl #[.pointer (some ⟨d, 0, none⟩), .string o.f2] (by rfl) rfl rfl (by simp only [List.map_toArray, List.map_cons, List.map_nil]; rfl) ?_
      with_reducible refine (sync_calls (h := HD0.out) (hE := HF0.out.errs.disk) (hk := HOk.out) (hst := by have := HSt.out; omega) (s := o.f2) (hs := HS2.out)).mono ?_
      rintro e u1 ⟨rfl, hd1, ht1⟩
      refine ⟨_, rfl, ?_⟩
      have HD1 := Aside0.mk hd1
      have HM1 := Aside0.mk (HM0.out.turnN ht1)
      have HF1 := Aside0.mk (HF0.out.turn ht1 (HF0.out.size HnW.out))
      clear hd1 ht1
      refine hK.out _ _ ((HF1.out.cell 2 _ rfl)) (fun hHeld => ?_)
      clear hK K
      refine norm_ (a' := ?_) ?_ ?_
      rotate_left
      · show Act.put _ (some 114) _ = _
        simp only [Act.put, pkA, pkB, pkC, i64_w, i32_w]
        rfl
      refine one_ (i := 4) (N := some 115) #[tt,tt,tt,tt,tt,tt,tt,tt,ff,ff,ff] rfl rfl (by kernel_rfl) (by decide) (fun K hK => ?_)
      refine goes_ Tryz.func20 (by kernel_rfl) rfl #[errV E (syncD D o.f2).1] (by rfl) rfl rfl (by simp only [List.map_toArray, List.map_cons, List.map_nil]; rfl) ?_
      with_reducible refine (HNm.out _ HF1.out.errs).mono ?_
      rintro e u2 ⟨rfl, hb2⟩
      refine ⟨_, rfl, ?_⟩
      have HD2' := Aside0.mk (HD1.out.below hb2)
      have HM2' := Aside0.mk (HM1.out.keep hb2)
      have HF2' := Aside0.mk (HF1.out.below hb2 (HF1.out.size HnW.out))
      clear hb2
      refine hK.out _ _ ((HF2'.out.cell 2 _ rfl)) (fun hHeld => ?_)
      clear hK K
      refine norm_ (a' := ?_) ?_ ?_
      rotate_left
      · show Act.put _ (some 115) _ = _
        simp only [Act.put, pkA, pkB, pkC, i64_w, i32_w]
        rfl
      refine one_ (i := 8) (N := some 119) #[tt,tt,tt,tt,tt,tt,tt,tt,tt,ff,ff] rfl rfl (by kernel_rfl) (by decide) (fun K hK => ?_)
      refine goes_ Tryz.func47 (by kernel_rfl) rfl #[.pointer (some ⟨m, 0, none⟩), .string o.f2] (by rfl) rfl rfl (by simp only [List.map_toArray, List.map_cons, List.map_nil]; rfl) ?_
      with_reducible refine (HMc.out _ HM2'.out).mono ?_
      rintro e u3 ⟨rfl, hm3, ht3⟩
      refine ⟨_, rfl, ?_⟩
      have HD3 := Aside0.mk (HD2'.out.rturnN ht3)
      have HM3 := Aside0.mk hm3
      have HF3 := Aside0.mk (HF2'.out.rturn ht3 (HF2'.out.size HnW.out))
      clear hm3 ht3
      refine hK.out _ _ ((HF3.out.cell 2 _ rfl)) (fun hHeld => ?_)
      clear hK K
      refine norm_ (a' := ?_) ?_ ?_
      rotate_left
      · show Act.put _ (some 119) _ = _
        simp only [Act.put, pkA, pkB, pkC, i64_w, i32_w]
        rfl
      refine pure_ (i := 9) (N := some 120) (v := ?_) (a' := ?_) #[tt,tt,tt,tt,tt,tt,tt,tt,tt,tt,ff] rfl rfl (by kernel_rfl) (fun _ _ _ h => h) (Or.inl ⟨by rfl, ?_⟩) ?_ ?_
      rotate_left
      · intro w'
        go_simp
        with_reducible rfl
      rotate_left
      · simp only [Act.put, pkA, pkB, pkC, i64_w, i32_w]
        rfl
      refine pure_ (i := 10) (N := some 8) (v := ?_) (a' := ?_) #[tt,tt,tt,tt,tt,tt,tt,tt,tt,tt,tt] rfl rfl (by kernel_rfl) (fun _ _ _ h => h) (Or.inl ⟨by rfl, ?_⟩) ?_ ?_
      rotate_left
      · intro w'
        go_simp
        with_reducible rfl
      rotate_left
      · simp only [Act.put, pkA, pkB, pkC, i64_w, i32_w]
        rfl
      refine done_ (by kernel_rfl) ?_
      go_wp2
      go_meet
      exact ⟨rfl, G2, by rw [HAct.out]; exact HP2.out, ⟨by rw [HAct.out]; exact HD3.out⟩, ⟨by rw [HAct.out]; exact HM3.out⟩, HF3⟩
    have e7 : (kd == 7) = false := by simpa using k7
    by_cases k8 : kd = 8
    · subst k8
      have HAct := Aside0.mk (show actD o D = (syncDirD D).2 by unfold actD; rw [← HKd.out]; rfl)
      obtain ⟨G2, hp1, hp2⟩ := par_syncDir HOk.out HRl.out
      have HMc := Aside0.mk (fun (U : World) (hu : RDiskAt n U m (withF D G)) => rsyncDir_calls (B := n) (p := m) (D := withF D G) (w := U) hu HOG.out (by have := HSt.out; show D.steps ≤ 999999999; omega) HRi.out)
      rw [hp1] at HMc
      have HP2 := Aside0.mk hp2
      have HNm := Aside0.mk (fun (U : World) (hu : AllAt n U E) => num_calls (syncDirD D).1 (numE (syncDirD D).1) E U hu.errs (numF_of (es_syncDir D)))
      clear hp1 hp2
      go_wp2_with (first
        | (go_at_call 35; refine (syncDir_calls (h := HD2.out) (hE := HF2.out.errs.disk) (hk := HOk.out) (hst := by have := HSt.out; omega)).mono ?_; rintro e u1 ⟨rfl, hd1, ht1⟩; have HD1 := Aside0.mk hd1; have HM1 := Aside0.mk (HM2.out.turnN ht1); have HF1 := Aside0.mk (HF2.out.turn ht1 (HF2.out.size HnW.out)); clear hd1 ht1)
        | (go_at_call 20; refine (HNm.out _ HF1.out.errs).mono ?_; rintro e u2 ⟨rfl, hb2⟩; have HD2' := Aside0.mk (HD1.out.below hb2); have HM2' := Aside0.mk (HM1.out.keep hb2); have HF2' := Aside0.mk (HF1.out.below hb2 (HF1.out.size HnW.out)); clear hb2)
        | (go_at_call 48; refine (HMc.out _ HM2'.out).mono ?_; rintro e u3 ⟨rfl, hm3, ht3⟩; have HD3 := Aside0.mk (HD2'.out.rturnN ht3); have HM3 := Aside0.mk hm3; have HF3 := Aside0.mk (HF2'.out.rturn ht3 (HF2'.out.size HnW.out)); clear hm3 ht3))
      go_meet
      exact ⟨by simp, G2, by rw [HAct.out]; exact HP2.out, ⟨by rw [HAct.out]; exact HD3.out⟩, ⟨by rw [HAct.out]; exact HM3.out⟩, HF3⟩
    have e8 : (kd == 8) = false := by simpa using k8
    by_cases k9 : kd = 9
    · subst k9
      have HAct := Aside0.mk (show actD o D = (setQuotaD D o.f1).2 by unfold actD; rw [← HKd.out]; rfl)
      obtain ⟨nn, hnn⟩ : ∃ nn, nn = o.f1 := ⟨_, rfl⟩
      have b1 := HF2.out.cell 1 _ rfl
      rw [← hnn] at b1 HAct
      have HNn := Aside0.mk hnn
      have HNm := Aside0.mk (fun (U : World) (hu : AllAt n U E) => num_calls (setQuotaD D nn).1 (numE (setQuotaD D nn).1) E U hu.errs (numF_of (es_quota D nn)))
      clear hnn
      by_cases hr : nn < 0 ∨ 1073741824 < nn
      · have HQ := Aside0.mk (show setQuotaD D nn = (some 1, D) by unfold setQuotaD; rw [if_pos hr])
        have hr1 : decide (nn < 0) = true ∨ (decide (nn < 0) = false ∧ decide (1073741824 < nn) = true) := by
          rcases hr with h | h
          · exact .inl (decide_eq_true h)
          · by_cases h0 : nn < 0
            · exact .inl (decide_eq_true h0)
            · exact .inr ⟨decide_eq_false h0, decide_eq_true h⟩
        clear hr
        rcases hr1 with t1 | ⟨t1, t2⟩
        all_goals
          go_wp2_with (first
            | (go_at_call 37; refine (setQuota_calls (h := HD2.out) (hE := HF2.out.errs.disk) (n := nn)).mono ?_; rw [HQ.out]; rw [HQ.out] at HNm; rintro e u1 ⟨rfl, hd1, ht1⟩; have HD1 := Aside0.mk hd1; have HM1 := Aside0.mk (HM2.out.turnN ht1); have HF1 := Aside0.mk (HF2.out.turn ht1 (HF2.out.size HnW.out)); clear hd1 ht1)
            | (go_at_call 20; refine (HNm.out _ HF1.out.errs).mono ?_; rintro e u2 ⟨rfl, hb2⟩; have HD2' := Aside0.mk (HD1.out.below hb2); have HM2' := Aside0.mk (HM1.out.keep hb2); have HF2' := Aside0.mk (HF1.out.below hb2 (HF1.out.size HnW.out)); clear hb2; simp only [numE]))
          go_meet
          exact ⟨by simp, G, by rw [HAct.out, HQ.out]; exact HRl.out, ⟨by rw [HAct.out, HQ.out]; exact HD2'.out⟩, ⟨by rw [HAct.out, HQ.out]; exact HM2'.out⟩, HF2'⟩
      · have HQ := Aside0.mk (show setQuotaD D nn = (none, { D with quota := nn }) by unfold setQuotaD; rw [if_neg hr])
        have t1 : decide (nn < 0) = false := decide_eq_false (by omega)
        have t2 : decide (1073741824 < nn) = false := decide_eq_false (by omega)
        have c4q := (HM2.out.cells).1
        have f4q := (HM2.out.cells).2.2.2.2 4
        obtain ⟨hm4, ht4⟩ := HM2.out.set 4 (.int .i64 nn) nn D.armed (fun _ _ _ _ => rfl)
        have HM1 := Aside0.mk (show RDiskAt n (w2.setCell ⟨m, 4, none⟩ (.int .i64 nn)) m (withF { D with quota := nn } G) from hm4)
        have HD1 := Aside0.mk (HD2.out.rturnN ht4)
        have HF1 := Aside0.mk (HF2.out.rturn ht4 (HF2.out.size HnW.out))
        have b1' := HF1.out.cell 1 _ rfl
        rw [← HNn.out] at b1'
        have HRl2 := Aside0.mk (HRl.out.mono { D with quota := nn } rfl (fun _ _ h => h))
        clear hr hm4 ht4
        go_wp2_with (first
          | (go_at_call 37; refine (setQuota_calls (h := HD1.out) (hE := HF1.out.errs.disk) (n := nn)).mono ?_; rw [HQ.out]; rw [HQ.out] at HNm; rintro e u1 ⟨rfl, hd1, ht1⟩; have HD1' := Aside0.mk hd1; have HM1' := Aside0.mk (HM1.out.turnN ht1); have HF1' := Aside0.mk (HF1.out.turn ht1 (HF1.out.size HnW.out)); clear hd1 ht1)
          | (go_at_call 20; refine (HNm.out _ HF1'.out.errs).mono ?_; rintro e u2 ⟨rfl, hb2⟩; have HD2' := Aside0.mk (HD1'.out.below hb2); have HM2' := Aside0.mk (HM1'.out.keep hb2); have HF2' := Aside0.mk (HF1'.out.below hb2 (HF1'.out.size HnW.out)); clear hb2; simp only [numE]))
        go_meet
        exact ⟨by simp, G, by rw [HAct.out, HQ.out]; exact HRl2.out, ⟨by rw [HAct.out, HQ.out]; exact HD2'.out⟩, ⟨by rw [HAct.out, HQ.out]; exact HM2'.out⟩, HF2'⟩
    have e9 : (kd == 9) = false := by simpa using k9
    by_cases k10 : kd = 10
    · subst k10
      have HAct := Aside0.mk (show actD o D = { D with armed := max o.f1 (-1) } by unfold actD; rw [← HKd.out]; rfl)
      have b1 := HF2.out.cell 1 _ rfl
      have HRl2 := Aside0.mk (HRl.out.mono { D with armed := max o.f1 (-1) } rfl (fun _ _ h => h))
      go_wp2_with (go_at_call 32; refine (arm_calls (h := HD2.out) (n := o.f1)).mono ?_; rintro e u1 ⟨rfl, hd1, ht1⟩; have HD1 := Aside0.mk hd1; have HM1 := Aside0.mk (HM2.out.turnN ht1); have HF1 := Aside0.mk (HF2.out.turn ht1 (HF2.out.size HnW.out)); have b1' := HF1.out.cell 1 _ rfl; have c5q := (HM1.out.cells).2.1; have f5q := (HM1.out.cells).2.2.2.2 5; clear hd1 ht1)
      all_goals
        go_meet
        obtain ⟨hm4, ht4⟩ := HM1.out.set 5 (.int .i64 (max o.f1 (-1))) D.quota (max o.f1 (-1)) (fun _ _ _ _ => rfl)
        first
          | (have hx : max o.f1 (-1) = -1 := by omega
             have hm5 := hm4
             rw [hx] at ht4 hm5
             exact ⟨rfl, G, by rw [HAct.out]; exact HRl2.out, ⟨by rw [HAct.out]; exact HD1.out.rturnN ht4⟩, ⟨by rw [HAct.out, hx]; exact hm5⟩, ⟨HF1.out.rturn ht4 (HF1.out.size HnW.out)⟩⟩)
          | (have hx : max o.f1 (-1) = o.f1 := by omega
             have hm5 := hm4
             rw [hx] at ht4 hm5
             exact ⟨rfl, G, by rw [HAct.out]; exact HRl2.out, ⟨by rw [HAct.out]; exact HD1.out.rturnN ht4⟩, ⟨by rw [HAct.out, hx]; exact hm5⟩, ⟨HF1.out.rturn ht4 (HF1.out.size HnW.out)⟩⟩)
    have e10 : (kd == 10) = false := by simpa using k10
    by_cases k11 : kd = 11
    · subst k11
      have HAct := Aside0.mk (show actD o D = crashD D o.f5 by unfold actD; rw [← HKd.out]; rfl)
      obtain ⟨G2, hp1, hp2⟩ := par_crash HOk.out HRl.out o.f5
      have HP2 := Aside0.mk hp2
      have b5 := HF2.out.cell 5 _ rfl
      have HIn := Aside0.mk (ints.calls A5 c5 o.f5 w2 (HC5.out _ HF2.out.bel) Hc5.out HL5.out)
      have HMc := Aside0.mk (fun (U : World) (hu : RDiskAt n U m (withF D G)) (hb : Below n w0 U) (hs : n ≤ U.heap.size) => rcrash_calls n m (withF D G) A5 c5 o.f5 U hu HOG.out (by have := HSt.out; show D.steps ≤ 1000000000; omega) HRi.out Hc5.out (fun V hV => readsInt_of.2 (Kd.reads_of_C (d := (0 : Int)) (h1 := fun _ => rfl) (HC5.out _ (hb.trans (hV.toBelow hs))))))
      rw [hp1] at HMc
      clear hp1 hp2
      go_wp2_with (first
        | (go_at_call 49; refine HIn.out.mono ?_; rintro e u1 ⟨a6, c6, rfl, hc6, hrow, hb1⟩; have HR6 := Aside0.mk hrow; have Hc6 := Aside0.mk hc6; have HD1 := Aside0.mk (HD2.out.below hb1); have HM1 := Aside0.mk (HM2.out.keep hb1); have HF1 := Aside0.mk (HF2.out.below hb1 (HF2.out.size HnW.out)); clear hc6 hrow hb1)
        | (go_at_call 14; refine (crash_calls ⟨n, q⟩ d D (some a6) c6 o.f5 u1 HD1.out HOk.out (by have := HSt.out; omega) (by have := Hc6.out; omega) (fun V hV => readsInt_of.2 (Kd.reads_of_C (d := (0 : Int)) (h1 := fun _ => rfl) (kept_head4 (ints_C (R_turn HR6.out hV.kind (by decide))))))).mono ?_; rintro e u2 ⟨rfl, hd2, ht2⟩; have HR7 := Aside0.mk (R_turn HR6.out ht2.kind (by decide)); have HDc := Aside0.mk hd2; have HMd := Aside0.mk (HM1.out.turnN ht2); have HFc := Aside0.mk (HF1.out.turn ht2 (HF1.out.size HnW.out)); have b5' := HFc.out.cell 5 _ rfl; clear hd2 ht2)
        | (go_at_call 50; refine (HMc.out _ HMd.out HFc.out.bel (HFc.out.size HnW.out)).mono ?_; rintro e u3 ⟨rfl, hm3, ht3⟩; have HR8 := Aside0.mk (R_rturn HR7.out ht3.kind (by decide)); have HD3 := Aside0.mk (HDc.out.rturnN ht3); have HM3 := Aside0.mk hm3; have HF3 := Aside0.mk (HFc.out.rturn ht3 (HFc.out.size HnW.out)); have b5'' := HF3.out.cell 5 _ rfl; clear hm3 ht3)
        | (go_at_call 51; refine (keptInts.calls a6 c6 A5 c5 o.f5 _ (ints_C HR8.out) Hc6.out (HC5.out _ HF3.out.bel) Hc5.out HL5.out).mono ?_; rintro e u4 ⟨rfl, hb4⟩; have HD4 := Aside0.mk (HD3.out.below hb4); have HM4 := Aside0.mk (HM3.out.keep hb4); have HF4 := Aside0.mk (HF3.out.below hb4 (HF3.out.size HnW.out)); clear hb4))
      go_meet
      exact ⟨rfl, G2, by rw [HAct.out]; exact HP2.out, ⟨by rw [HAct.out]; exact HD4.out⟩, ⟨by rw [HAct.out]; exact HM4.out⟩, HF4⟩
    have e11 : (kd == 11) = false := by simpa using k11
    have HAct := Aside0.mk (show actD o D = D by unfold actD; rw [← HKd.out, if_neg k1, if_neg k2, if_neg k3, if_neg k4, if_neg k5, if_neg k6, if_neg k7, if_neg k8, if_neg k9, if_neg k10, if_neg k11])
    clear k1 k2 k3 k4 k5 k6 k7 k8 k9 k10 k11
    go_wp2
    go_meet
    exact ⟨rfl, G, by rw [HAct.out]; exact HRl.out, ⟨by rw [HAct.out]; exact HD2.out⟩, ⟨by rw [HAct.out]; exact HM2.out⟩, HF2⟩
  case rest =>
    clear f0 HD2 HM2 HF2
    obtain ⟨rfl, G2, hr2, HD, HM, HF⟩ := hcut
    have HR2 := Aside0.mk hr2
    have HOG2 := Aside0.mk (ok_with HOk2.out hr2)
    have HUw := Aside0.mk (used_with HOk2.out hr2)
    have HOw := Aside0.mk (opens_with hr2)
    have HRi2 := Aside0.mk (rise_act HOk.out HRi.out o)
    clear hr2 HRl HOG
    obtain ⟨D2, hD2⟩ : ∃ D2, D2 = actD o D := ⟨_, rfl⟩
    rw [← hD2] at HD HM HR2 HOG2 HUw HOw HRi2 HOk2 HSt2
    have HD2e := Aside0.mk hD2
    clear hD2
    have b4 := HF.out.cell 4 _ rfl
    have HKp := Aside0.mk (postbagnum_Kept.calls ⟨q, 0, none⟩ c A4 c4 o.f4 wc HF.out.all.1 HF.out.all.2 (HC4.out _ HF.out.bel) Hc4.out HL4.out)
    obtain ⟨ln, hln⟩ : ∃ ln, ln = o.f4.length := ⟨_, rfl⟩
    have HLN := Aside0.mk hln
    have hlb : ln ≤ 1000000 := by rw [hln]; exact HL4.out
    have hlc : (ln : Int) ≤ (c : Int) := by rw [hln]; have := HF.out.cap; omega
    rw [← hln] at HKp b4 ⊢
    clear hln
    go_wp2_with (go_at_call 26; refine HKp.out.mono ?_; rintro e w5 ⟨rfl, hdr⟩; have HB5 := Aside0.mk hdr.below; clear hdr)
    have HD5 := Aside0.mk (HD.out.below HB5.out)
    have HM5 := Aside0.mk (HM.out.keep HB5.out)
    have HBl5 := Aside0.mk (HF.out.bel.trans (HB5.out.mono (HF.out.size HnW.out)))
    have HQ5 := Aside0.mk (show ∃ cells : Array Value, w5.heap[q]? = some (.cells cells 5 (0, 0)) ∧ ln ≤ cells.size from by
      obtain ⟨inner, how⟩ := Kd.R_own (Kd.R_below HF.out.hb HB5.out)
      obtain ⟨cells, hc⟩ := own_typed how q rfl
      refine ⟨cells, hc, ?_⟩
      have h9 := kept_cell (Kd.C_below HF.out.all.1 HB5.out) 5 (by omega)
      rw [add_plain, blk_cell hc] at h9
      have := (Array.getElem?_eq_some_iff.1 h9).1
      have := HLN.out
      omega)
    clear HD HM HF HB5 b4 HKp
    go_loopw [186] (fun i wr => ∃ k : Nat, k ≤ ln ∧ i = .int .i64 k ∧ Aside0 (DiskAt ⟨n, q⟩ wr d D2) ∧ Aside0 (RDiskAt n wr m (withF D2 G2)) ∧ Aside0 (Below n w0 wr) ∧ Aside0 (∃ cells : Array Value, wr.heap[q]? = some (.cells cells 5 (0, 0)) ∧ ln ≤ cells.size)) (fun i _ => ln - (Go.RowKit.intOf i).toNat)
    case atStart => exact ⟨0, by omega, rfl, HD5, HM5, HBl5, HQ5⟩
    case round =>
      obtain ⟨k, hk, rfl, HD, HM, HBl, HQ⟩ := hrel
      by_cases hlt : k < ln
      · have t1 : decide (k < ln) = true := decide_eq_true hlt
        obtain ⟨cells, hq, hsz⟩ := HQ.out
        obtain ⟨u, hu⟩ : ∃ u, cells[k]? = some u := ⟨_, Array.getElem?_eq_getElem (by omega)⟩
        have y0 : wr.cell? ⟨q, k, none⟩ = some u := (blk_cell hq k).trans hu
        have fz := blk_frozen hq k
        have k0 : (0 : Int) ≤ (k : Int) := by omega
        have k1 : (k : Int) < (ln : Int) := by omega
        have k2 : (k : Int) < (c : Int) := by omega
        have HDn := Aside0.mk (HD.out.fill hq k (.int .u8 7))
        have HMn := Aside0.mk (HM.out.fill hq k (.int .u8 7))
        have HQL := Aside0.mk HQn.out
        have HBn := Aside0.mk (HBl.out.setCell (p := ⟨q, k, none⟩) HQL.out (.int .u8 7))
        have HQ2 := Aside0.mk (show ∃ cells : Array Value, (wr.setCell ⟨q, k, none⟩ (.int .u8 7)).heap[q]? = some (.cells cells 5 (0, 0)) ∧ ln ≤ cells.size from ⟨_, blk_set hq k _, by simpa using hsz⟩)
        clear hq hsz hu
        go_wp2
        go_roundw
        case rel => exact ⟨k + 1, by omega, by go_num, HDn, HMn, HBn, HQ2⟩
        case measure => simp [Go.RowKit.intOf]; omega
      · have t1 : decide (k < ln) = false := decide_eq_false hlt
        have HMc := Aside0.mk (fun (U : World) (hb : Below wr.heap.size wr U) => (HM.out.keep hb).cells)
        have HUd := Aside0.mk (fun (U : World) (hb : Below wr.heap.size wr U) => used_at2 (HD.out.below hb) HOk2.out HSt2.out)
        have HUm := Aside0.mk (fun (U : World) (hb : Below wr.heap.size wr U) => rused_calls n m (withF D2 G2) U (HM.out.keep hb) HOG2.out HSt2.out HRi2.out)
        have HOd := Aside0.mk (fun (U : World) (hb : Below wr.heap.size wr U) => opens_calls ⟨n, q⟩ d D2 U (HD.out.below hb) HOk2.out HSt2.out)
        have HOm := Aside0.mk (fun (U : World) (hb : Below wr.heap.size wr U) => ropens_calls n m (withF D2 G2) U (HM.out.keep hb) HOG2.out HSt2.out)
        rw [HUw.out] at HUm
        rw [HOw.out] at HOm
        have HFin := Aside0.mk (fun (U : World) (hb : Below wr.heap.size wr U) => (show ∃ q2 G2, DiskAt ⟨n, q2⟩ U d D2 ∧ RDiskAt n U m (withF D2 G2) ∧ FRel D2 G2 ∧ Below n w0 U from ⟨q, G2, HD.out.below hb, HM.out.keep hb, HR2.out, HBl.out.trans (hb.mono (Nat.le_trans HnW.out HBl.out.size))⟩))
        have HBd := Aside0.mk (show Below wr.heap.size wr wr.drew from (Below.refl _ _).drew)
        go_upto_region 41 with (fail)
        refine start_ (n := 43) (S := fun w' => w'.cell? ⟨m, 4, none⟩ = some (.int .i64 D2.quota) ∧ w'.cell? ⟨m, 6, none⟩ = some (.bool D2.off) ∧ w'.cell? ⟨m, 7, none⟩ = some (.int .i64 D2.steps)) (ds := []) #[ff,ff,ff,ff,ff,ff,ff,ff,ff,ff,ff,ff,ff,ff,ff,ff,ff,ff,ff,ff,ff,ff,ff,ff,ff,ff,ff,ff,ff,ff,ff,ff,ff,ff,ff,ff,ff,ff,ff,ff,ff,ff,ff] (by kernel_rfl) rfl rfl ⟨((HMc.out _ HBd.out).1), ((HMc.out _ HBd.out).2.2.1), ((HMc.out _ HBd.out).2.2.2.1)⟩ (fun hHeld => ?_)
        generalize wr.drew = u0 at HBd hHeld ⊢
        refine pure_ (i := 0) (N := some 193) (v := ?_) (a' := ?_) #[tt,ff,ff,ff,ff,ff,ff,ff,ff,ff,ff,ff,ff,ff,ff,ff,ff,ff,ff,ff,ff,ff,ff,ff,ff,ff,ff,ff,ff,ff,ff,ff,ff,ff,ff,ff,ff,ff,ff,ff,ff,ff,ff] rfl rfl (by kernel_rfl) (fun _ _ _ h => h) (Or.inl ⟨by rfl, ?_⟩) ?_ ?_
        rotate_left
        · intro w'
          go_simp
          with_reducible rfl
        rotate_left
        · simp only [Act.put, pkA, pkB, pkC, i64_w, i32_w]
          rfl
        refine pure_ (i := 1) (N := some 194) (v := ?_) (a' := ?_) #[tt,tt,ff,ff,ff,ff,ff,ff,ff,ff,ff,ff,ff,ff,ff,ff,ff,ff,ff,ff,ff,ff,ff,ff,ff,ff,ff,ff,ff,ff,ff,ff,ff,ff,ff,ff,ff,ff,ff,ff,ff,ff,ff] rfl rfl (by kernel_rfl) (fun _ _ _ h => h) (Or.inl ⟨by rfl, ?_⟩) ?_ ?_
        rotate_left
        · intro w'
          go_simp
          with_reducible rfl
        rotate_left
        · simp only [Act.put, pkA, pkB, pkC, i64_w, i32_w]
          rfl
        refine pure_ (i := 2) (N := some 195) (v := ?_) (a' := ?_) #[tt,tt,tt,ff,ff,ff,ff,ff,ff,ff,ff,ff,ff,ff,ff,ff,ff,ff,ff,ff,ff,ff,ff,ff,ff,ff,ff,ff,ff,ff,ff,ff,ff,ff,ff,ff,ff,ff,ff,ff,ff,ff,ff] rfl rfl (by kernel_rfl) (fun _ _ _ h => h) (Or.inl ⟨by rfl, ?_⟩) ?_ ?_
        rotate_left
        · intro w'
          go_simp
          with_reducible rfl
        rotate_left
        · simp only [Act.put, pkA, pkB, pkC, i64_w, i32_w]
          rfl
        refine pure_ (i := 4) (N := some 197) (v := ?_) (a' := ?_) #[tt,tt,tt,ff,tt,ff,ff,ff,ff,ff,ff,ff,ff,ff,ff,ff,ff,ff,ff,ff,ff,ff,ff,ff,ff,ff,ff,ff,ff,ff,ff,ff,ff,ff,ff,ff,ff,ff,ff,ff,ff,ff,ff] rfl rfl (by kernel_rfl) (fun _ _ _ h => h) (Or.inl ⟨by rfl, ?_⟩) ?_ ?_
        rotate_left
        · intro w'
          go_simp
          with_reducible rfl
        rotate_left
        · simp only [Act.put, pkA, pkB, pkC, i64_w, i32_w]
          rfl
        refine one_ (i := 3) (N := some 196) #[tt,tt,tt,tt,tt,ff,ff,ff,ff,ff,ff,ff,ff,ff,ff,ff,ff,ff,ff,ff,ff,ff,ff,ff,ff,ff,ff,ff,ff,ff,ff,ff,ff,ff,ff,ff,ff,ff,ff,ff,ff,ff,ff] rfl rfl (by kernel_rfl) (by decide) (fun K hK => ?_)
        refine goes_ Tryz.func52 (by kernel_rfl) rfl #[.pointer (some ⟨d, 0, none⟩)] (by rfl) rfl rfl (by simp only [List.map_toArray, List.map_cons, List.map_nil]; rfl) ?_
        with_reducible refine (HUd.out _ HBd.out).mono ?_
        rintro e u1 ⟨rfl, hb1⟩
        refine ⟨_, rfl, ?_⟩
        have HB1 := Aside0.mk (HBd.out.trans (hb1.mono HBd.out.size))
        clear hb1
        refine hK.out _ _ ⟨((HMc.out _ HB1.out).1), ((HMc.out _ HB1.out).2.2.1), ((HMc.out _ HB1.out).2.2.2.1)⟩ (fun hHeld => ?_)
        clear hK K
        refine norm_ (a' := ?_) ?_ ?_
        rotate_left
        · show Act.put _ (some 196) _ = _
          simp only [Act.put, pkA, pkB, pkC, i64_w, i32_w]
          rfl
        refine one_ (i := 5) (N := some 198) #[tt,tt,tt,tt,tt,tt,ff,ff,ff,ff,ff,ff,ff,ff,ff,ff,ff,ff,ff,ff,ff,ff,ff,ff,ff,ff,ff,ff,ff,ff,ff,ff,ff,ff,ff,ff,ff,ff,ff,ff,ff,ff,ff] rfl rfl (by kernel_rfl) (by decide) (fun K hK => ?_)
        refine goes_ Tryz.func53 (by kernel_rfl) rfl #[.pointer (some ⟨m, 0, none⟩)] (by rfl) rfl rfl (by simp only [List.map_toArray, List.map_cons, List.map_nil]; rfl) ?_
        with_reducible refine (HUm.out _ HB1.out).mono ?_
        rintro e u2 ⟨rfl, hb2⟩
        refine ⟨_, rfl, ?_⟩
        have HB2 := Aside0.mk (HB1.out.trans (hb2.mono HB1.out.size))
        clear hb2
        refine hK.out _ _ ⟨((HMc.out _ HB2.out).1), ((HMc.out _ HB2.out).2.2.1), ((HMc.out _ HB2.out).2.2.2.1)⟩ (fun hHeld => ?_)
        clear hK K
        refine norm_ (a' := ?_) ?_ ?_
        rotate_left
        · show Act.put _ (some 198) _ = _
          simp only [Act.put, pkA, pkB, pkC, i64_w, i32_w]
          rfl
        refine pure_ (i := 6) (N := some 199) (v := ?_) (a' := ?_) #[tt,tt,tt,tt,tt,tt,tt,ff,ff,ff,ff,ff,ff,ff,ff,ff,ff,ff,ff,ff,ff,ff,ff,ff,ff,ff,ff,ff,ff,ff,ff,ff,ff,ff,ff,ff,ff,ff,ff,ff,ff,ff,ff] rfl rfl (by kernel_rfl) (fun _ _ _ h => h) (Or.inl ⟨by rfl, ?_⟩) ?_ ?_
        rotate_left
        · intro w'
          go_simp
          with_reducible rfl
        rotate_left
        · simp only [Act.put, pkA, pkB, pkC, i64_w, i32_w]
          rfl
        refine pure_ (i := 7) (N := some 200) (v := ?_) (a' := ?_) #[tt,tt,tt,tt,tt,tt,tt,tt,ff,ff,ff,ff,ff,ff,ff,ff,ff,ff,ff,ff,ff,ff,ff,ff,ff,ff,ff,ff,ff,ff,ff,ff,ff,ff,ff,ff,ff,ff,ff,ff,ff,ff,ff] rfl rfl (by kernel_rfl) (fun _ _ _ h => h) (Or.inl ⟨by rfl, ?_⟩) ?_ ?_
        rotate_left
        · intro w'
          go_simp
          with_reducible rfl
        rotate_left
        · simp only [Act.put, pkA, pkB, pkC, i64_w, i32_w]
          rfl
        refine pure_ (i := 8) (N := some 201) (v := ?_) (a' := ?_) #[tt,tt,tt,tt,tt,tt,tt,tt,tt,ff,ff,ff,ff,ff,ff,ff,ff,ff,ff,ff,ff,ff,ff,ff,ff,ff,ff,ff,ff,ff,ff,ff,ff,ff,ff,ff,ff,ff,ff,ff,ff,ff,ff] rfl rfl (by kernel_rfl) (fun _ _ _ h => h) (Or.inl ⟨by rfl, ?_⟩) ?_ ?_
        rotate_left
        · intro w'
          go_simp
          with_reducible rfl
        rotate_left
        · simp only [Act.put, pkA, pkB, pkC, i64_w, i32_w]
          rfl
        refine pure_ (i := 9) (N := some 202) (v := ?_) (a' := ?_) #[tt,tt,tt,tt,tt,tt,tt,tt,tt,tt,ff,ff,ff,ff,ff,ff,ff,ff,ff,ff,ff,ff,ff,ff,ff,ff,ff,ff,ff,ff,ff,ff,ff,ff,ff,ff,ff,ff,ff,ff,ff,ff,ff] rfl rfl (by kernel_rfl) (fun _ _ _ h => h) (Or.inl ⟨by rfl, ?_⟩) ?_ ?_
        rotate_left
        · intro w'
          go_simp
          with_reducible rfl
        rotate_left
        · simp only [Act.put, pkA, pkB, pkC, i64_w, i32_w]
          rfl
        refine pure_ (i := 11) (N := some 204) (v := ?_) (a' := ?_) #[tt,tt,tt,tt,tt,tt,tt,tt,tt,tt,ff,tt,ff,ff,ff,ff,ff,ff,ff,ff,ff,ff,ff,ff,ff,ff,ff,ff,ff,ff,ff,ff,ff,ff,ff,ff,ff,ff,ff,ff,ff,ff,ff] rfl rfl (by kernel_rfl) (fun _ _ _ h => h) (Or.inl ⟨by rfl, ?_⟩) ?_ ?_
        rotate_left
        · intro w'
          go_simp
          with_reducible rfl
        rotate_left
        · simp only [Act.put, pkA, pkB, pkC, i64_w, i32_w]
          rfl
        refine pure_ (i := 12) (N := some 205) (v := ?_) (a' := ?_) #[tt,tt,tt,tt,tt,tt,tt,tt,tt,tt,ff,tt,tt,ff,ff,ff,ff,ff,ff,ff,ff,ff,ff,ff,ff,ff,ff,ff,ff,ff,ff,ff,ff,ff,ff,ff,ff,ff,ff,ff,ff,ff,ff] rfl rfl (by kernel_rfl) (fun _ _ _ h => h) (Or.inl ⟨by rfl, ?_⟩) ?_ ?_
        rotate_left
        · intro w'
          go_simp
          with_reducible rfl
        rotate_left
        · simp only [Act.put, pkA, pkB, pkC, i64_w, i32_w]
          rfl
        refine pure_ (i := 13) (N := some 206) (v := ?_) (a' := ?_) #[tt,tt,tt,tt,tt,tt,tt,tt,tt,tt,ff,tt,tt,tt,ff,ff,ff,ff,ff,ff,ff,ff,ff,ff,ff,ff,ff,ff,ff,ff,ff,ff,ff,ff,ff,ff,ff,ff,ff,ff,ff,ff,ff] rfl rfl (by kernel_rfl) (fun _ _ _ h => h) (Or.inl ⟨by rfl, ?_⟩) ?_ ?_
        rotate_left
        · intro w'
          go_simp
          with_reducible rfl
        rotate_left
        · simp only [Act.put, pkA, pkB, pkC, i64_w, i32_w]
          rfl
        refine take_ (i := 14) (N := some 207) (v := ?_) (a' := ?_) #[tt,tt,tt,tt,tt,tt,tt,tt,tt,tt,ff,tt,tt,tt,tt,ff,ff,ff,ff,ff,ff,ff,ff,ff,ff,ff,ff,ff,ff,ff,ff,ff,ff,ff,ff,ff,ff,ff,ff,ff,ff,ff,ff] rfl rfl (by kernel_rfl) (fun _ _ _ h => h) (Or.inl ⟨by rfl, ?_⟩) hHeld ?_ ?_
        rotate_left
        · rintro w' ⟨s0, s1, s2⟩
          go_simp
          with_reducible rfl
        rotate_left
        · simp only [Act.put, pkA, pkB, pkC, i64_w, i32_w]
          rfl
        refine one_ (i := 10) (N := some 203) #[tt,tt,tt,tt,tt,tt,tt,tt,tt,tt,tt,tt,tt,tt,tt,ff,ff,ff,ff,ff,ff,ff,ff,ff,ff,ff,ff,ff,ff,ff,ff,ff,ff,ff,ff,ff,ff,ff,ff,ff,ff,ff,ff] rfl rfl (by kernel_rfl) (by decide) (fun K hK => ?_)
        refine goes_ Tryz.func54 (by kernel_rfl) rfl #[.pointer (some ⟨d, 0, none⟩)] (by rfl) rfl rfl (by simp only [List.map_toArray, List.map_cons, List.map_nil]; rfl) ?_
        with_reducible refine (quota_calls ⟨n, q⟩ d D2 u2 (HD.out.below HB2.out)).mono ?_
        rintro e u3 ⟨rfl, rfl⟩
        refine ⟨_, rfl, ?_⟩
        refine hK.out _ _ ⟨((HMc.out _ HB2.out).1), ((HMc.out _ HB2.out).2.2.1), ((HMc.out _ HB2.out).2.2.2.1)⟩ (fun hHeld => ?_)
        clear hK K
        refine norm_ (a' := ?_) ?_ ?_
        rotate_left
        · show Act.put _ (some 203) _ = _
          simp only [Act.put, pkA, pkB, pkC, i64_w, i32_w]
          rfl
        refine pure_ (i := 15) (N := some 208) (v := ?_) (a' := ?_) #[tt,tt,tt,tt,tt,tt,tt,tt,tt,tt,tt,tt,tt,tt,tt,tt,ff,ff,ff,ff,ff,ff,ff,ff,ff,ff,ff,ff,ff,ff,ff,ff,ff,ff,ff,ff,ff,ff,ff,ff,ff,ff,ff] rfl rfl (by kernel_rfl) (fun _ _ _ h => h) (Or.inl ⟨by rfl, ?_⟩) ?_ ?_
        rotate_left
        · intro w'
          go_simp
          with_reducible rfl
        rotate_left
        · simp only [Act.put, pkA, pkB, pkC, i64_w, i32_w]
          rfl
        refine pure_ (i := 16) (N := some 209) (v := ?_) (a' := ?_) #[tt,tt,tt,tt,tt,tt,tt,tt,tt,tt,tt,tt,tt,tt,tt,tt,tt,ff,ff,ff,ff,ff,ff,ff,ff,ff,ff,ff,ff,ff,ff,ff,ff,ff,ff,ff,ff,ff,ff,ff,ff,ff,ff] rfl rfl (by kernel_rfl) (fun _ _ _ h => h) (Or.inl ⟨by rfl, ?_⟩) ?_ ?_
        rotate_left
        · intro w'
          go_simp
          with_reducible rfl
        rotate_left
        · simp only [Act.put, pkA, pkB, pkC, i64_w, i32_w]
          rfl
        refine pure_ (i := 17) (N := some 210) (v := ?_) (a' := ?_) #[tt,tt,tt,tt,tt,tt,tt,tt,tt,tt,tt,tt,tt,tt,tt,tt,tt,tt,ff,ff,ff,ff,ff,ff,ff,ff,ff,ff,ff,ff,ff,ff,ff,ff,ff,ff,ff,ff,ff,ff,ff,ff,ff] rfl rfl (by kernel_rfl) (fun _ _ _ h => h) (Or.inl ⟨by rfl, ?_⟩) ?_ ?_
        rotate_left
        · intro w'
          go_simp
          with_reducible rfl
        rotate_left
        · simp only [Act.put, pkA, pkB, pkC, i64_w, i32_w]
          rfl
        refine pure_ (i := 18) (N := some 211) (v := ?_) (a' := ?_) #[tt,tt,tt,tt,tt,tt,tt,tt,tt,tt,tt,tt,tt,tt,tt,tt,tt,tt,tt,ff,ff,ff,ff,ff,ff,ff,ff,ff,ff,ff,ff,ff,ff,ff,ff,ff,ff,ff,ff,ff,ff,ff,ff] rfl rfl (by kernel_rfl) (fun _ _ _ h => h) (Or.inl ⟨by rfl, ?_⟩) ?_ ?_
        rotate_left
        · intro w'
          go_simp
          with_reducible rfl
        rotate_left
        · simp only [Act.put, pkA, pkB, pkC, i64_w, i32_w]
          rfl
        refine pure_ (i := 20) (N := some 213) (v := ?_) (a' := ?_) #[tt,tt,tt,tt,tt,tt,tt,tt,tt,tt,tt,tt,tt,tt,tt,tt,tt,tt,tt,ff,tt,ff,ff,ff,ff,ff,ff,ff,ff,ff,ff,ff,ff,ff,ff,ff,ff,ff,ff,ff,ff,ff,ff] rfl rfl (by kernel_rfl) (fun _ _ _ h => h) (Or.inl ⟨by rfl, ?_⟩) ?_ ?_
        rotate_left
        · intro w'
          go_simp
          with_reducible rfl
        rotate_left
        · simp only [Act.put, pkA, pkB, pkC, i64_w, i32_w]
          rfl
        refine pure_ (i := 21) (N := some 214) (v := ?_) (a' := ?_) #[tt,tt,tt,tt,tt,tt,tt,tt,tt,tt,tt,tt,tt,tt,tt,tt,tt,tt,tt,ff,tt,tt,ff,ff,ff,ff,ff,ff,ff,ff,ff,ff,ff,ff,ff,ff,ff,ff,ff,ff,ff,ff,ff] rfl rfl (by kernel_rfl) (fun _ _ _ h => h) (Or.inl ⟨by rfl, ?_⟩) ?_ ?_
        rotate_left
        · intro w'
          go_simp
          with_reducible rfl
        rotate_left
        · simp only [Act.put, pkA, pkB, pkC, i64_w, i32_w]
          rfl
        refine pure_ (i := 22) (N := some 215) (v := ?_) (a' := ?_) #[tt,tt,tt,tt,tt,tt,tt,tt,tt,tt,tt,tt,tt,tt,tt,tt,tt,tt,tt,ff,tt,tt,tt,ff,ff,ff,ff,ff,ff,ff,ff,ff,ff,ff,ff,ff,ff,ff,ff,ff,ff,ff,ff] rfl rfl (by kernel_rfl) (fun _ _ _ h => h) (Or.inl ⟨by rfl, ?_⟩) ?_ ?_
        rotate_left
        · intro w'
          go_simp
          with_reducible rfl
        rotate_left
        · simp only [Act.put, pkA, pkB, pkC, i64_w, i32_w]
          rfl
        refine take_ (i := 23) (N := some 216) (v := ?_) (a' := ?_) #[tt,tt,tt,tt,tt,tt,tt,tt,tt,tt,tt,tt,tt,tt,tt,tt,tt,tt,tt,ff,tt,tt,tt,tt,ff,ff,ff,ff,ff,ff,ff,ff,ff,ff,ff,ff,ff,ff,ff,ff,ff,ff,ff] rfl rfl (by kernel_rfl) (fun _ _ _ h => h) (Or.inl ⟨by rfl, ?_⟩) hHeld ?_ ?_
        rotate_left
        · rintro w' ⟨s0, s1, s2⟩
          go_simp
          with_reducible rfl
        rotate_left
        · simp only [Act.put, pkA, pkB, pkC, i64_w, i32_w]
          rfl
        refine one_ (i := 19) (N := some 212) #[tt,tt,tt,tt,tt,tt,tt,tt,tt,tt,tt,tt,tt,tt,tt,tt,tt,tt,tt,tt,tt,tt,tt,tt,ff,ff,ff,ff,ff,ff,ff,ff,ff,ff,ff,ff,ff,ff,ff,ff,ff,ff,ff] rfl rfl (by kernel_rfl) (by decide) (fun K hK => ?_)
        refine goes_ Tryz.func55 (by kernel_rfl) rfl #[.pointer (some ⟨d, 0, none⟩)] (by rfl) rfl rfl (by simp only [List.map_toArray, List.map_cons, List.map_nil]; rfl) ?_
        with_reducible refine (off_calls ⟨n, q⟩ d D2 _ (HD.out.below HB2.out)).mono ?_
        rintro e u4 ⟨rfl, rfl⟩
        refine ⟨_, rfl, ?_⟩
        refine hK.out _ _ ⟨((HMc.out _ HB2.out).1), ((HMc.out _ HB2.out).2.2.1), ((HMc.out _ HB2.out).2.2.2.1)⟩ (fun hHeld => ?_)
        clear hK K
        refine norm_ (a' := ?_) ?_ ?_
        rotate_left
        · show Act.put _ (some 212) _ = _
          simp only [Act.put, pkA, pkB, pkC, i64_w, i32_w]
          rfl
        refine pure_ (i := 24) (N := some 217) (v := ?_) (a' := ?_) #[tt,tt,tt,tt,tt,tt,tt,tt,tt,tt,tt,tt,tt,tt,tt,tt,tt,tt,tt,tt,tt,tt,tt,tt,tt,ff,ff,ff,ff,ff,ff,ff,ff,ff,ff,ff,ff,ff,ff,ff,ff,ff,ff] rfl rfl (by kernel_rfl) (fun _ _ _ h => h) (Or.inl ⟨by rfl, ?_⟩) ?_ ?_
        rotate_left
        · intro w'
          go_simp
          with_reducible rfl
        rotate_left
        · simp only [Act.put, pkA, pkB, pkC, i64_w, i32_w]
          rfl
        refine pure_ (i := 25) (N := some 218) (v := ?_) (a' := ?_) #[tt,tt,tt,tt,tt,tt,tt,tt,tt,tt,tt,tt,tt,tt,tt,tt,tt,tt,tt,tt,tt,tt,tt,tt,tt,tt,ff,ff,ff,ff,ff,ff,ff,ff,ff,ff,ff,ff,ff,ff,ff,ff,ff] rfl rfl (by kernel_rfl) (fun _ _ _ h => h) (Or.inl ⟨by rfl, ?_⟩) ?_ ?_
        rotate_left
        · intro w'
          go_simp
          with_reducible rfl
        rotate_left
        · simp only [Act.put, pkA, pkB, pkC, i64_w, i32_w]
          rfl
        refine pure_ (i := 26) (N := some 219) (v := ?_) (a' := ?_) #[tt,tt,tt,tt,tt,tt,tt,tt,tt,tt,tt,tt,tt,tt,tt,tt,tt,tt,tt,tt,tt,tt,tt,tt,tt,tt,tt,ff,ff,ff,ff,ff,ff,ff,ff,ff,ff,ff,ff,ff,ff,ff,ff] rfl rfl (by kernel_rfl) (fun _ _ _ h => h) (Or.inl ⟨by rfl, ?_⟩) ?_ ?_
        rotate_left
        · intro w'
          go_simp
          with_reducible rfl
        rotate_left
        · simp only [Act.put, pkA, pkB, pkC, i64_w, i32_w]
          rfl
        refine pure_ (i := 27) (N := some 220) (v := ?_) (a' := ?_) #[tt,tt,tt,tt,tt,tt,tt,tt,tt,tt,tt,tt,tt,tt,tt,tt,tt,tt,tt,tt,tt,tt,tt,tt,tt,tt,tt,tt,ff,ff,ff,ff,ff,ff,ff,ff,ff,ff,ff,ff,ff,ff,ff] rfl rfl (by kernel_rfl) (fun _ _ _ h => h) (Or.inl ⟨by rfl, ?_⟩) ?_ ?_
        rotate_left
        · intro w'
          go_simp
          with_reducible rfl
        rotate_left
        · simp only [Act.put, pkA, pkB, pkC, i64_w, i32_w]
          rfl
        refine pure_ (i := 29) (N := some 222) (v := ?_) (a' := ?_) #[tt,tt,tt,tt,tt,tt,tt,tt,tt,tt,tt,tt,tt,tt,tt,tt,tt,tt,tt,tt,tt,tt,tt,tt,tt,tt,tt,tt,ff,tt,ff,ff,ff,ff,ff,ff,ff,ff,ff,ff,ff,ff,ff] rfl rfl (by kernel_rfl) (fun _ _ _ h => h) (Or.inl ⟨by rfl, ?_⟩) ?_ ?_
        rotate_left
        · intro w'
          go_simp
          with_reducible rfl
        rotate_left
        · simp only [Act.put, pkA, pkB, pkC, i64_w, i32_w]
          rfl
        refine pure_ (i := 30) (N := some 223) (v := ?_) (a' := ?_) #[tt,tt,tt,tt,tt,tt,tt,tt,tt,tt,tt,tt,tt,tt,tt,tt,tt,tt,tt,tt,tt,tt,tt,tt,tt,tt,tt,tt,ff,tt,tt,ff,ff,ff,ff,ff,ff,ff,ff,ff,ff,ff,ff] rfl rfl (by kernel_rfl) (fun _ _ _ h => h) (Or.inl ⟨by rfl, ?_⟩) ?_ ?_
        rotate_left
        · intro w'
          go_simp
          with_reducible rfl
        rotate_left
        · simp only [Act.put, pkA, pkB, pkC, i64_w, i32_w]
          rfl
        refine pure_ (i := 31) (N := some 224) (v := ?_) (a' := ?_) #[tt,tt,tt,tt,tt,tt,tt,tt,tt,tt,tt,tt,tt,tt,tt,tt,tt,tt,tt,tt,tt,tt,tt,tt,tt,tt,tt,tt,ff,tt,tt,tt,ff,ff,ff,ff,ff,ff,ff,ff,ff,ff,ff] rfl rfl (by kernel_rfl) (fun _ _ _ h => h) (Or.inl ⟨by rfl, ?_⟩) ?_ ?_
        rotate_left
        · intro w'
          go_simp
          with_reducible rfl
        rotate_left
        · simp only [Act.put, pkA, pkB, pkC, i64_w, i32_w]
          rfl
        refine take_ (i := 32) (N := some 225) (v := ?_) (a' := ?_) #[tt,tt,tt,tt,tt,tt,tt,tt,tt,tt,tt,tt,tt,tt,tt,tt,tt,tt,tt,tt,tt,tt,tt,tt,tt,tt,tt,tt,ff,tt,tt,tt,tt,ff,ff,ff,ff,ff,ff,ff,ff,ff,ff] rfl rfl (by kernel_rfl) (fun _ _ _ h => h) (Or.inl ⟨by rfl, ?_⟩) hHeld ?_ ?_
        rotate_left
        · rintro w' ⟨s0, s1, s2⟩
          go_simp
          with_reducible rfl
        rotate_left
        · simp only [Act.put, pkA, pkB, pkC, i64_w, i32_w]
          rfl
        refine one_ (i := 28) (N := some 221) #[tt,tt,tt,tt,tt,tt,tt,tt,tt,tt,tt,tt,tt,tt,tt,tt,tt,tt,tt,tt,tt,tt,tt,tt,tt,tt,tt,tt,tt,tt,tt,tt,tt,ff,ff,ff,ff,ff,ff,ff,ff,ff,ff] rfl rfl (by kernel_rfl) (by decide) (fun K hK => ?_)
        refine goes_ Tryz.func56 (by kernel_rfl) rfl #[.pointer (some ⟨d, 0, none⟩)] (by rfl) rfl rfl (by simp only [List.map_toArray, List.map_cons, List.map_nil]; rfl) ?_
        with_reducible refine (steps_calls ⟨n, q⟩ d D2 _ (HD.out.below HB2.out)).mono ?_
        rintro e u5 ⟨rfl, rfl⟩
        refine ⟨_, rfl, ?_⟩
        refine hK.out _ _ ⟨((HMc.out _ HB2.out).1), ((HMc.out _ HB2.out).2.2.1), ((HMc.out _ HB2.out).2.2.2.1)⟩ (fun hHeld => ?_)
        clear hK K
        refine norm_ (a' := ?_) ?_ ?_
        rotate_left
        · show Act.put _ (some 221) _ = _
          simp only [Act.put, pkA, pkB, pkC, i64_w, i32_w]
          rfl
        refine pure_ (i := 33) (N := some 226) (v := ?_) (a' := ?_) #[tt,tt,tt,tt,tt,tt,tt,tt,tt,tt,tt,tt,tt,tt,tt,tt,tt,tt,tt,tt,tt,tt,tt,tt,tt,tt,tt,tt,tt,tt,tt,tt,tt,tt,ff,ff,ff,ff,ff,ff,ff,ff,ff] rfl rfl (by kernel_rfl) (fun _ _ _ h => h) (Or.inl ⟨by rfl, ?_⟩) ?_ ?_
        rotate_left
        · intro w'
          go_simp
          with_reducible rfl
        rotate_left
        · simp only [Act.put, pkA, pkB, pkC, i64_w, i32_w]
          rfl
        refine pure_ (i := 34) (N := some 227) (v := ?_) (a' := ?_) #[tt,tt,tt,tt,tt,tt,tt,tt,tt,tt,tt,tt,tt,tt,tt,tt,tt,tt,tt,tt,tt,tt,tt,tt,tt,tt,tt,tt,tt,tt,tt,tt,tt,tt,tt,ff,ff,ff,ff,ff,ff,ff,ff] rfl rfl (by kernel_rfl) (fun _ _ _ h => h) (Or.inl ⟨by rfl, ?_⟩) ?_ ?_
        rotate_left
        · intro w'
          go_simp
          with_reducible rfl
        rotate_left
        · simp only [Act.put, pkA, pkB, pkC, i64_w, i32_w]
          rfl
        refine pure_ (i := 35) (N := some 228) (v := ?_) (a' := ?_) #[tt,tt,tt,tt,tt,tt,tt,tt,tt,tt,tt,tt,tt,tt,tt,tt,tt,tt,tt,tt,tt,tt,tt,tt,tt,tt,tt,tt,tt,tt,tt,tt,tt,tt,tt,tt,ff,ff,ff,ff,ff,ff,ff] rfl rfl (by kernel_rfl) (fun _ _ _ h => h) (Or.inl ⟨by rfl, ?_⟩) ?_ ?_
        rotate_left
        · intro w'
          go_simp
          with_reducible rfl
        rotate_left
        · simp only [Act.put, pkA, pkB, pkC, i64_w, i32_w]
          rfl
        refine pure_ (i := 36) (N := some 229) (v := ?_) (a' := ?_) #[tt,tt,tt,tt,tt,tt,tt,tt,tt,tt,tt,tt,tt,tt,tt,tt,tt,tt,tt,tt,tt,tt,tt,tt,tt,tt,tt,tt,tt,tt,tt,tt,tt,tt,tt,tt,tt,ff,ff,ff,ff,ff,ff] rfl rfl (by kernel_rfl) (fun _ _ _ h => h) (Or.inl ⟨by rfl, ?_⟩) ?_ ?_
        rotate_left
        · intro w'
          go_simp
          with_reducible rfl
        rotate_left
        · simp only [Act.put, pkA, pkB, pkC, i64_w, i32_w]
          rfl
        refine pure_ (i := 38) (N := some 231) (v := ?_) (a' := ?_) #[tt,tt,tt,tt,tt,tt,tt,tt,tt,tt,tt,tt,tt,tt,tt,tt,tt,tt,tt,tt,tt,tt,tt,tt,tt,tt,tt,tt,tt,tt,tt,tt,tt,tt,tt,tt,tt,ff,tt,ff,ff,ff,ff] rfl rfl (by kernel_rfl) (fun _ _ _ h => h) (Or.inl ⟨by rfl, ?_⟩) ?_ ?_
        rotate_left
        · intro w'
          go_simp
          with_reducible rfl
        rotate_left
        · simp only [Act.put, pkA, pkB, pkC, i64_w, i32_w]
          rfl
        refine one_ (i := 37) (N := some 230) #[tt,tt,tt,tt,tt,tt,tt,tt,tt,tt,tt,tt,tt,tt,tt,tt,tt,tt,tt,tt,tt,tt,tt,tt,tt,tt,tt,tt,tt,tt,tt,tt,tt,tt,tt,tt,tt,tt,tt,ff,ff,ff,ff] rfl rfl (by kernel_rfl) (by decide) (fun K hK => ?_)
        refine goes_ Tryz.func57 (by kernel_rfl) rfl #[.pointer (some ⟨d, 0, none⟩)] (by rfl) rfl rfl (by simp only [List.map_toArray, List.map_cons, List.map_nil]; rfl) ?_
        with_reducible refine (HOd.out _ HB2.out).mono ?_
        rintro e u6 ⟨rfl, rfl⟩
        refine ⟨_, rfl, ?_⟩
        refine hK.out _ _ ⟨((HMc.out _ HB2.out).1), ((HMc.out _ HB2.out).2.2.1), ((HMc.out _ HB2.out).2.2.2.1)⟩ (fun hHeld => ?_)
        clear hK K
        refine norm_ (a' := ?_) ?_ ?_
        rotate_left
        · show Act.put _ (some 230) _ = _
          simp only [Act.put, pkA, pkB, pkC, i64_w, i32_w]
          rfl
        refine one_ (i := 39) (N := some 232) #[tt,tt,tt,tt,tt,tt,tt,tt,tt,tt,tt,tt,tt,tt,tt,tt,tt,tt,tt,tt,tt,tt,tt,tt,tt,tt,tt,tt,tt,tt,tt,tt,tt,tt,tt,tt,tt,tt,tt,tt,ff,ff,ff] rfl rfl (by kernel_rfl) (by decide) (fun K hK => ?_)
        refine goes_ Tryz.func58 (by kernel_rfl) rfl #[.pointer (some ⟨m, 0, none⟩)] (by rfl) rfl rfl (by simp only [List.map_toArray, List.map_cons, List.map_nil]; rfl) ?_
        with_reducible refine (HOm.out _ HB2.out).mono ?_
        rintro e u7 ⟨rfl, rfl⟩
        refine ⟨_, rfl, ?_⟩
        refine hK.out _ _ ⟨((HMc.out _ HB2.out).1), ((HMc.out _ HB2.out).2.2.1), ((HMc.out _ HB2.out).2.2.2.1)⟩ (fun hHeld => ?_)
        clear hK K
        refine norm_ (a' := ?_) ?_ ?_
        rotate_left
        · show Act.put _ (some 232) _ = _
          simp only [Act.put, pkA, pkB, pkC, i64_w, i32_w]
          rfl
        refine pure_ (i := 40) (N := some 233) (v := ?_) (a' := ?_) #[tt,tt,tt,tt,tt,tt,tt,tt,tt,tt,tt,tt,tt,tt,tt,tt,tt,tt,tt,tt,tt,tt,tt,tt,tt,tt,tt,tt,tt,tt,tt,tt,tt,tt,tt,tt,tt,tt,tt,tt,tt,ff,ff] rfl rfl (by kernel_rfl) (fun _ _ _ h => h) (Or.inl ⟨by rfl, ?_⟩) ?_ ?_
        rotate_left
        · intro w'
          go_simp
          with_reducible rfl
        rotate_left
        · simp only [Act.put, pkA, pkB, pkC, i64_w, i32_w]
          rfl
        refine pure_ (i := 41) (N := some 234) (v := ?_) (a' := ?_) #[tt,tt,tt,tt,tt,tt,tt,tt,tt,tt,tt,tt,tt,tt,tt,tt,tt,tt,tt,tt,tt,tt,tt,tt,tt,tt,tt,tt,tt,tt,tt,tt,tt,tt,tt,tt,tt,tt,tt,tt,tt,tt,ff] rfl rfl (by kernel_rfl) (fun _ _ _ h => h) (Or.inl ⟨by rfl, ?_⟩) ?_ ?_
        rotate_left
        · intro w'
          go_simp
          with_reducible rfl
        rotate_left
        · simp only [Act.put, pkA, pkB, pkC, i64_w, i32_w]
          rfl
        refine pure_ (i := 42) (N := some 6) (v := ?_) (a' := ?_) #[tt,tt,tt,tt,tt,tt,tt,tt,tt,tt,tt,tt,tt,tt,tt,tt,tt,tt,tt,tt,tt,tt,tt,tt,tt,tt,tt,tt,tt,tt,tt,tt,tt,tt,tt,tt,tt,tt,tt,tt,tt,tt,tt] rfl rfl (by kernel_rfl) (fun _ _ _ h => h) (Or.inl ⟨by rfl, ?_⟩) ?_ ?_
        rotate_left
        · intro w'
          go_simp
          with_reducible rfl
        rotate_left
        · simp only [Act.put, pkA, pkB, pkC, i64_w, i32_w]
          rfl
        refine done_ (by kernel_rfl) ?_
        go_wp2
        go_ret
        rw [← HD2e.out]
        exact ⟨rfl, HFin.out _ HB2.out⟩
end Go.Proofs.YtpcfnkmljchiiaaGreatDoor.DRpl
