/- Disk: Append, Write, Truncate, Remove, Read; the small ones. -/
import Derived.Test.YtpcfnkmljchiiaaDoorDCh2
namespace Go.Proofs.YtpcfnkmljchiiaaDoor.DOps
open Go Go.RowKit Go.Maps Go.WideMaps Go.Proofs.YtpcfnkmljchiiaaDoorW.PrintWords Go.Proofs.YtpcfnkmljchiiaaDoorW.PrintLast Go.Proofs.YtpcfnkmljchiiaaDoor.DBase Go.Proofs.YtpcfnkmljchiiaaDoor.DPl Go.Proofs.YtpcfnkmljchiiaaDoor.DAt Go.Proofs.YtpcfnkmljchiiaaDoor.DEnt Go.Proofs.YtpcfnkmljchiiaaDoor.DNam Go.Proofs.YtpcfnkmljchiiaaDoor.Is Go.Proofs.YtpcfnkmljchiiaaDoor.DFil Go.Proofs.YtpcfnkmljchiiaaDoor.DUsd Go.Proofs.YtpcfnkmljchiiaaDoor.DChg Go.Proofs.YtpcfnkmljchiiaaDoor.DCg Go.Proofs.YtpcfnkmljchiiaaDoor.DStp Go.Proofs.YtpcfnkmljchiiaaDoor.DCh2 Go.Proofs.YtpcfnkmljchiiaaDoor.DBy
set_option linter.unusedVariables false
set_option linter.unusedSimpArgs false
theorem gRange : gOf 1 = 2 := by decide
/-! ### what calls answer, told plainly -/
def fileOp (D : Dsk) (s : ByteArray) (k : Nat → Fil → Option Int × Dsk) : Option Int × Dsk :=
  match fileE D s with
  | some c => (some c, D)
  | none => match D.files[(atN D.now s.data.toList).toNat]? with
    | some f => k (atN D.now s.data.toList).toNat f
    | none => (none, D)
def appendD (D : Dsk) (s : ByteArray) (b : List Int) : Option Int × Dsk := fileOp D s fun i f => changedD D i f ⟨f.now.length, b, false⟩
def writeD (D : Dsk) (s : ByteArray) (n : Int) (b : List Int) : Option Int × Dsk := fileOp D s fun i f => if n < 0 ∨ (f.now.length : Int) < n then (some 1, D) else changedD D i f ⟨n.toNat, b, false⟩
def truncD (D : Dsk) (s : ByteArray) (n : Int) : Option Int × Dsk := fileOp D s fun i f => if n < 0 ∨ (f.now.length : Int) < n then (some 1, D) else changedD D i f ⟨n.toNat, [], true⟩
def removeD (D : Dsk) (s : ByteArray) : Option Int × Dsk := fileOp D s fun _ _ => namedD D ⟨ByteArray.empty, s, -1⟩
def syncD (D : Dsk) (s : ByteArray) : Option Int × Dsk := fileOp D s fun i f => if D.armed = 0 then (some 8, offD D) else (none, setF (stepD D) i ⟨f.now, f.now, []⟩)
theorem fileOp_no {D : Dsk} {s : ByteArray} {c : Int} (h : fileE D s = some c) (k : Nat → Fil → Option Int × Dsk) : fileOp D s k = (some c, D) := by unfold fileOp; rw [h]
theorem fileOp_ok {D : Dsk} {s : ByteArray} {i : Nat} {f : Fil} (h : fileE D s = none) (hi : atN D.now s.data.toList = i) (hf : D.files[i]? = some f) (k : Nat → Fil → Option Int × Dsk) : fileOp D s k = k i f := by
  unfold fileOp
  rw [h, hi]
  simp only [Int.toNat_natCast, hf]
/-- The file of a name, where there is one. -/
theorem file_at {D : Dsk} (hk : D.Ok) {s : ByteArray} (h : fileE D s = none) : ∃ (i : Nat) (f : Fil), atN D.now s.data.toList = i ∧ D.files[i]? = some f := by
  obtain ⟨i, hi, hl⟩ := atN_lt hk (fileE_none h).2
  exact ⟨i, D.files[i], hi, List.getElem?_eq_getElem hl⟩
theorem fileE_in {D : Dsk} {s : ByteArray} {c : Int} (h : fileE D s = some c) : dErr c := by
  unfold fileE at h
  cases hq : askD D s with
  | some c0 => rw [hq] at h; cases h; exact askD_in D s _ hq
  | none =>
    rw [hq] at h
    simp only at h
    split at h
    · cases h
    · cases h; simp [dErr]
section
variable (B p : Nat) (D : Dsk) (E : Int → Addr) (w : World)
set_option maxRecDepth 100000 in
theorem steps_calls (h : DiskAt B w p D) : Calls Tryd.prog 11 #[.pointer (some ⟨p, 0, none⟩)] w fun e w' => e = .returned (.int .i64 D.steps) ∧ w' = w := by
  obtain ⟨L, m1, m2, fv, ov, hl⟩ := h
  have c := (blk_cell hl.obj 7).trans rfl
  clear hl
  go_enter Tryd.func11, Tryd.ntmps11
  go_wp2
  go_ret
  exact ⟨rfl, rfl⟩
set_option maxRecDepth 100000 in
theorem off_calls (h : DiskAt B w p D) : Calls Tryd.prog 27 #[.pointer (some ⟨p, 0, none⟩)] w fun e w' => e = .returned (.bool D.off) ∧ w' = w := by
  obtain ⟨L, m1, m2, fv, ov, hl⟩ := h
  have c := (blk_cell hl.obj 6).trans rfl
  clear hl
  go_enter Tryd.func27, Tryd.ntmps27
  go_wp2
  go_ret
  exact ⟨rfl, rfl⟩
set_option maxRecDepth 100000 in
theorem quota_calls (h : DiskAt B w p D) : Calls Tryd.prog 60 #[.pointer (some ⟨p, 0, none⟩)] w fun e w' => e = .returned (.int .i64 D.quota) ∧ w' = w := by
  obtain ⟨L, m1, m2, fv, ov, hl⟩ := h
  have c := (blk_cell hl.obj 4).trans rfl
  clear hl
  go_enter Tryd.func60, Tryd.ntmps60
  go_wp2
  go_ret
  exact ⟨rfl, rfl⟩
set_option maxRecDepth 100000 in
theorem arm_calls (h : DiskAt B w p D) (n : Int) : Calls Tryd.prog 55 #[.pointer (some ⟨p, 0, none⟩), .int .i64 n] w fun e w' => e = .returned (.tuple #[]) ∧ DiskAt B w' p { D with armed := max n (-1) } ∧ Turn B w w' := by
  obtain ⟨L, m1, m2, fv, ov, hl⟩ := h
  have c5 : w.cell? ⟨p, 5, none⟩ = some (.int .i64 D.armed) := (blk_cell hl.obj 5).trans rfl
  have f5 : w.frozen? ⟨p, 5, none⟩ = false := blk_frozen hl.obj 5
  have HL := Aside0.mk hl
  clear hl
  by_cases hn : n < -1
  · have t1 : decide (n < -1) = true := decide_eq_true hn
    have HE := Aside0.mk (show max n (-1) = -1 by omega)
    go_enter Tryd.func55, Tryd.ntmps55
    go_wp2
    go_end0
    rw [HE.out]
    exact ⟨rfl, ⟨_, _, _, _, _, HL.out.reobj (w' := w.setCell ⟨p, 5, none⟩ (.int .i64 (-1))) D.quota (-1) D.off D.steps (blk_put HL.out.obj 5 _ rfl) (But.setCell w ⟨p, 5, none⟩ _)⟩, (Turn.refl B w).setCell HL.out.obj rfl HL.out.lop 5 _⟩
  · have t1 : decide (n < -1) = false := decide_eq_false hn
    have HE := Aside0.mk (show max n (-1) = n by omega)
    go_enter Tryd.func55, Tryd.ntmps55
    go_wp2
    go_end0
    rw [HE.out]
    exact ⟨rfl, ⟨_, _, _, _, _, HL.out.reobj (w' := w.setCell ⟨p, 5, none⟩ (.int .i64 n)) D.quota n D.off D.steps (blk_put HL.out.obj 5 _ rfl) (But.setCell w ⟨p, 5, none⟩ _)⟩, (Turn.refl B w).setCell HL.out.obj rfl HL.out.lop 5 _⟩
def setQuotaD (D : Dsk) (n : Int) : Option Int × Dsk := if n < 0 ∨ 1073741824 < n then (some 1, D) else (none, { D with quota := n })
set_option maxRecDepth 100000 in
theorem setQuota_calls (h : DiskAt B w p D) (hE : ErrAt B w E) (n : Int) : Calls Tryd.prog 29 #[.pointer (some ⟨p, 0, none⟩), .int .i64 n] w fun e w' => e = .returned (errV E (setQuotaD D n).1) ∧ DiskAt B w' p (setQuotaD D n).2 ∧ Turn B w w' := by
  obtain ⟨L, m1, m2, fv, ov, hl⟩ := h
  have c4 : w.cell? ⟨p, 4, none⟩ = some (.int .i64 D.quota) := (blk_cell hl.obj 4).trans rfl
  have f4 : w.frozen? ⟨p, 4, none⟩ = false := blk_frozen hl.obj 4
  have c1 := hE.errs.var 1 (by simp [dErr])
  rw [gRange] at c1
  have HL := Aside0.mk hl
  clear hl hE
  by_cases h0 : n < 0
  · have e : setQuotaD D n = (some 1, D) := if_pos (.inl h0)
    rw [e]
    have t1 : decide (n < 0) = true := decide_eq_true h0
    clear e
    go_enter Tryd.func29, Tryd.ntmps29
    go_wp2
    go_ret
    exact ⟨rfl, ⟨_, _, _, _, _, HL.out⟩, Turn.refl B w⟩
  · have t1 : decide (n < 0) = false := decide_eq_false h0
    by_cases h1 : 1073741824 < n
    · have e : setQuotaD D n = (some 1, D) := if_pos (.inr h1)
      rw [e]
      have t2 : decide (1073741824 < n) = true := decide_eq_true h1
      clear e
      go_enter Tryd.func29, Tryd.ntmps29
      go_wp2
      go_ret
      exact ⟨rfl, ⟨_, _, _, _, _, HL.out⟩, Turn.refl B w⟩
    · have e : setQuotaD D n = (none, { D with quota := n }) := if_neg (by omega)
      rw [e]
      have t2 : decide (1073741824 < n) = false := decide_eq_false h1
      clear e
      go_enter Tryd.func29, Tryd.ntmps29
      go_wp2
      go_ret
      exact ⟨rfl, ⟨_, _, _, _, _, HL.out.reobj (w' := w.setCell ⟨p, 4, none⟩ (.int .i64 n)) n D.armed D.off D.steps (blk_put HL.out.obj 4 _ rfl) (But.setCell w ⟨p, 4, none⟩ _)⟩, (Turn.refl B w).setCell HL.out.obj rfl HL.out.lop 4 _⟩
set_option maxRecDepth 100000 in
set_option maxHeartbeats 4000000 in
theorem append_calls (h : DiskAt B w p D) (hE : ErrAt B w E) (hk : D.Ok) (hst : D.steps ≤ 1000000000) (s : ByteArray) (hs : s.size < 9223372036854775807) (A0 : Option Addr) (c0 : Nat) (b : List Int) (hC : Kd.C kb w A0 b.length b) (hc0 : b.length ≤ c0) (hbl : b.length ≤ 1000000) :
    Calls Tryd.prog 12 #[.pointer (some ⟨p, 0, none⟩), .string s, .slice A0 b.length c0] w fun e w' => e = .returned (errV E (appendD D s b).1) ∧ DiskAt B w' p (appendD D s b).2 ∧ Turn B w w' := by
  obtain ⟨L, m1, m2, fv, ov, hl⟩ := h
  unfold appendD
  cases hq : fileE D s with
  | some c =>
    rw [fileOp_no hq]
    simp only [errV_some]
    have HF := Aside0.mk (file_no p D s hs E w hl hE c hq)
    rw [errV_some] at HF
    have HL := Aside0.mk hl
    clear hl hE hq
    go_enter Tryd.func12, Tryd.ntmps12
    go_wp2_with (go_at_call 33; refine HF.out.mono ?_; rintro e w1 ⟨rfl, hb⟩; have HB1 := Aside0.mk hb; clear hb)
    go_ret
    exact ⟨rfl, ⟨_, _, _, _, _, HL.out.below HB1.out⟩, Turn.of_below HB1.out⟩
  | none =>
    obtain ⟨i, f, hi, hf⟩ := file_at hk hq
    rw [fileOp_ok hq hi hf]
    have hil : i < L.length := by have := hl.files.len; have := (List.getElem?_eq_some_iff.1 hf).1; omega
    obtain ⟨x, hx⟩ : ∃ x, L[i]? = some x := ⟨_, List.getElem?_eq_getElem hil⟩
    have HF := Aside0.mk (file_ok p D s hs E w hl hE hq i hi x hx (by have := hl.files.len; have := hk.cntF; omega))
    obtain ⟨⟨nv, sv, ho, hn, hsu⟩, lo, hop⟩ := hl.files.each i x f hx hf
    obtain ⟨A, cp, rfl⟩ := Kd.R_slice hn
    have HN0 := Aside0.mk ((blk_cell ho 0).trans rfl : w.cell? ⟨x.1, 0, none⟩ = some (.slice A f.now.length cp))
    have hkf := hk.fil f (List.mem_of_getElem? hf)
    have HCl := Aside0.mk (fun (U : World) (hb : Below w.heap.size w U) => slices_Clone_byte_byte.calls A0 c0 b b U (Kd.C_below hC hb) hc0 (if_pos (by omega)))
    have HCh := Aside0.mk (fun (U : World) (bv : Value) (hb : Below w.heap.size w U) (hbv : BytesAt B U bv b) => changed_calls B p D L m1 m2 fv ov i x f ⟨f.now.length, b, false⟩ bv E U (hl.below hb) (hE.turn (Turn.of_below hb)) hx hf hbv hk hst (Nat.le_refl _) (by simp only; have := hkf.nowL; omega))
    have HLO := Aside0.mk (show B ≤ w.heap.size by have := hl.lop; have := blk_lt hl.obj; omega)
    obtain ⟨rs, hrs⟩ : ∃ rs, rs = changedD D i f ⟨f.now.length, b, false⟩ := ⟨_, rfl⟩
    rw [← hrs] at HCh ⊢
    clear hl hE hq hi hf hx hil hC ho hn hsu lo hop hkf hrs
    go_enter Tryd.func12, Tryd.ntmps12
    go_wp2_with (go_at_call 33; refine HF.out.mono ?_; rintro e w1 ⟨rfl, hb⟩; have HB1 := Aside0.mk hb; clear hb)
    have n1 := (HB1.out.cell (p := ⟨x.1, 0, none⟩) (World.block_lt_of_cell? w _ HN0.out)).trans HN0.out
    refine start_ (n := 12) (S := fun w' => w'.cell? ⟨x.1, 0, none⟩ = some (.slice A f.now.length cp)) (ds := [10]) #[false, false, false, false, false, false, false, false, false, false, false, false] (by kernel_rfl) rfl rfl (n1) (fun hHeld => ?_)
    have HB2 := Aside0.mk HB1.out.drew
    generalize w1.drew = w2 at HB2 hHeld ⊢
    refine pure_ (i := 0) (N := some 18) (v := ?_) (a' := ?_) #[true, false, false, false, false, false, false, false, false, false, false, false] rfl rfl (by kernel_rfl) (fun _ _ _ h => h) (Or.inl ⟨by rfl, ?_⟩) ?_ ?_
    rotate_left
    · intro w'
      go_simp
      with_reducible rfl
    rotate_left
    · simp only [Act.put, List.setIfInBounds_toArray, List.set_cons_zero, List.set_cons_succ, i64_w, i32_w]
      rfl
    refine pure_ (i := 1) (N := some 19) (v := ?_) (a' := ?_) #[true, true, false, false, false, false, false, false, false, false, false, false] rfl rfl (by kernel_rfl) (fun _ _ _ h => h) (Or.inl ⟨by rfl, ?_⟩) ?_ ?_
    rotate_left
    · intro w'
      go_simp
      with_reducible rfl
    rotate_left
    · simp only [Act.put, List.setIfInBounds_toArray, List.set_cons_zero, List.set_cons_succ, i64_w, i32_w]
      rfl
    refine pure_ (i := 2) (N := some 20) (v := ?_) (a' := ?_) #[true, true, true, false, false, false, false, false, false, false, false, false] rfl rfl (by kernel_rfl) (fun _ _ _ h => h) (Or.inl ⟨by rfl, ?_⟩) ?_ ?_
    rotate_left
    · intro w'
      go_simp
      with_reducible rfl
    rotate_left
    · simp only [Act.put, List.setIfInBounds_toArray, List.set_cons_zero, List.set_cons_succ, i64_w, i32_w]
      rfl
    refine pure_ (i := 3) (N := some 21) (v := ?_) (a' := ?_) #[true, true, true, true, false, false, false, false, false, false, false, false] rfl rfl (by kernel_rfl) (fun _ _ _ h => h) (Or.inl ⟨by rfl, ?_⟩) ?_ ?_
    rotate_left
    · intro w'
      go_simp
      with_reducible rfl
    rotate_left
    · simp only [Act.put, List.setIfInBounds_toArray, List.set_cons_zero, List.set_cons_succ, i64_w, i32_w]
      rfl
    refine pure_ (i := 4) (N := some 22) (v := ?_) (a' := ?_) #[true, true, true, true, true, false, false, false, false, false, false, false] rfl rfl (by kernel_rfl) (fun _ _ _ h => h) (Or.inl ⟨by rfl, ?_⟩) ?_ ?_
    rotate_left
    · intro w'
      go_simp
      with_reducible rfl
    rotate_left
    · simp only [Act.put, List.setIfInBounds_toArray, List.set_cons_zero, List.set_cons_succ, i64_w, i32_w]
      rfl
    refine pure_ (i := 7) (N := some 25) (v := ?_) (a' := ?_) #[true, true, true, true, true, false, false, true, false, false, false, false] rfl rfl (by kernel_rfl) (fun _ _ _ h => h) (Or.inl ⟨by rfl, ?_⟩) ?_ ?_
    rotate_left
    · intro w'
      go_simp
      with_reducible rfl
    rotate_left
    · simp only [Act.put, List.setIfInBounds_toArray, List.set_cons_zero, List.set_cons_succ, i64_w, i32_w]
      rfl
    refine take_ (i := 5) (N := some 23) (v := ?_) (a' := ?_) #[true, true, true, true, true, true, false, true, false, false, false, false] rfl rfl (by kernel_rfl) (fun _ _ _ h => h) (Or.inl ⟨by rfl, ?_⟩) hHeld ?_ ?_
    rotate_left
    · intro w' s0
      go_simp
      with_reducible rfl
    rotate_left
    · simp only [Act.put, List.setIfInBounds_toArray, List.set_cons_zero, List.set_cons_succ, i64_w, i32_w]
      rfl
    refine pure_ (i := 6) (N := some 24) (v := ?_) (a' := ?_) #[true, true, true, true, true, true, true, true, false, false, false, false] rfl rfl (by kernel_rfl) (fun _ _ _ h => h) (Or.inl ⟨by rfl, ?_⟩) ?_ ?_
    rotate_left
    · intro w'
      go_simp
      with_reducible rfl
    rotate_left
    · simp only [Act.put, List.setIfInBounds_toArray, List.set_cons_zero, List.set_cons_succ, i64_w, i32_w]
      rfl
    refine one_ (i := 8) (N := some 26) #[true, true, true, true, true, true, true, true, true, false, false, false] rfl rfl (by kernel_rfl) (by decide) (fun K hK => ?_)
    refine goes_ Tryd.func35 (by kernel_rfl) rfl #[.slice A0 b.length c0] (by rfl) rfl rfl (by simp only [List.map_toArray, List.map_cons, List.map_nil]; rfl) ?_
    with_reducible refine (HCl.out w2 HB2.out).mono ?_
    rintro e w3 ⟨v, rfl, hr, hb⟩
    refine ⟨_, rfl, ?_⟩
    obtain ⟨Av, cpv, rfl⟩ := Kd.R_slice hr
    have HB3 := Aside0.mk (HB2.out.trans (hb.mono HB2.out.size))
    have HV3 := Aside0.mk (show BytesAt B w3 (.slice Av b.length cpv) b from Kd.R_lower hr (Nat.le_trans HLO.out HB2.out.size))
    have n3 := (hb.cell (p := ⟨x.1, 0, none⟩) (World.block_lt_of_cell? w2 _ hHeld)).trans hHeld
    clear hr hb
    refine hK.out _ _ (n3) (fun hHeld => ?_)
    clear hK K
    refine norm_ (a' := ?_) ?_ ?_
    rotate_left
    · show Act.put _ (some 26) _ = _
      simp only [Act.put, List.setIfInBounds_toArray, List.set_cons_zero, List.set_cons_succ, i64_w, i32_w]
      rfl
    refine pure_ (i := 9) (N := some 27) (v := ?_) (a' := ?_) #[true, true, true, true, true, true, true, true, true, true, false, false] rfl rfl (by kernel_rfl) (fun _ _ _ h => h) (Or.inl ⟨by rfl, ?_⟩) ?_ ?_
    rotate_left
    · intro w'
      go_simp
      with_reducible rfl
    rotate_left
    · simp only [Act.put, List.setIfInBounds_toArray, List.set_cons_zero, List.set_cons_succ, i64_w, i32_w]
      rfl
    refine last_ (i := 10) (N := some 28) #[true, true, true, true, true, true, true, true, true, true, true, false] rfl rfl (by kernel_rfl) (by decide) (fun K hK => ?_)
    refine goes_ Tryd.func34 (by kernel_rfl) rfl #[.pointer (some ⟨p, 0, none⟩), .pointer (some ⟨x.1, 0, none⟩), .agg #[.int .i64 (f.now.length : Int), .slice Av b.length cpv, .bool false]] (by rfl) rfl rfl (by simp only [List.map_toArray, List.map_cons, List.map_nil]; rfl) ?_
    with_reducible refine (HCh.out w3 _ HB3.out HV3.out).mono ?_
    rintro e w4 ⟨rfl, hd, ht⟩
    refine ⟨_, rfl, ?_⟩
    have HD4 := Aside0.mk hd
    have HT4 := Aside0.mk ht
    clear hd ht
    refine hK.out _ _ ?_
    clear hK K
    refine norm_ (a' := ?_) ?_ ?_
    rotate_left
    · show Act.put _ (some 28) _ = _
      simp only [Act.put, List.setIfInBounds_toArray, List.set_cons_zero, List.set_cons_succ, i64_w, i32_w]
      rfl
    refine pure_ (i := 11) (N := some 6) (v := ?_) (a' := ?_) #[true, true, true, true, true, true, true, true, true, true, true, true] rfl rfl (by kernel_rfl) (fun _ _ _ h => h) (Or.inl ⟨by rfl, ?_⟩) ?_ ?_
    rotate_left
    · intro w'
      go_simp
      with_reducible rfl
    rotate_left
    · simp only [Act.put, List.setIfInBounds_toArray, List.set_cons_zero, List.set_cons_succ, i64_w, i32_w]
      rfl
    refine done_ (by kernel_rfl) ?_
    go_wp2
    go_ret
    exact ⟨rfl, HD4.out, (Turn.of_below HB3.out).trans HT4.out⟩
set_option maxRecDepth 100000 in
set_option maxHeartbeats 4000000 in
theorem trunc_calls (h : DiskAt B w p D) (hE : ErrAt B w E) (hk : D.Ok) (hst : D.steps ≤ 1000000000) (s : ByteArray) (hs : s.size < 9223372036854775807) (n : Int) :
    Calls Tryd.prog 14 #[.pointer (some ⟨p, 0, none⟩), .string s, .int .i64 n] w fun e w' => e = .returned (errV E (truncD D s n).1) ∧ DiskAt B w' p (truncD D s n).2 ∧ Turn B w w' := by
  obtain ⟨L, m1, m2, fv, ov, hl⟩ := h
  unfold truncD
  cases hq : fileE D s with
  | some c =>
    rw [fileOp_no hq]
    simp only [errV_some]
    have HF := Aside0.mk (file_no p D s hs E w hl hE c hq)
    rw [errV_some] at HF
    have HL := Aside0.mk hl
    clear hl hE hq
    go_enter Tryd.func14, Tryd.ntmps14
    go_wp2_with (go_at_call 33; refine HF.out.mono ?_; rintro e w1 ⟨rfl, hb⟩; have HB1 := Aside0.mk hb; clear hb)
    go_ret
    exact ⟨rfl, ⟨_, _, _, _, _, HL.out.below HB1.out⟩, Turn.of_below HB1.out⟩
  | none =>
    obtain ⟨i, f, hi, hf⟩ := file_at hk hq
    rw [fileOp_ok hq hi hf]
    have hil : i < L.length := by have := hl.files.len; have := (List.getElem?_eq_some_iff.1 hf).1; omega
    obtain ⟨x, hx⟩ : ∃ x, L[i]? = some x := ⟨_, List.getElem?_eq_getElem hil⟩
    have HF := Aside0.mk (file_ok p D s hs E w hl hE hq i hi x hx (by have := hl.files.len; have := hk.cntF; omega))
    obtain ⟨⟨nv, sv, ho, hn, hsu⟩, lo, hop⟩ := hl.files.each i x f hx hf
    obtain ⟨A, cp, rfl⟩ := Kd.R_slice hn
    have HN0 := Aside0.mk ((blk_cell ho 0).trans rfl : w.cell? ⟨x.1, 0, none⟩ = some (.slice A f.now.length cp))
    have hkf := hk.fil f (List.mem_of_getElem? hf)
    have c1 := hE.errs.var 1 (by simp [dErr])
    rw [gRange] at c1
    have HC1 := Aside0.mk (fun (U : World) (hb : Below w.heap.size w U) => (hb.cell (p := ⟨2, 0, none⟩) (World.block_lt_of_cell? w _ c1)).trans c1)
    have HL := Aside0.mk hl
    have hnl : (f.now.length : Int) ≤ 1073741824 := by have := hkf.nowL; omega
    by_cases h0 : n < 0
    · rw [if_pos (.inl h0)]
      simp only [errV_some]
      have t1 : decide (n < 0) = true := decide_eq_true h0
      clear hl hE hq hi hf hx hil ho hn hsu lo hop hkf c1 h0
      go_enter Tryd.func14, Tryd.ntmps14
      go_wp2_with (go_at_call 33; refine HF.out.mono ?_; rintro e w1 ⟨rfl, hb⟩; have HB1 := Aside0.mk hb; clear hb; have n1 := (HB1.out.cell (p := ⟨x.1, 0, none⟩) (World.block_lt_of_cell? w _ HN0.out)).trans HN0.out; have c1 := HC1.out _ HB1.out)
      go_ret
      exact ⟨rfl, ⟨_, _, _, _, _, HL.out.below HB1.out⟩, Turn.of_below HB1.out⟩
    · have t1 : decide (n < 0) = false := decide_eq_false h0
      by_cases h1 : (f.now.length : Int) < n
      · rw [if_pos (.inr h1)]
        simp only [errV_some]
        have t2 : decide ((f.now.length : Int) < n) = true := decide_eq_true h1
        clear hl hE hq hi hf hx hil ho hn hsu lo hop hkf c1 h0 h1
        go_enter Tryd.func14, Tryd.ntmps14
        go_wp2_with (go_at_call 33; refine HF.out.mono ?_; rintro e w1 ⟨rfl, hb⟩; have HB1 := Aside0.mk hb; clear hb; have n1 := (HB1.out.cell (p := ⟨x.1, 0, none⟩) (World.block_lt_of_cell? w _ HN0.out)).trans HN0.out; have c1 := HC1.out _ HB1.out)
        go_ret
        exact ⟨rfl, ⟨_, _, _, _, _, HL.out.below HB1.out⟩, Turn.of_below HB1.out⟩
      · rw [if_neg (fun e => e.elim h0 h1)]
        have t2 : decide ((f.now.length : Int) < n) = false := decide_eq_false h1
        obtain ⟨m, hm⟩ : ∃ m : Nat, n = m := ⟨n.toNat, by omega⟩
        subst hm
        rw [Int.toNat_natCast]
        have t3 : decide (f.now.length < m) = false := decide_eq_false (by omega)
        clear t1 t2
        have HCh := Aside0.mk (fun (U : World) (hb : Below w.heap.size w U) => changed_calls B p D L m1 m2 fv ov i x f ⟨m, [], true⟩ (.slice none 0 0) E U (hl.below hb) (hE.turn (Turn.of_below hb)) hx hf (Kd.R_nil _ _ _ _ _) hk hst (by simp only; omega) (by simp only [List.length_nil]; omega))
        obtain ⟨rs, hrs⟩ : ∃ rs, rs = changedD D i f ⟨m, [], true⟩ := ⟨_, rfl⟩
        rw [← hrs] at HCh ⊢
        clear hl hE hq hi hf hx hil ho hn hsu lo hop hkf c1 h0 h1 hrs HL HC1
        go_enter Tryd.func14, Tryd.ntmps14
        go_wp2_with (first
          | (go_at_call 33; refine HF.out.mono ?_; rintro e w1 ⟨rfl, hb⟩; have HB1 := Aside0.mk hb; clear hb; have n1 := (HB1.out.cell (p := ⟨x.1, 0, none⟩) (World.block_lt_of_cell? w _ HN0.out)).trans HN0.out)
          | (go_at_call 34; refine (HCh.out _ HB1.out).mono ?_; rintro e w2 ⟨rfl, hd, ht⟩; have HD2 := Aside0.mk hd; have HT2 := Aside0.mk ht; clear hd ht))
        go_ret
        exact ⟨rfl, HD2.out, (Turn.of_below HB1.out).trans HT2.out⟩
set_option maxRecDepth 100000 in
set_option maxHeartbeats 4000000 in
theorem write_calls (h : DiskAt B w p D) (hE : ErrAt B w E) (hk : D.Ok) (hst : D.steps ≤ 1000000000) (s : ByteArray) (hs : s.size < 9223372036854775807) (n : Int) (A0 : Option Addr) (c0 : Nat) (b : List Int) (hC : Kd.C kb w A0 b.length b) (hc0 : b.length ≤ c0) (hbl : b.length ≤ 1000000) :
    Calls Tryd.prog 50 #[.pointer (some ⟨p, 0, none⟩), .string s, .int .i64 n, .slice A0 b.length c0] w fun e w' => e = .returned (errV E (writeD D s n b).1) ∧ DiskAt B w' p (writeD D s n b).2 ∧ Turn B w w' := by
  obtain ⟨L, m1, m2, fv, ov, hl⟩ := h
  unfold writeD
  cases hq : fileE D s with
  | some c =>
    rw [fileOp_no hq]
    simp only [errV_some]
    have HF := Aside0.mk (file_no p D s hs E w hl hE c hq)
    rw [errV_some] at HF
    have HL := Aside0.mk hl
    clear hl hE hq
    go_enter Tryd.func50, Tryd.ntmps50
    go_wp2_with (go_at_call 33; refine HF.out.mono ?_; rintro e w1 ⟨rfl, hb⟩; have HB1 := Aside0.mk hb; clear hb)
    go_ret
    exact ⟨rfl, ⟨_, _, _, _, _, HL.out.below HB1.out⟩, Turn.of_below HB1.out⟩
  | none =>
    obtain ⟨i, f, hi, hf⟩ := file_at hk hq
    rw [fileOp_ok hq hi hf]
    have hil : i < L.length := by have := hl.files.len; have := (List.getElem?_eq_some_iff.1 hf).1; omega
    obtain ⟨x, hx⟩ : ∃ x, L[i]? = some x := ⟨_, List.getElem?_eq_getElem hil⟩
    have HF := Aside0.mk (file_ok p D s hs E w hl hE hq i hi x hx (by have := hl.files.len; have := hk.cntF; omega))
    obtain ⟨⟨nv, sv, ho, hn, hsu⟩, lo, hop⟩ := hl.files.each i x f hx hf
    obtain ⟨A, cp, rfl⟩ := Kd.R_slice hn
    have HN0 := Aside0.mk ((blk_cell ho 0).trans rfl : w.cell? ⟨x.1, 0, none⟩ = some (.slice A f.now.length cp))
    have hkf := hk.fil f (List.mem_of_getElem? hf)
    have c1 := hE.errs.var 1 (by simp [dErr])
    rw [gRange] at c1
    have HC1 := Aside0.mk (fun (U : World) (hb : Below w.heap.size w U) => (hb.cell (p := ⟨2, 0, none⟩) (World.block_lt_of_cell? w _ c1)).trans c1)
    have HL := Aside0.mk hl
    have hnl : (f.now.length : Int) ≤ 1073741824 := by have := hkf.nowL; omega
    by_cases h0 : n < 0
    · rw [if_pos (.inl h0)]
      simp only [errV_some]
      have t1 : decide (n < 0) = true := decide_eq_true h0
      clear hl hE hq hi hf hx hil ho hn hsu lo hop hkf c1 h0
      go_enter Tryd.func50, Tryd.ntmps50
      go_wp2_with (go_at_call 33; refine HF.out.mono ?_; rintro e w1 ⟨rfl, hb⟩; have HB1 := Aside0.mk hb; clear hb; have n1 := (HB1.out.cell (p := ⟨x.1, 0, none⟩) (World.block_lt_of_cell? w _ HN0.out)).trans HN0.out; have c1 := HC1.out _ HB1.out)
      go_ret
      exact ⟨rfl, ⟨_, _, _, _, _, HL.out.below HB1.out⟩, Turn.of_below HB1.out⟩
    · have t1 : decide (n < 0) = false := decide_eq_false h0
      by_cases h1 : (f.now.length : Int) < n
      · rw [if_pos (.inr h1)]
        simp only [errV_some]
        have t2 : decide ((f.now.length : Int) < n) = true := decide_eq_true h1
        clear hl hE hq hi hf hx hil ho hn hsu lo hop hkf c1 h0 h1
        go_enter Tryd.func50, Tryd.ntmps50
        go_wp2_with (go_at_call 33; refine HF.out.mono ?_; rintro e w1 ⟨rfl, hb⟩; have HB1 := Aside0.mk hb; clear hb; have n1 := (HB1.out.cell (p := ⟨x.1, 0, none⟩) (World.block_lt_of_cell? w _ HN0.out)).trans HN0.out; have c1 := HC1.out _ HB1.out)
        go_ret
        exact ⟨rfl, ⟨_, _, _, _, _, HL.out.below HB1.out⟩, Turn.of_below HB1.out⟩
      · rw [if_neg (fun e => e.elim h0 h1)]
        have t2 : decide ((f.now.length : Int) < n) = false := decide_eq_false h1
        obtain ⟨m, hm⟩ : ∃ m : Nat, n = m := ⟨n.toNat, by omega⟩
        subst hm
        rw [Int.toNat_natCast]
        have t3 : decide (f.now.length < m) = false := decide_eq_false (by omega)
        clear t1 t2
        have HCl := Aside0.mk (fun (U : World) (hb : Below w.heap.size w U) => slices_Clone_byte_byte.calls A0 c0 b b U (Kd.C_below hC hb) hc0 (if_pos (by omega)))
        have HCh := Aside0.mk (fun (U : World) (bv : Value) (hb : Below w.heap.size w U) (hbv : BytesAt B U bv b) => changed_calls B p D L m1 m2 fv ov i x f ⟨m, b, false⟩ bv E U (hl.below hb) (hE.turn (Turn.of_below hb)) hx hf hbv hk hst (by simp only; omega) (by simp only; omega))
        have HLO := Aside0.mk (show B ≤ w.heap.size by have := hl.lop; have := blk_lt hl.obj; omega)
        obtain ⟨rs, hrs⟩ : ∃ rs, rs = changedD D i f ⟨m, b, false⟩ := ⟨_, rfl⟩
        rw [← hrs] at HCh ⊢
        clear hl hE hq hi hf hx hil ho hn hsu lo hop hkf c1 h0 h1 hrs HL HC1 hC
        go_enter Tryd.func50, Tryd.ntmps50
        go_wp2_with (first
          | (go_at_call 33; refine HF.out.mono ?_; rintro e w1 ⟨rfl, hb⟩; have HB1 := Aside0.mk hb; clear hb; have n1 := (HB1.out.cell (p := ⟨x.1, 0, none⟩) (World.block_lt_of_cell? w _ HN0.out)).trans HN0.out)
          | (go_at_call 35; refine (HCl.out _ HB1.out).mono ?_; rintro e w2 ⟨v, rfl, hr, hb⟩; obtain ⟨Av, cpv, rfl⟩ := Kd.R_slice hr; have HB2 := Aside0.mk (HB1.out.trans (hb.mono HB1.out.size)); have HV2 := Aside0.mk (show BytesAt B w2 (.slice Av b.length cpv) b from Kd.R_lower hr (Nat.le_trans HLO.out HB1.out.size)); clear hr hb)
          | (go_at_call 34; refine (HCh.out _ _ HB2.out HV2.out).mono ?_; rintro e w3 ⟨rfl, hd, ht⟩; have HD3 := Aside0.mk hd; have HT3 := Aside0.mk ht; clear hd ht))
        go_ret
        exact ⟨rfl, HD3.out, (Turn.of_below HB2.out).trans HT3.out⟩
set_option maxRecDepth 100000 in
set_option maxHeartbeats 4000000 in
theorem remove_calls (h : DiskAt B w p D) (hE : ErrAt B w E) (hk : D.Ok) (hst : D.steps ≤ 1000000000) (s : ByteArray) (hs : s.size < 9223372036854775807)  :
    Calls Tryd.prog 53 #[.pointer (some ⟨p, 0, none⟩), .string s] w fun e w' => e = .returned (errV E (removeD D s).1) ∧ DiskAt B w' p (removeD D s).2 ∧ Turn B w w' := by
  obtain ⟨L, m1, m2, fv, ov, hl⟩ := h
  unfold removeD
  cases hq : fileE D s with
  | some c =>
    rw [fileOp_no hq]
    simp only [errV_some]
    have HF := Aside0.mk (file_no p D s hs E w hl hE c hq)
    rw [errV_some] at HF
    have HL := Aside0.mk hl
    clear hl hE hq
    go_enter Tryd.func53, Tryd.ntmps53
    go_wp2_with (go_at_call 33; refine HF.out.mono ?_; rintro e w1 ⟨rfl, hb⟩; have HB1 := Aside0.mk hb; clear hb)
    go_ret
    exact ⟨rfl, ⟨_, _, _, _, _, HL.out.below HB1.out⟩, Turn.of_below HB1.out⟩
  | none =>
    obtain ⟨i, f, hi, hf⟩ := file_at hk hq
    rw [fileOp_ok hq hi hf]
    have hil : i < L.length := by have := hl.files.len; have := (List.getElem?_eq_some_iff.1 hf).1; omega
    obtain ⟨x, hx⟩ : ∃ x, L[i]? = some x := ⟨_, List.getElem?_eq_getElem hil⟩
    have HF := Aside0.mk (file_ok p D s hs E w hl hE hq i hi x hx (by have := hl.files.len; have := hk.cntF; omega))
    obtain ⟨⟨nv, sv, ho, hn, hsu⟩, lo, hop⟩ := hl.files.each i x f hx hf
    obtain ⟨A, cp, rfl⟩ := Kd.R_slice hn
    have HN0 := Aside0.mk ((blk_cell ho 0).trans rfl : w.cell? ⟨x.1, 0, none⟩ = some (.slice A f.now.length cp))
    have hkf := hk.fil f (List.mem_of_getElem? hf)
    have hsz := (askD_none (fileE_none hq).1).1
    have HN := Aside0.mk (fun (U : World) (hb : Below w.heap.size w U) => named_calls B p D ⟨ByteArray.empty, s, -1⟩ E U (DiskAt.below ⟨_, _, _, _, _, hl⟩ hb) (hE.turn (Turn.of_below hb)) hk (by omega) (by simp only; decide) (by simp only; omega) (by simp only; omega) (by simp only; omega))
    obtain ⟨rs, hrs⟩ : ∃ rs, rs = namedD D ⟨ByteArray.empty, s, -1⟩ := ⟨_, rfl⟩
    rw [← hrs] at HN ⊢
    simp only [entV] at HN
    clear hl hE hq hi hf hx hil ho hn hsu lo hop hkf hrs HN0 hsz
    go_enter Tryd.func53, Tryd.ntmps53
    go_wp2_with (first
      | (go_at_call 33; refine HF.out.mono ?_; rintro e w1 ⟨rfl, hb⟩; have HB1 := Aside0.mk hb; clear hb)
      | (go_at_call 31; refine (HN.out _ HB1.out).mono ?_; rintro e w2 ⟨rfl, hd, ht⟩; have HD2 := Aside0.mk hd; have HT2 := Aside0.mk ht; clear hd ht))
    go_ret
    exact ⟨rfl, HD2.out, (Turn.of_below HB1.out).trans HT2.out⟩
end
end Go.Proofs.YtpcfnkmljchiiaaDoor.DOps
