/- Steps towards RBoth: DOps, DSyn, DShc. -/
import Derived.Test.YtpcfnkmljchiiaaGreatDoorZ10
import Derived.Shelf.SlMaps.Clone
import Derived.Shelf.SlGeneric
import Derived.Shelf.SlIter.AllValues
import Derived.Shelf.SlIterI.Collect
set_option linter.unusedVariables false
set_option linter.unusedSimpArgs false
section
/- Disk: Append, Write, Truncate, Remove, Read; the small ones. -/
namespace Go.Proofs.YtpcfnkmljchiiaaGreatDoor.DOps
open Go Go.RowKit Go.Maps Go.WideMaps Go.Proofs.YtpcfnkmljchiiaaGreatDoorW.PrintWords Go.Proofs.YtpcfnkmljchiiaaGreatDoorW.PrintLast DBase DPl DAt DEnt DNam Go.Proofs.YtpcfnkmljchiiaaGreatDoor.Is DFil DUsd DChg DCg DStp DCh2 DBy
theorem gRange : gOf 1 = 0 := by decide
/-! ### what calls answer, told plainly -/
def fileOp (D : Dsk) (s : ByteArray) (k : Nat → Fil → Option Int × Dsk) : Option Int × Dsk :=
  match fileE D s with
  | some c => (some c, D)
  | none => match D.files[(atN D.now s.data.toList).toNat]? with
    | some f => k (atN D.now s.data.toList).toNat f
    | none => (none, D)
def appendD (D : Dsk) (s : ByteArray) (b : List Int) : Option Int × Dsk := fileOp D s fun i f => changedD D i f ⟨f.now.length, b, false⟩
def truncD (D : Dsk) (s : ByteArray) (n : Int) : Option Int × Dsk := fileOp D s fun i f => if n < 0 ∨ (f.now.length : Int) < n then (some 1, D) else changedD D i f ⟨n.toNat, [], true⟩
def removeD (D : Dsk) (s : ByteArray) : Option Int × Dsk := fileOp D s fun _ _ => namedD D ⟨ByteArray.empty, s, -1⟩
def syncD (D : Dsk) (s : ByteArray) : Option Int × Dsk := fileOp D s fun i f => if D.armed = 0 then (some 8, offD D) else (none, setF (stepD D) i ⟨f.now, f.now, []⟩)
theorem fileOp_no {D : Dsk} {s : ByteArray} {c : Int} (h : fileE D s = some c) (k : Nat → Fil → Option Int × Dsk) : fileOp D s k = (some c, D) := by unfold fileOp; rw [h]
theorem fileOp_ok {D : Dsk} {s : ByteArray} {i : Nat} {f : Fil} (h : fileE D s = none) (hi : atN D.now s.data.toList = i) (hf : D.files[i]? = some f) (k : Nat → Fil → Option Int × Dsk) : fileOp D s k = k i f := by
  unfold fileOp
  rw [h, hi]
  simp only [Int.toNat_natCast, hf]
/-- The file of a name, where there is one. -/
theorem file_at {D : Dsk} (hk : D.Ok) {s : ByteArray} (h : fileE D s = none) : ∃ (i : Nat) (f : Fil), atN D.now s.data.toList = i ∧ D.files[i]? = some f := by
  obtain ⟨i, hi, hl⟩ := atN_lt hk (fileE_none h).2
  exact ⟨i, D.files[i], hi, List.getElem?_eq_getElem hl⟩
theorem fileE_in {D : Dsk} {s : ByteArray} {c : Int} (h : fileE D s = some c) : dErr c := by
  unfold fileE at h
  cases hq : askD D s with
  | some c0 => rw [hq] at h; cases h; exact askD_in D s _ hq
  | none =>
    rw [hq] at h
    simp only at h
    split at h
    · cases h
    · cases h; simp [dErr]
section
variable (B : Bx) (p : Nat) (D : Dsk) (E : Int → Addr) (w : World)
set_option maxRecDepth 100000 in
theorem off_calls (h : DiskAt B w p D) : Calls Tryz.prog 55 #[.pointer (some ⟨p, 0, none⟩)] w fun e w' => e = .returned (.bool D.off) ∧ w' = w := by
  obtain ⟨L, m1, m2, fv, ov, hl⟩ := h
  have c := (blk_cell hl.obj 6).trans rfl
  clear hl
  go_enter Tryz.func55, Tryz.ntmps55
  go_wp2
  go_ret
  exact ⟨rfl, rfl⟩
set_option maxRecDepth 100000 in
theorem quota_calls (h : DiskAt B w p D) : Calls Tryz.prog 54 #[.pointer (some ⟨p, 0, none⟩)] w fun e w' => e = .returned (.int .i64 D.quota) ∧ w' = w := by
  obtain ⟨L, m1, m2, fv, ov, hl⟩ := h
  have c := (blk_cell hl.obj 4).trans rfl
  clear hl
  go_enter Tryz.func54, Tryz.ntmps54
  go_wp2
  go_ret
  exact ⟨rfl, rfl⟩
set_option maxRecDepth 100000 in
theorem arm_calls (h : DiskAt B w p D) (n : Int) : Calls Tryz.prog 32 #[.pointer (some ⟨p, 0, none⟩), .int .i64 n] w fun e w' => e = .returned (.tuple #[]) ∧ DiskAt B w' p { D with armed := max n (-1) } ∧ Turn B w w' := by
  obtain ⟨L, m1, m2, fv, ov, hl⟩ := h
  have c5 : w.cell? ⟨p, 5, none⟩ = some (.int .i64 D.armed) := (blk_cell hl.obj 5).trans rfl
  have f5 : w.frozen? ⟨p, 5, none⟩ = false := blk_frozen hl.obj 5
  have HL := Aside0.mk hl
  clear hl
  by_cases hn : n < -1
  · have t1 : decide (n < -1) = true := decide_eq_true hn
    have HE := Aside0.mk (show max n (-1) = -1 by omega)
    go_enter Tryz.func32, Tryz.ntmps32
    go_wp2
    go_end0
    rw [HE.out]
    exact ⟨rfl, ⟨_, _, _, _, _, HL.out.reobj (w' := w.setCell ⟨p, 5, none⟩ (.int .i64 (-1))) D.quota (-1) D.off D.steps (blk_put HL.out.obj 5 _ rfl) (But.setCell w ⟨p, 5, none⟩ _)⟩, (Turn.refl B w).setCell HL.out.obj rfl HL.out.lop 5 _⟩
  · have t1 : decide (n < -1) = false := decide_eq_false hn
    have HE := Aside0.mk (show max n (-1) = n by omega)
    go_enter Tryz.func32, Tryz.ntmps32
    go_wp2
    go_end0
    rw [HE.out]
    exact ⟨rfl, ⟨_, _, _, _, _, HL.out.reobj (w' := w.setCell ⟨p, 5, none⟩ (.int .i64 n)) D.quota n D.off D.steps (blk_put HL.out.obj 5 _ rfl) (But.setCell w ⟨p, 5, none⟩ _)⟩, (Turn.refl B w).setCell HL.out.obj rfl HL.out.lop 5 _⟩
def setQuotaD (D : Dsk) (n : Int) : Option Int × Dsk := if n < 0 ∨ 1073741824 < n then (some 1, D) else (none, { D with quota := n })
set_option maxRecDepth 100000 in
theorem setQuota_calls (h : DiskAt B w p D) (hE : ErrAt B w E) (n : Int) : Calls Tryz.prog 37 #[.pointer (some ⟨p, 0, none⟩), .int .i64 n] w fun e w' => e = .returned (errV E (setQuotaD D n).1) ∧ DiskAt B w' p (setQuotaD D n).2 ∧ Turn B w w' := by
  obtain ⟨L, m1, m2, fv, ov, hl⟩ := h
  have c4 : w.cell? ⟨p, 4, none⟩ = some (.int .i64 D.quota) := (blk_cell hl.obj 4).trans rfl
  have f4 : w.frozen? ⟨p, 4, none⟩ = false := blk_frozen hl.obj 4
  have c1 := hE.errs.var 1 (by simp [dErr])
  rw [gRange] at c1
  have HL := Aside0.mk hl
  clear hl hE
  by_cases h0 : n < 0
  · have e : setQuotaD D n = (some 1, D) := if_pos (.inl h0)
    rw [e]
    have t1 : decide (n < 0) = true := decide_eq_true h0
    clear e
    go_enter Tryz.func37, Tryz.ntmps37
    go_wp2
    go_ret
    exact ⟨rfl, ⟨_, _, _, _, _, HL.out⟩, Turn.refl B w⟩
  · have t1 : decide (n < 0) = false := decide_eq_false h0
    by_cases h1 : 1073741824 < n
    · have e : setQuotaD D n = (some 1, D) := if_pos (.inr h1)
      rw [e]
      have t2 : decide (1073741824 < n) = true := decide_eq_true h1
      clear e
      go_enter Tryz.func37, Tryz.ntmps37
      go_wp2
      go_ret
      exact ⟨rfl, ⟨_, _, _, _, _, HL.out⟩, Turn.refl B w⟩
    · have e : setQuotaD D n = (none, { D with quota := n }) := if_neg (by omega)
      rw [e]
      have t2 : decide (1073741824 < n) = false := decide_eq_false h1
      clear e
      go_enter Tryz.func37, Tryz.ntmps37
      go_wp2
      go_ret
      exact ⟨rfl, ⟨_, _, _, _, _, HL.out.reobj (w' := w.setCell ⟨p, 4, none⟩ (.int .i64 n)) n D.armed D.off D.steps (blk_put HL.out.obj 4 _ rfl) (But.setCell w ⟨p, 4, none⟩ _)⟩, (Turn.refl B w).setCell HL.out.obj rfl HL.out.lop 4 _⟩
set_option maxRecDepth 100000 in
set_option maxHeartbeats 4000000 in
theorem append_calls (h : DiskAt B w p D) (hE : ErrAt B w E) (hk : D.Ok) (hst : D.steps ≤ 1000000000) (s : ByteArray) (hs : s.size < 9223372036854775807) (A0 : Option Addr) (c0 : Nat) (b : List Int) (hC : Kd.C kb w A0 b.length b) (hc0 : b.length ≤ c0) (hbl : b.length ≤ 1000000) :
    Calls Tryz.prog 36 #[.pointer (some ⟨p, 0, none⟩), .string s, .slice A0 b.length c0] w fun e w' => e = .returned (errV E (appendD D s b).1) ∧ DiskAt B w' p (appendD D s b).2 ∧ Turn B w w' := by
  obtain ⟨L, m1, m2, fv, ov, hl⟩ := h
  unfold appendD
  cases hq : fileE D s with
  | some c =>
    rw [fileOp_no hq]
    simp only [errV_some]
    have HF := Aside0.mk (file_no p D s hs E w hl hE c hq)
    rw [errV_some] at HF
    have HL := Aside0.mk hl
    clear hl hE hq
    go_enter Tryz.func36, Tryz.ntmps36
    go_wp2_with (go_at_call 62; refine HF.out.mono ?_; rintro e w1 ⟨rfl, hb⟩; have HB1 := Aside0.mk hb; clear hb)
    go_ret
    exact ⟨rfl, ⟨_, _, _, _, _, HL.out.below HB1.out⟩, Turn.of_below HB1.out⟩
  | none =>
    obtain ⟨i, f, hi, hf⟩ := file_at hk hq
    rw [fileOp_ok hq hi hf]
    have hil : i < L.length := by have := hl.files.len; have := (List.getElem?_eq_some_iff.1 hf).1; omega
    obtain ⟨x, hx⟩ : ∃ x, L[i]? = some x := ⟨_, List.getElem?_eq_getElem hil⟩
    have HF := Aside0.mk (file_ok p D s hs E w hl hE hq i hi x hx (by have := hl.files.len; have := hk.cntF; omega))
    obtain ⟨⟨nv, sv, ho, hn, hsu⟩, lo, hop⟩ := hl.files.each i x f hx hf
    obtain ⟨A, cp, rfl⟩ := Kd.R_slice hn
    have HN0 := Aside0.mk ((blk_cell ho 0).trans rfl : w.cell? ⟨x.1, 0, none⟩ = some (.slice A f.now.length cp))
    have hkf := hk.fil f (List.mem_of_getElem? hf)
    have HCl := Aside0.mk (fun (U : World) (hb : Below w.heap.size w U) => slices_Clone_byte_byte.calls A0 c0 b b U (Kd.C_below hC hb) hc0 (if_pos (by omega)))
    have HCh := Aside0.mk (fun (U : World) (bv : Value) (hb : Below w.heap.size w U) (hbv : BytesAt B U bv b) => changed_calls B p D L m1 m2 fv ov i x f ⟨f.now.length, b, false⟩ bv E U (hl.below hb) (hE.turn (Turn.of_below hb)) hx hf hbv hk hst (Nat.le_refl _) (by simp only; have := hkf.nowL; omega))
    have HLO := Aside0.mk (show B.n ≤ w.heap.size ∧ B.q < w.heap.size by have := hl.lop; have := blk_lt hl.obj; exact ⟨by omega, hl.lt⟩)
    obtain ⟨rs, hrs⟩ : ∃ rs, rs = changedD D i f ⟨f.now.length, b, false⟩ := ⟨_, rfl⟩
    rw [← hrs] at HCh ⊢
    clear hl hE hq hi hf hx hil hC ho hn hsu lo hop hkf hrs
    go_enter Tryz.func36, Tryz.ntmps36
    go_wp2_with (go_at_call 62; refine HF.out.mono ?_; rintro e w1 ⟨rfl, hb⟩; have HB1 := Aside0.mk hb; clear hb)
    have n1 := (HB1.out.cell (p := ⟨x.1, 0, none⟩) (World.block_lt_of_cell? w _ HN0.out)).trans HN0.out
    refine start_ (n := 12) (S := fun w' => w'.cell? ⟨x.1, 0, none⟩ = some (.slice A f.now.length cp)) (ds := [10]) #[ff,ff,ff,ff,ff,ff,ff,ff,ff,ff,ff,ff] (by kernel_rfl) rfl rfl (n1) (fun hHeld => ?_)
    have HB2 := Aside0.mk HB1.out.drew
    generalize w1.drew = w2 at HB2 hHeld ⊢
    refine pure_ (i := 0) (N := some 18) (v := ?_) (a' := ?_) #[tt,ff,ff,ff,ff,ff,ff,ff,ff,ff,ff,ff] rfl rfl (by kernel_rfl) (fun _ _ _ h => h) (Or.inl ⟨by rfl, ?_⟩) ?_ ?_
    rotate_left
    · intro w'
      go_simp
      with_reducible rfl
    rotate_left
    · simp only [Act.put, pkA, pkB, pkC, i64_w, i32_w]
      rfl
    refine pure_ (i := 1) (N := some 19) (v := ?_) (a' := ?_) #[tt,tt,ff,ff,ff,ff,ff,ff,ff,ff,ff,ff] rfl rfl (by kernel_rfl) (fun _ _ _ h => h) (Or.inl ⟨by rfl, ?_⟩) ?_ ?_
    rotate_left
    · intro w'
      go_simp
      with_reducible rfl
    rotate_left
    · simp only [Act.put, pkA, pkB, pkC, i64_w, i32_w]
      rfl
    refine pure_ (i := 2) (N := some 20) (v := ?_) (a' := ?_) #[tt,tt,tt,ff,ff,ff,ff,ff,ff,ff,ff,ff] rfl rfl (by kernel_rfl) (fun _ _ _ h => h) (Or.inl ⟨by rfl, ?_⟩) ?_ ?_
    rotate_left
    · intro w'
      go_simp
      with_reducible rfl
    rotate_left
    · simp only [Act.put, pkA, pkB, pkC, i64_w, i32_w]
      rfl
    refine pure_ (i := 3) (N := some 21) (v := ?_) (a' := ?_) #[tt,tt,tt,tt,ff,ff,ff,ff,ff,ff,ff,ff] rfl rfl (by kernel_rfl) (fun _ _ _ h => h) (Or.inl ⟨by rfl, ?_⟩) ?_ ?_
    rotate_left
    · intro w'
      go_simp
      with_reducible rfl
    rotate_left
    · simp only [Act.put, pkA, pkB, pkC, i64_w, i32_w]
      rfl
    refine pure_ (i := 4) (N := some 22) (v := ?_) (a' := ?_) #[tt,tt,tt,tt,tt,ff,ff,ff,ff,ff,ff,ff] rfl rfl (by kernel_rfl) (fun _ _ _ h => h) (Or.inl ⟨by rfl, ?_⟩) ?_ ?_
    rotate_left
    · intro w'
      go_simp
      with_reducible rfl
    rotate_left
    · simp only [Act.put, pkA, pkB, pkC, i64_w, i32_w]
      rfl
    refine pure_ (i := 7) (N := some 25) (v := ?_) (a' := ?_) #[tt,tt,tt,tt,tt,ff,ff,tt,ff,ff,ff,ff] rfl rfl (by kernel_rfl) (fun _ _ _ h => h) (Or.inl ⟨by rfl, ?_⟩) ?_ ?_
    rotate_left
    · intro w'
      go_simp
      with_reducible rfl
    rotate_left
    · simp only [Act.put, pkA, pkB, pkC, i64_w, i32_w]
      rfl
    refine take_ (i := 5) (N := some 23) (v := ?_) (a' := ?_) #[tt,tt,tt,tt,tt,tt,ff,tt,ff,ff,ff,ff] rfl rfl (by kernel_rfl) (fun _ _ _ h => h) (Or.inl ⟨by rfl, ?_⟩) hHeld ?_ ?_
    rotate_left
    · intro w' s0
      go_simp
      with_reducible rfl
    rotate_left
    · simp only [Act.put, pkA, pkB, pkC, i64_w, i32_w]
      rfl
    refine pure_ (i := 6) (N := some 24) (v := ?_) (a' := ?_) #[tt,tt,tt,tt,tt,tt,tt,tt,ff,ff,ff,ff] rfl rfl (by kernel_rfl) (fun _ _ _ h => h) (Or.inl ⟨by rfl, ?_⟩) ?_ ?_
    rotate_left
    · intro w'
      go_simp
      with_reducible rfl
    rotate_left
    · simp only [Act.put, pkA, pkB, pkC, i64_w, i32_w]
      rfl
    refine one_ (i := 8) (N := some 26) #[tt,tt,tt,tt,tt,tt,tt,tt,tt,ff,ff,ff] rfl rfl (by kernel_rfl) (by decide) (fun K hK => ?_)
    refine goes_ Tryz.func63 (by kernel_rfl) rfl #[.slice A0 b.length c0] (by rfl) rfl rfl (by simp only [List.map_toArray, List.map_cons, List.map_nil]; rfl) ?_
    with_reducible refine (HCl.out w2 HB2.out).mono ?_
    rintro e w3 ⟨v, rfl, hr, hb⟩
    refine ⟨_, rfl, ?_⟩
    obtain ⟨Av, cpv, rfl⟩ := Kd.R_slice hr
    have HB3 := Aside0.mk (HB2.out.trans (hb.mono HB2.out.size))
    have HV3 := Aside0.mk (show BytesAt B w3 (.slice Av b.length cpv) b from BytesAt.lower hr (Nat.le_trans HLO.out.1 HB2.out.size) (Nat.lt_of_lt_of_le HLO.out.2 HB2.out.size))
    have n3 := (hb.cell (p := ⟨x.1, 0, none⟩) (World.block_lt_of_cell? w2 _ hHeld)).trans hHeld
    clear hr hb
    refine hK.out _ _ (n3) (fun hHeld => ?_)
    clear hK K
    refine norm_ (a' := ?_) ?_ ?_
    rotate_left
    · show Act.put _ (some 26) _ = _
      simp only [Act.put, pkA, pkB, pkC, i64_w, i32_w]
      rfl
    refine pure_ (i := 9) (N := some 27) (v := ?_) (a' := ?_) #[tt,tt,tt,tt,tt,tt,tt,tt,tt,tt,ff,ff] rfl rfl (by kernel_rfl) (fun _ _ _ h => h) (Or.inl ⟨by rfl, ?_⟩) ?_ ?_
    rotate_left
    · intro w'
      go_simp
      with_reducible rfl
    rotate_left
    · simp only [Act.put, pkA, pkB, pkC, i64_w, i32_w]
      rfl
    refine last_ (i := 10) (N := some 28) #[tt,tt,tt,tt,tt,tt,tt,tt,tt,tt,tt,ff] rfl rfl (by kernel_rfl) (by decide) (fun K hK => ?_)
    refine goes_ Tryz.func94 (by kernel_rfl) rfl #[.pointer (some ⟨p, 0, none⟩), .pointer (some ⟨x.1, 0, none⟩), .agg #[.int .i64 (f.now.length : Int), .slice Av b.length cpv, .bool false]] (by rfl) rfl rfl (by simp only [List.map_toArray, List.map_cons, List.map_nil]; rfl) ?_
    with_reducible refine (HCh.out w3 _ HB3.out HV3.out).mono ?_
    rintro e w4 ⟨rfl, hd, ht⟩
    refine ⟨_, rfl, ?_⟩
    have HD4 := Aside0.mk hd
    have HT4 := Aside0.mk ht
    clear hd ht
    refine hK.out _ _ ?_
    clear hK K
    refine norm_ (a' := ?_) ?_ ?_
    rotate_left
    · show Act.put _ (some 28) _ = _
      simp only [Act.put, pkA, pkB, pkC, i64_w, i32_w]
      rfl
    refine pure_ (i := 11) (N := some 6) (v := ?_) (a' := ?_) #[tt,tt,tt,tt,tt,tt,tt,tt,tt,tt,tt,tt] rfl rfl (by kernel_rfl) (fun _ _ _ h => h) (Or.inl ⟨by rfl, ?_⟩) ?_ ?_
    rotate_left
    · intro w'
      go_simp
      with_reducible rfl
    rotate_left
    · simp only [Act.put, pkA, pkB, pkC, i64_w, i32_w]
      rfl
    refine done_ (by kernel_rfl) ?_
    go_wp2
    go_ret
    exact ⟨rfl, HD4.out, (Turn.of_below HB3.out).trans HT4.out⟩
set_option maxRecDepth 100000 in
set_option maxHeartbeats 4000000 in
theorem trunc_calls (h : DiskAt B w p D) (hE : ErrAt B w E) (hk : D.Ok) (hst : D.steps ≤ 1000000000) (s : ByteArray) (hs : s.size < 9223372036854775807) (n : Int) :
    Calls Tryz.prog 41 #[.pointer (some ⟨p, 0, none⟩), .string s, .int .i64 n] w fun e w' => e = .returned (errV E (truncD D s n).1) ∧ DiskAt B w' p (truncD D s n).2 ∧ Turn B w w' := by
  obtain ⟨L, m1, m2, fv, ov, hl⟩ := h
  unfold truncD
  cases hq : fileE D s with
  | some c =>
    rw [fileOp_no hq]
    simp only [errV_some]
    have HF := Aside0.mk (file_no p D s hs E w hl hE c hq)
    rw [errV_some] at HF
    have HL := Aside0.mk hl
    clear hl hE hq
    go_enter Tryz.func41, Tryz.ntmps41
    go_wp2_with (go_at_call 62; refine HF.out.mono ?_; rintro e w1 ⟨rfl, hb⟩; have HB1 := Aside0.mk hb; clear hb)
    go_ret
    exact ⟨rfl, ⟨_, _, _, _, _, HL.out.below HB1.out⟩, Turn.of_below HB1.out⟩
  | none =>
    obtain ⟨i, f, hi, hf⟩ := file_at hk hq
    rw [fileOp_ok hq hi hf]
    have hil : i < L.length := by have := hl.files.len; have := (List.getElem?_eq_some_iff.1 hf).1; omega
    obtain ⟨x, hx⟩ : ∃ x, L[i]? = some x := ⟨_, List.getElem?_eq_getElem hil⟩
    have HF := Aside0.mk (file_ok p D s hs E w hl hE hq i hi x hx (by have := hl.files.len; have := hk.cntF; omega))
    obtain ⟨⟨nv, sv, ho, hn, hsu⟩, lo, hop⟩ := hl.files.each i x f hx hf
    obtain ⟨A, cp, rfl⟩ := Kd.R_slice hn
    have HN0 := Aside0.mk ((blk_cell ho 0).trans rfl : w.cell? ⟨x.1, 0, none⟩ = some (.slice A f.now.length cp))
    have hkf := hk.fil f (List.mem_of_getElem? hf)
    have c1 := hE.errs.var 1 (by simp [dErr])
    rw [gRange] at c1
    have HC1 := Aside0.mk (fun (U : World) (hb : Below w.heap.size w U) => (hb.cell (p := ⟨0, 0, none⟩) (World.block_lt_of_cell? w _ c1)).trans c1)
    have HL := Aside0.mk hl
    have hnl : (f.now.length : Int) ≤ 1073741824 := by have := hkf.nowL; omega
    by_cases h0 : n < 0
    · rw [if_pos (.inl h0)]
      simp only [errV_some]
      have t1 : decide (n < 0) = true := decide_eq_true h0
      clear hl hE hq hi hf hx hil ho hn hsu lo hop hkf c1 h0
      go_enter Tryz.func41, Tryz.ntmps41
      go_wp2_with (go_at_call 62; refine HF.out.mono ?_; rintro e w1 ⟨rfl, hb⟩; have HB1 := Aside0.mk hb; clear hb; have n1 := (HB1.out.cell (p := ⟨x.1, 0, none⟩) (World.block_lt_of_cell? w _ HN0.out)).trans HN0.out; have c1 := HC1.out _ HB1.out)
      go_ret
      exact ⟨rfl, ⟨_, _, _, _, _, HL.out.below HB1.out⟩, Turn.of_below HB1.out⟩
    · have t1 : decide (n < 0) = false := decide_eq_false h0
      by_cases h1 : (f.now.length : Int) < n
      · rw [if_pos (.inr h1)]
        simp only [errV_some]
        have t2 : decide ((f.now.length : Int) < n) = true := decide_eq_true h1
        clear hl hE hq hi hf hx hil ho hn hsu lo hop hkf c1 h0 h1
        go_enter Tryz.func41, Tryz.ntmps41
        go_wp2_with (go_at_call 62; refine HF.out.mono ?_; rintro e w1 ⟨rfl, hb⟩; have HB1 := Aside0.mk hb; clear hb; have n1 := (HB1.out.cell (p := ⟨x.1, 0, none⟩) (World.block_lt_of_cell? w _ HN0.out)).trans HN0.out; have c1 := HC1.out _ HB1.out)
        go_ret
        exact ⟨rfl, ⟨_, _, _, _, _, HL.out.below HB1.out⟩, Turn.of_below HB1.out⟩
      · rw [if_neg (fun e => e.elim h0 h1)]
        have t2 : decide ((f.now.length : Int) < n) = false := decide_eq_false h1
        obtain ⟨m, hm⟩ : ∃ m : Nat, n = m := ⟨n.toNat, by omega⟩
        subst hm
        rw [Int.toNat_natCast]
        have t3 : decide (f.now.length < m) = false := decide_eq_false (by omega)
        clear t1 t2
        have HCh := Aside0.mk (fun (U : World) (hb : Below w.heap.size w U) => changed_calls B p D L m1 m2 fv ov i x f ⟨m, [], true⟩ (.slice none 0 0) E U (hl.below hb) (hE.turn (Turn.of_below hb)) hx hf (Kd.R_nil _ _ _ _ _) hk hst (by simp only; omega) (by simp only [List.length_nil]; omega))
        obtain ⟨rs, hrs⟩ : ∃ rs, rs = changedD D i f ⟨m, [], true⟩ := ⟨_, rfl⟩
        rw [← hrs] at HCh ⊢
        clear hl hE hq hi hf hx hil ho hn hsu lo hop hkf c1 h0 h1 hrs HL HC1
        go_enter Tryz.func41, Tryz.ntmps41
        go_wp2_with (first
          | (go_at_call 62; refine HF.out.mono ?_; rintro e w1 ⟨rfl, hb⟩; have HB1 := Aside0.mk hb; clear hb; have n1 := (HB1.out.cell (p := ⟨x.1, 0, none⟩) (World.block_lt_of_cell? w _ HN0.out)).trans HN0.out)
          | (go_at_call 94; refine (HCh.out _ HB1.out).mono ?_; rintro e w2 ⟨rfl, hd, ht⟩; have HD2 := Aside0.mk hd; have HT2 := Aside0.mk ht; clear hd ht))
        go_ret
        exact ⟨rfl, HD2.out, (Turn.of_below HB1.out).trans HT2.out⟩
set_option maxRecDepth 100000 in
set_option maxHeartbeats 4000000 in
theorem remove_calls (h : DiskAt B w p D) (hE : ErrAt B w E) (hk : D.Ok) (hst : D.steps ≤ 1000000000) (s : ByteArray) (hs : s.size < 9223372036854775807)  :
    Calls Tryz.prog 44 #[.pointer (some ⟨p, 0, none⟩), .string s] w fun e w' => e = .returned (errV E (removeD D s).1) ∧ DiskAt B w' p (removeD D s).2 ∧ Turn B w w' := by
  obtain ⟨L, m1, m2, fv, ov, hl⟩ := h
  unfold removeD
  cases hq : fileE D s with
  | some c =>
    rw [fileOp_no hq]
    simp only [errV_some]
    have HF := Aside0.mk (file_no p D s hs E w hl hE c hq)
    rw [errV_some] at HF
    have HL := Aside0.mk hl
    clear hl hE hq
    go_enter Tryz.func44, Tryz.ntmps44
    go_wp2_with (go_at_call 62; refine HF.out.mono ?_; rintro e w1 ⟨rfl, hb⟩; have HB1 := Aside0.mk hb; clear hb)
    go_ret
    exact ⟨rfl, ⟨_, _, _, _, _, HL.out.below HB1.out⟩, Turn.of_below HB1.out⟩
  | none =>
    obtain ⟨i, f, hi, hf⟩ := file_at hk hq
    rw [fileOp_ok hq hi hf]
    have hil : i < L.length := by have := hl.files.len; have := (List.getElem?_eq_some_iff.1 hf).1; omega
    obtain ⟨x, hx⟩ : ∃ x, L[i]? = some x := ⟨_, List.getElem?_eq_getElem hil⟩
    have HF := Aside0.mk (file_ok p D s hs E w hl hE hq i hi x hx (by have := hl.files.len; have := hk.cntF; omega))
    obtain ⟨⟨nv, sv, ho, hn, hsu⟩, lo, hop⟩ := hl.files.each i x f hx hf
    obtain ⟨A, cp, rfl⟩ := Kd.R_slice hn
    have HN0 := Aside0.mk ((blk_cell ho 0).trans rfl : w.cell? ⟨x.1, 0, none⟩ = some (.slice A f.now.length cp))
    have hkf := hk.fil f (List.mem_of_getElem? hf)
    have hsz := (askD_none (fileE_none hq).1).1
    have HN := Aside0.mk (fun (U : World) (hb : Below w.heap.size w U) => named_calls B p D ⟨ByteArray.empty, s, -1⟩ E U (DiskAt.below ⟨_, _, _, _, _, hl⟩ hb) (hE.turn (Turn.of_below hb)) hk (by omega) (by simp only; decide) (by simp only; omega) (by simp only; omega) (by simp only; omega))
    obtain ⟨rs, hrs⟩ : ∃ rs, rs = namedD D ⟨ByteArray.empty, s, -1⟩ := ⟨_, rfl⟩
    rw [← hrs] at HN ⊢
    simp only [entV] at HN
    clear hl hE hq hi hf hx hil ho hn hsu lo hop hkf hrs HN0 hsz
    go_enter Tryz.func44, Tryz.ntmps44
    go_wp2_with (first
      | (go_at_call 62; refine HF.out.mono ?_; rintro e w1 ⟨rfl, hb⟩; have HB1 := Aside0.mk hb; clear hb)
      | (go_at_call 91; refine (HN.out _ HB1.out).mono ?_; rintro e w2 ⟨rfl, hd, ht⟩; have HD2 := Aside0.mk hd; have HT2 := Aside0.mk ht; clear hd ht))
    go_ret
    exact ⟨rfl, HD2.out, (Turn.of_below HB1.out).trans HT2.out⟩
end
end Go.Proofs.YtpcfnkmljchiiaaGreatDoor.DOps
end
section
/- Disk: Read, Sync, SyncDir. -/
namespace Go.Proofs.YtpcfnkmljchiiaaGreatDoor.DSyn
open Go Go.RowKit Go.Maps Go.WideMaps Go.Proofs.YtpcfnkmljchiiaaGreatDoorW.PrintWords Go.Proofs.YtpcfnkmljchiiaaGreatDoorW.PrintLast DBase DPl DAt DEnt DNam Go.Proofs.YtpcfnkmljchiiaaGreatDoor.Is DFil DUsd DChg DCg DStp DCh2 DBy DOps
section
variable (B : Bx) (p : Nat) (D : Dsk) (E : Int → Addr) (w : World)
/-- A file's bytes. -/
def readD (D : Dsk) (s : ByteArray) : List Int := match D.files[(atN D.now s.data.toList).toNat]? with | some f => f.now | none => []
set_option maxRecDepth 100000 in
set_option maxHeartbeats 4000000 in
theorem read_no (h : DiskAt B w p D) (hE : ErrAt B w E) (s : ByteArray) (hs : s.size < 9223372036854775807) (c : Int) (hq : fileE D s = some c) :
    Calls Tryz.prog 13 #[.pointer (some ⟨p, 0, none⟩), .string s] w fun e w' => e = .returned (.tuple #[.slice none 0 0, errV E (some c)]) ∧ Below w.heap.size w w' := by
  obtain ⟨L, m1, m2, fv, ov, hl⟩ := h
  have HF := Aside0.mk (file_no p D s hs E w hl hE c hq)
  rw [errV_some] at HF ⊢
  clear hl hE hq
  go_enter Tryz.func13, Tryz.ntmps13
  go_wp2_with (go_at_call 62; refine HF.out.mono ?_; rintro e w1 ⟨rfl, hb⟩; have HB1 := Aside0.mk hb; clear hb)
  go_ret2
  exact ⟨rfl, HB1.out⟩
set_option maxRecDepth 100000 in
set_option maxHeartbeats 4000000 in
theorem read_ok (h : DiskAt B w p D) (hE : ErrAt B w E) (hk : D.Ok) (hst : D.steps ≤ 1000000000) (s : ByteArray) (hs : s.size < 9223372036854775807) (hq : fileE D s = none) :
    Calls Tryz.prog 13 #[.pointer (some ⟨p, 0, none⟩), .string s] w fun e w' => ∃ v, e = .returned (.tuple #[v, .nilIface]) ∧ Kd.R kb 5 w' w.heap.size (fun _ => True) v (readD D s) ∧ Below w.heap.size w w' := by
  obtain ⟨L, m1, m2, fv, ov, hl⟩ := h
  obtain ⟨i, f, hi, hf⟩ := file_at hk hq
  have hr : readD D s = f.now := by unfold readD; rw [hi]; simp only [Int.toNat_natCast, hf]
  rw [hr]
  have hil : i < L.length := by have := hl.files.len; have := (List.getElem?_eq_some_iff.1 hf).1; omega
  obtain ⟨x, hx⟩ : ∃ x, L[i]? = some x := ⟨_, List.getElem?_eq_getElem hil⟩
  have HF := Aside0.mk (file_ok p D s hs E w hl hE hq i hi x hx (by have := hl.files.len; have := hk.cntF; omega))
  obtain ⟨⟨nv, sv, ho, hn, hsu⟩, lo, hop⟩ := hl.files.each i x f hx hf
  obtain ⟨A, cp, rfl, h1, h2⟩ := Kd.R_reads hn
  have HN0 := Aside0.mk ((blk_cell ho 0).trans rfl : w.cell? ⟨x.1, 0, none⟩ = some (.slice A f.now.length cp))
  have hkf := hk.fil f (List.mem_of_getElem? hf)
  have HCl := Aside0.mk (fun (U : World) (hb : Below w.heap.size w U) => slices_Clone_byte_byte.calls A cp f.now f.now U (Kd.C_below h2 hb) h1 (if_pos (by have := hkf.nowL; omega)))
  clear hl hE hq hi hf hx hil ho hn hsu lo hop hkf h1 h2 hr
  go_enter Tryz.func13, Tryz.ntmps13
  go_wp2_with (first
    | (go_at_call 62; refine HF.out.mono ?_; rintro e w1 ⟨rfl, hb⟩; have HB1 := Aside0.mk hb; clear hb; have n1 := (HB1.out.cell (p := ⟨x.1, 0, none⟩) (World.block_lt_of_cell? w _ HN0.out)).trans HN0.out)
    | (go_at_call 63; refine (HCl.out w1 HB1.out).mono ?_; rintro e w3 ⟨v, rfl, hr, hb⟩; have HB3 := Aside0.mk (HB1.out.trans (hb.mono HB1.out.size)); have HV3 := Aside0.mk (Kd.R_lower hr HB1.out.size); clear hr hb))
  go_ret2
  exact ⟨_, rfl, HV3.out, HB3.out⟩
/-! ### Sync -/
set_option maxRecDepth 100000 in
set_option maxHeartbeats 4000000 in
theorem sync1 (L : List (Nat × Value)) (m1 m2 : Nat) (fv ov : Value) (ga i : Nat) (x : Nat × Value) (f : Fil) (h : Lies B w p D L m1 m2 fv ov) (hx : L[i]? = some x) (hf : D.files[i]? = some f) (ca : w.cell? ⟨ga, 0, none⟩ = some (.pointer (some ⟨x.1, 0, none⟩))) (n1 : ga ≠ x.1) :
    Calls Tryz.prog 103 #[.pointer (some ⟨ga, 0, none⟩)] w fun en w' => en = .returned (.tuple #[]) ∧ ((∃ rv, Lies B w' p (setF D i ⟨f.now, f.now, []⟩) (L.set i (x.1, rv)) m1 m2 fv ov) ∧ Turn B w w') := by
  obtain ⟨⟨nv, sv, ho, hn, hsu⟩, lo, hop⟩ := h.files.each i x f hx hf
  obtain ⟨A, cp, rfl⟩ := Kd.R_slice hn
  have e0 : w.cell? ⟨x.1, 0, none⟩ = some (.slice A f.now.length cp) := (blk_cell ho 0).trans rfl
  have HL := Aside0.mk h
  have HO := Aside0.mk ho
  have HN := Aside0.mk hn
  clear h ho hn hsu hop
  go_enter Tryz.func103, Tryz.ntmps103
  go_wp2
  refine start_ (n := 12) (S := fun w' => w'.cell? ⟨ga, 0, none⟩ = some (.pointer (some ⟨x.1, 0, none⟩)) ∧ w'.cell? ⟨x.1, 0, none⟩ = some (.slice A f.now.length cp)) (ds := []) #[ff,ff,ff,ff,ff,ff,ff,ff,ff,ff,ff,ff] (by kernel_rfl) rfl rfl ⟨ca, e0⟩ (fun hHeld => ?_)
  have HO2 := Aside0.mk (show w.drew.heap[x.1]? = _ from HO.out)
  have HN2 := Aside0.mk (show BytesAt B w.drew _ _ from HN.out)
  have HT2 := Aside0.mk (Turn.refl B w).drew
  have HB2 := Aside0.mk (show But w w.drew none from ⟨Nat.le_refl _, fun _ _ _ => rfl⟩)
  generalize w.drew = w2 at HO2 HN2 HT2 HB2 hHeld ⊢
  have c1 : w2.cell? ⟨x.1, 1, none⟩ = some sv := (blk_cell HO2.out 1).trans rfl
  have f1 : w2.frozen? ⟨x.1, 1, none⟩ = false := blk_frozen HO2.out 1
  have c2 : (w2.setCell ⟨x.1, 1, none⟩ (.slice A f.now.length cp)).cell? ⟨x.1, 2, none⟩ = some x.2 := (blk_cell (blk_put HO2.out 1 (.slice A f.now.length cp) rfl) 2).trans rfl
  have f2 : (w2.setCell ⟨x.1, 1, none⟩ (.slice A f.now.length cp)).frozen? ⟨x.1, 2, none⟩ = false := blk_frozen (blk_put HO2.out 1 (.slice A f.now.length cp) rfl) 2
  refine take_ (i := 0) (N := some 1) (v := ?_) (a' := ?_) #[tt,ff,ff,ff,ff,ff,ff,ff,ff,ff,ff,ff] rfl rfl (by kernel_rfl) (fun _ _ _ h => h) (Or.inl ⟨by rfl, ?_⟩) hHeld ?_ ?_
  rotate_left
  · rintro w' ⟨s0, s1⟩
    go_simp
    with_reducible rfl
  rotate_left
  · simp only [Act.put, pkA, pkB, pkC, i64_w, i32_w]
    rfl
  refine take_ (i := 1) (N := some 2) (v := ?_) (a' := ?_) #[tt,tt,ff,ff,ff,ff,ff,ff,ff,ff,ff,ff] rfl rfl (by kernel_rfl) (fun _ _ _ h => h) (Or.inl ⟨by rfl, ?_⟩) hHeld ?_ ?_
  rotate_left
  · rintro w' ⟨s0, s1⟩
    go_simp
    with_reducible rfl
  rotate_left
  · simp only [Act.put, pkA, pkB, pkC, i64_w, i32_w]
    rfl
  refine take_ (i := 2) (N := some 3) (v := ?_) (a' := ?_) #[tt,tt,tt,ff,ff,ff,ff,ff,ff,ff,ff,ff] rfl rfl (by kernel_rfl) (fun _ _ _ h => h) (Or.inl ⟨by rfl, ?_⟩) hHeld ?_ ?_
  rotate_left
  · rintro w' ⟨s0, s1⟩
    go_simp
    with_reducible rfl
  rotate_left
  · simp only [Act.put, pkA, pkB, pkC, i64_w, i32_w]
    rfl
  refine pure_ (i := 3) (N := some 4) (v := ?_) (a' := ?_) #[tt,tt,tt,tt,ff,ff,ff,ff,ff,ff,ff,ff] rfl rfl (by kernel_rfl) (fun _ _ _ h => h) (Or.inl ⟨by rfl, ?_⟩) ?_ ?_
  rotate_left
  · intro w'
    go_simp
    with_reducible rfl
  rotate_left
  · simp only [Act.put, pkA, pkB, pkC, i64_w, i32_w]
    rfl
  refine pure_ (i := 4) (N := some 5) (v := ?_) (a' := ?_) #[tt,tt,tt,tt,tt,ff,ff,ff,ff,ff,ff,ff] rfl rfl (by kernel_rfl) (fun _ _ _ h => h) (Or.inl ⟨by rfl, ?_⟩) ?_ ?_
  rotate_left
  · intro w'
    go_simp
    with_reducible rfl
  rotate_left
  · simp only [Act.put, pkA, pkB, pkC, i64_w, i32_w]
    rfl
  refine take_ (i := 5) (N := some 6) (v := ?_) (a' := ?_) #[tt,tt,tt,tt,tt,tt,ff,ff,ff,ff,ff,ff] rfl rfl (by kernel_rfl) (fun _ _ _ h => h) (Or.inl ⟨by rfl, ?_⟩) hHeld ?_ ?_
  rotate_left
  · rintro w' ⟨s0, s1⟩
    go_simp
    with_reducible rfl
  rotate_left
  · simp only [Act.put, pkA, pkB, pkC, i64_w, i32_w]
    rfl
  refine pure_ (i := 6) (N := some 7) (v := ?_) (a' := ?_) #[tt,tt,tt,tt,tt,tt,tt,ff,ff,ff,ff,ff] rfl rfl (by kernel_rfl) (fun _ _ _ h => h) (Or.inl ⟨by rfl, ?_⟩) ?_ ?_
  rotate_left
  · intro w'
    go_simp
    with_reducible rfl
  rotate_left
  · simp only [Act.put, pkA, pkB, pkC, i64_w, i32_w]
    rfl
  refine pure_ (i := 7) (N := some 8) (v := ?_) (a' := ?_) #[tt,tt,tt,tt,tt,tt,tt,tt,ff,ff,ff,ff] rfl rfl (by kernel_rfl) (fun _ _ _ h => h) (Or.inl ⟨by rfl, ?_⟩) ?_ ?_
  rotate_left
  · intro w'
    go_simp
    with_reducible rfl
  rotate_left
  · simp only [Act.put, pkA, pkB, pkC, i64_w, i32_w]
    rfl
  refine one_ (i := 8) (N := none) #[tt,tt,tt,tt,tt,tt,tt,tt,tt,ff,ff,ff] rfl rfl (by kernel_rfl) (by decide) (fun K hK => ?_)
  refine skip_ (w1 := ?_) (by rfl) rfl ?_ ?_
  rotate_left
  · go_simp
    rfl
  refine hK.out _ _ ⟨(cell_far2 hHeld.1 (p := ⟨x.1, 1, none⟩) n1 _), ((blk_cell (blk_put HO2.out 1 (.slice A f.now.length cp) rfl) 0).trans rfl)⟩ (fun hHeld => ?_)
  clear hK K
  refine pure_ (i := 9) (N := some 9) (v := ?_) (a' := ?_) #[tt,tt,tt,tt,tt,tt,tt,tt,tt,tt,ff,ff] rfl rfl (by kernel_rfl) (fun _ _ _ h => h) (Or.inl ⟨by rfl, ?_⟩) ?_ ?_
  rotate_left
  · intro w'
    go_simp
    with_reducible rfl
  rotate_left
  · simp only [Act.put, pkA, pkB, pkC, i64_w, i32_w]
    rfl
  refine pure_ (i := 10) (N := some 10) (v := ?_) (a' := ?_) #[tt,tt,tt,tt,tt,tt,tt,tt,tt,tt,tt,ff] rfl rfl (by kernel_rfl) (fun _ _ _ h => h) (Or.inl ⟨by rfl, ?_⟩) ?_ ?_
  rotate_left
  · intro w'
    go_simp
    with_reducible rfl
  rotate_left
  · simp only [Act.put, pkA, pkB, pkC, i64_w, i32_w]
    rfl
  refine one_ (i := 11) (N := none) #[tt,tt,tt,tt,tt,tt,tt,tt,tt,tt,tt,tt] rfl rfl (by kernel_rfl) (by decide) (fun K hK => ?_)
  refine skip_ (w1 := ?_) (by rfl) rfl ?_ ?_
  rotate_left
  · go_simp
    rfl
  refine hK.out _ _ ⟨(cell_far2 hHeld.1 (p := ⟨x.1, 2, none⟩) n1 _), ((blk_cell (blk_put (blk_put HO2.out 1 (.slice A f.now.length cp) rfl) 2 (.slice none 0 0) rfl) 0).trans rfl)⟩ (fun hHeld => ?_)
  clear hK K
  refine done_ (by kernel_rfl) ?_
  go_end0
  have k1 := But.setCell w2 ⟨x.1, 1, none⟩ (.slice A f.now.length cp)
  have k2 := But.setCell (w2.setCell ⟨x.1, 1, none⟩ (.slice A f.now.length cp)) ⟨x.1, 2, none⟩ (.slice none 0 0)
  have o1 := blk_put HO2.out 1 (.slice A f.now.length cp) rfl
  have nx : Not w2 (some x.1) [5] := Not.cells (t := tF) (fun g hg => by obtain rfl := Option.some.inj hg; exact ⟨_, _, HO2.out⟩) (by decide)
  have nx2 : Not (w2.setCell ⟨x.1, 1, none⟩ (.slice A f.now.length cp)) (some x.1) [5] := Not.cells (t := tF) (fun g hg => by obtain rfl := Option.some.inj hg; exact ⟨_, _, o1⟩) (by decide)
  have b2 := BytesAt.but (BytesAt.but HN2.out k1 nx) k2 nx2
  refine ⟨rfl, ⟨_, HL.out.file i x f hx hf (Nat.le_trans HB2.out.1 (Nat.le_trans k1.1 k2.1)) (fun k hk h1 h2 => ?_) (.slice none 0 0) ⟨f.now, f.now, []⟩ ⟨⟨_, _, blk_put o1 2 _ rfl, b2, b2⟩, lo, Kd.R_nil _ _ _ _ _⟩ (.inl rfl)⟩, ?_⟩
  · have l1 : k < w2.heap.size := Nat.lt_of_lt_of_le hk HB2.out.1
    exact (k2.2 k (Nat.lt_of_lt_of_le l1 k1.1) (fun e => h1 (Option.some.inj e))).trans ((k1.2 k l1 (fun e => h1 (Option.some.inj e))).trans (HB2.out.2 k hk (by simp)))
  · exact (HT2.out.setCell HO2.out rfl lo 1 _).setCell o1 rfl lo 2 _
set_option maxRecDepth 100000 in
set_option maxHeartbeats 4000000 in
theorem sync_calls (h : DiskAt B w p D) (hE : ErrAt B w E) (hk : D.Ok) (hst : D.steps ≤ 1000000000) (s : ByteArray) (hs : s.size < 9223372036854775807)  :
    Calls Tryz.prog 46 #[.pointer (some ⟨p, 0, none⟩), .string s] w fun e w' => e = .returned (errV E (syncD D s).1) ∧ DiskAt B w' p (syncD D s).2 ∧ Turn B w w' := by
  obtain ⟨L, m1, m2, fv, ov, hl⟩ := h
  unfold syncD
  cases hq : fileE D s with
  | some c =>
    rw [fileOp_no hq]
    simp only [errV_some]
    have HF := Aside0.mk (file_no p D s hs E w hl hE c hq)
    rw [errV_some] at HF
    have HL := Aside0.mk hl
    clear hl hE hq
    go_enter Tryz.func46, Tryz.ntmps46
    go_wp2_with (go_at_call 62; refine HF.out.mono ?_; rintro e w1 ⟨rfl, hb⟩; have HB1 := Aside0.mk hb; clear hb)
    go_ret
    exact ⟨rfl, ⟨_, _, _, _, _, HL.out.below (HB1.out.trans (((Below.refl w1.heap.size w1).alloc (Nat.le_refl _) (.cells #[.pointer none] 103)).mono HB1.out.size))⟩, Turn.of_below (HB1.out.trans (((Below.refl w1.heap.size w1).alloc (Nat.le_refl _) (.cells #[.pointer none] 103)).mono HB1.out.size))⟩
  | none =>
    obtain ⟨i, f, hi, hf⟩ := file_at hk hq
    rw [fileOp_ok hq hi hf]
    have hil : i < L.length := by have := hl.files.len; have := (List.getElem?_eq_some_iff.1 hf).1; omega
    obtain ⟨x, hx⟩ : ∃ x, L[i]? = some x := ⟨_, List.getElem?_eq_getElem hil⟩
    have HF := Aside0.mk (file_ok p D s hs E w hl hE hq i hi x hx (by have := hl.files.len; have := hk.cntF; omega))
    have hxl : x.1 < w.heap.size := by obtain ⟨⟨nv, sv, ho, hn, hsu⟩, lo, hop⟩ := hl.files.each i x f hx hf; exact blk_lt ho
    have HB2 := Aside0.mk (fun (U : World) (hb : Below w.heap.size w U) => hb.trans (((Below.refl U.heap.size U).alloc (Nat.le_refl _) (.cells #[.pointer (some ⟨x.1, 0, none⟩)] 103)).mono hb.size))
    have HL := Aside0.mk hl
    by_cases h0 : D.armed = 0
    · rw [if_pos h0]
      simp only [errV_some]
      have HS := Aside0.mk (fun (U : World) (fn : Value) (hb : Below w.heap.size w U) => step_off B p D L m1 m2 fv ov E fn U (hl.below hb) (hE.turn (Turn.of_below hb)) h0)
      clear hl hE hq hi hil h0
      go_enter Tryz.func46, Tryz.ntmps46
      go_wp2_with (first
        | (go_at_call 62; refine HF.out.mono ?_; rintro e w1 ⟨rfl, hb⟩; have HB1 := Aside0.mk hb; clear hb)
        | (go_at_call 92; refine (HS.out _ _ (HB2.out _ HB1.out)).mono ?_; rintro e w2 ⟨rfl, hl2, hb2, ht2⟩; have HL2 := Aside0.mk hl2; have HT2 := Aside0.mk ht2; clear hl2 hb2 ht2; rw [errV_some]))
      go_ret
      exact ⟨rfl, ⟨_, _, _, _, _, HL2.out⟩, (Turn.of_below (HB2.out _ HB1.out)).trans HT2.out⟩
    · rw [if_neg h0]
      simp only [errV_none]
      have HS := Aside0.mk (fun (U : World) (ga : Nat) (hb : Below w.heap.size w U) (ca : U.cell? ⟨ga, 0, none⟩ = some (.pointer (some ⟨x.1, 0, none⟩))) (hg : w.heap.size ≤ ga) => step_sync B p D L m1 m2 fv ov ga (fun w' => (∃ rv, Lies B w' p (setF (stepD D) i ⟨f.now, f.now, []⟩) (L.set i (x.1, rv)) m1 m2 fv ov) ∧ Turn B U w') U (hl.below hb) h0 hk.armed1 hk.armed0 hk.steps0 (by omega)
        (fun w1 hl1 hb1 ht1 => by
          have hpl := blk_lt hl.obj
          have ca1 := (World.cell?_of_block (w := U) (w' := w1) (a := ⟨ga, 0, none⟩) (hb1.2 ga (World.block_lt_of_cell? U _ ca) (fun e => by have := Option.some.inj e; omega))).trans ca
          refine (sync1 B p (stepD D) w1 L m1 m2 fv ov ga i x f hl1 hx hf ca1 (by omega)).mono ?_
          rintro e w3 ⟨rfl, h1, h2⟩
          exact ⟨rfl, h1, ht1.trans h2⟩))
      clear hl hE hq hi hil h0
      go_enter Tryz.func46, Tryz.ntmps46
      go_wp2_with (first
        | (go_at_call 62; refine HF.out.mono ?_; rintro e w1 ⟨rfl, hb⟩; have HB1 := Aside0.mk hb; clear hb)
        | (go_at_call 92; refine (HS.out _ _ (HB2.out _ HB1.out) ((World.cell?_alloc_new _ _ _ _).trans rfl) HB1.out.size).mono ?_; rintro e w2 ⟨rfl, ⟨rv, hl2⟩, ht2⟩; have HL2 := Aside0.mk hl2; have HT2 := Aside0.mk ht2; clear hl2 ht2))
      go_ret
      exact ⟨rfl, ⟨_, _, _, _, _, HL2.out⟩, (Turn.of_below (HB2.out _ HB1.out)).trans HT2.out⟩
end
end Go.Proofs.YtpcfnkmljchiiaaGreatDoor.DSyn
end
section
/- The library's functions that the sweep calls: maps.Values, slices.Collect, slices.Contains; maps.Clone. The layings are the kit's print. -/
namespace Go.Proofs.YtpcfnkmljchiiaaGreatDoor.DShc
open Go Go.RowKit Go.Maps Go.WideMaps Go.Shelf Go.Proofs Go.Proofs.YtpcfnkmljchiiaaGreatDoorW.PrintWords DPl DAt DEnt DUsd
def valuesL_ren : Go.Shelf.Ren := ⟨fun | 5 => 113 | 7 => 134 | n => n, fun | 23 => 83 | 27 => 9 | 3 => 3 | 25 => 156 | 0 => 0 | 24 => 155 | 33 => 178 | 4 => 4 | n => n, fun | n => n⟩
theorem valuesL : Go.Proofs.SlLaysY.n5 Tryz.prog valuesL_ren := {
  mixed := by kernel_rfl
  f5 := ⟨Tryz.f113.name, by decide, Tryz.func113.trans (congrArg some (by kernel_rfl))⟩
  f7 := ⟨Tryz.f134.name, by decide, Tryz.func134.trans (congrArg some (by kernel_rfl))⟩
  t0 := Tryz.underlying0
  a0 := Tryz.isAgg0
  z0 := Tryz.sizeOf0
  v0 := Tryz.zeroValue0
  t3 := Tryz.underlying3
  a3 := Tryz.isAgg3
  z3 := Tryz.sizeOf3
  v3 := Tryz.zeroValue3
  t4 := Tryz.underlying4
  a4 := Tryz.isAgg4
  z4 := Tryz.sizeOf4
  v4 := Tryz.zeroValue4
  t23 := Tryz.underlying83
  a23 := Tryz.isAgg83
  z23 := Tryz.sizeOf83
  v23 := Tryz.zeroValue83
  t24 := Tryz.underlying155
  a24 := Tryz.isAgg155
  z24 := Tryz.sizeOf155
  v24 := Tryz.zeroValue155
  t25 := Tryz.underlying156
  a25 := Tryz.isAgg156
  z25 := Tryz.sizeOf156
  v25 := Tryz.zeroValue156
  t27 := Tryz.underlying9
  a27 := Tryz.isAgg9
  z27 := Tryz.sizeOf9
  v27 := Tryz.zeroValue9
  t33 := Tryz.underlying178
  a33 := Tryz.isAgg178
  z33 := Tryz.sizeOf178
  v33 := Tryz.zeroValue178 }
def collectL_ren : Go.Shelf.Ren := ⟨fun | 8 => 112 | 11 => 133 | n => n, fun | 26 => 3 | 28 => 156 | 24 => 33 | 0 => 0 | 33 => 178 | 4 => 4 | n => n, fun | n => n⟩
theorem collectL : Go.Proofs.SlLaysZI.n8 Tryz.prog collectL_ren := {
  mixed := by kernel_rfl
  f8 := ⟨Tryz.f112.name, by decide, Tryz.func112.trans (congrArg some (by kernel_rfl))⟩
  f11 := ⟨Tryz.f133.name, by decide, Tryz.func133.trans (congrArg some (by kernel_rfl))⟩
  t0 := Tryz.underlying0
  a0 := Tryz.isAgg0
  z0 := Tryz.sizeOf0
  v0 := Tryz.zeroValue0
  t24 := Tryz.underlying33
  a24 := Tryz.isAgg33
  z24 := Tryz.sizeOf33
  v24 := Tryz.zeroValue33
  t26 := Tryz.underlying3
  a26 := Tryz.isAgg3
  z26 := Tryz.sizeOf3
  v26 := Tryz.zeroValue3
  t28 := Tryz.underlying156
  a28 := Tryz.isAgg156
  z28 := Tryz.sizeOf156
  v28 := Tryz.zeroValue156
  i26 := by kernel_rfl }

theorem key_inj : ∀ {N : Nms}, N.Pairwise (fun p q => p.1 ≠ q.1) → ∀ {p q : List UInt8 × Int}, p ∈ N → q ∈ N → p.1 = q.1 → p = q
  | [], _, _, _, h, _, _ => by cases h
  | a :: r, hp, p, q, h1, h2, e => by
    obtain ⟨ha, hr⟩ := List.pairwise_cons.1 hp
    rcases List.mem_cons.1 h1 with e1 | e1
    · rcases List.mem_cons.1 h2 with e2 | e2
      · rw [e1, e2]
      · rw [e1] at e; exact absurd e (ha _ e2)
    · rcases List.mem_cons.1 h2 with e2 | e2
      · rw [e2] at e; exact absurd e.symm (ha _ e1)
      · exact key_inj hr e1 e2 e
theorem keys_len (N : Nms) : (Go.strKeys (nmData N)).length = N.length := by unfold nmData Go.strKeys; simp
theorem values_calls (m : Nat) (w : World) : Calls Tryz.prog 113 #[.map (some m)] w fun e w' => e = .returned (.func (.func 134) #[] #[.pointer (some ⟨w.heap.size, 0, none⟩)]) ∧ w' = w.alloc (.cells #[.map (some m)] 83) :=
  (callsIn_wide (n := 1)).1 (AnyY.values_in (ρ := valuesL_ren) valuesL Fence.wide 1 trivial rfl (some m) w)
/-- The files' numbers that have names, in whatever order. -/
theorem collect_calls (g m : Nat) (N : Nms) (w : World) (hg : g < w.heap.size) (hc : w.cell? ⟨g, 0, none⟩ = some (.map (some m))) (hN : NamesAt w m N) (hl : N.length ≤ 1000000000) :
    Calls Tryz.prog 112 #[.func (.func 134) #[] #[.pointer (some ⟨g, 0, none⟩)]] w fun e w' => ∃ (v : Value) (xs : List Int), e = .returned v ∧ (∀ i : Int, i ∈ xs ↔ ∃ p ∈ N, p.2 = i) ∧ xs.length = N.length ∧ w'.ownsRow w.heap.size 3 1 v xs.length (nums .i64 xs) ∧ Below w.heap.size w w' := by
  have hseq := (AnyY.values_stops (ρ := valuesL_ren) { valuesL with } (H := Unit) Fence.wide 2 trivial rfl (by omega) g m N.length (nmData N) w hg hc hN).gives
  have h := AnyZI.collect_in (ρ := collectL_ren) collectL Fence.wide 4 trivial trivial rfl (by omega) 134 #[.pointer (some ⟨g, 0, none⟩)] trivial (enters_of Tryz.func134 (by kernel_rfl) rfl)
    (fun xs => ∃ ps, AnyY.AllOf (nmData N) ps ∧ xs = ps.map (·.2)) (Maps.size (nmData N)) (by rw [nmData_size]; unfold maxLen; omega) (by rw [nmData_size]; omega) w hseq
  refine ((callsIn_wide (n := 4)).1 h).mono ?_
  rintro e w' ⟨v, xs, rfl, ⟨ps, ⟨hp, hk, hv⟩, rfl⟩, hrow, hnil, hb⟩
  refine ⟨v, ps.map (·.2), rfl, fun i => ?_, ?_, ?_, hb⟩
  · constructor
    · intro hi
      obtain ⟨q, hq, rfl⟩ := List.mem_map.1 hi
      exact ⟨(q.1, q.2), mem_at (hv q hq), rfl⟩
    · rintro ⟨q, hq, rfl⟩
      have h1 : Maps.has (nmData N) (.string q.1) = true := by rw [nmData_has]; exact List.any_eq_true.2 ⟨q, hq, by simp⟩
      obtain ⟨r, hr, e⟩ := List.mem_map.1 ((hk q.1).2 h1)
      have h2 := mem_at (hv r hr)
      have this : q = (r.1, r.2) := key_inj (names_nodup hN) hq h2 e.symm
      rw [this]
      exact List.mem_map.2 ⟨r, hr, rfl⟩
  · have h1 := hp.length_eq
    rw [List.length_map] at h1 ⊢
    rw [h1]
    exact keys_len N
  · have e : (ps.map (·.2)).map encZ = nums .i64 (ps.map (·.2)) := rfl
    rw [← e]
    exact hrow
/-- maps.Clone. -/
theorem clone_calls (m : Nat) (N : Nms) (w : World) (hN : NamesAt w m N) : Calls Tryz.prog 67 #[.map (some m)] w fun e w' => e = .returned (.map (some w.heap.size)) ∧ NamesAt w' w.heap.size N ∧ Below w.heap.size w w' := by
  obtain ⟨es, clock, hb, F, hs, hD⟩ := hN
  have hq := fun w => run_eql_map_nil_sl (P := Tryz.prog) w 83 _ _ (some m) Tryz.underlying83
  have hc := run_maps_clone_sl (P := Tryz.prog) w 83 hb
  have hx := fun (args : Array Value) (W : World) => run_callFunc_extern (P := Tryz.prog) (w := W) (args := args) Tryz.func111 (by kernel_rfl) (by kernel_rfl) (by kernel_rfl) (e := Extern.MapsClone.clone) (by kernel_rfl)
  have ht := fun (v : Value) (W : World) => run_typeAssert_map_sl (P := Tryz.prog) (w := W) 83 20 _ _ v Tryz.underlying83
  go_enter Tryz.func67, Tryz.ntmps67
  go_wp2
  go_ret
  exact ⟨rfl, ⟨es, clock, heap_alloc_new w _, F, hs, hD⟩, (Below.refl _ _).alloc (Nat.le_refl _) _⟩
set_option maxRecDepth 100000 in
set_option maxHeartbeats 4000000 in
theorem index_calls (A : Option Addr) (c : Nat) (xs : List Int) (x : Int) (w : World) (hR : ReadsInt w .i64 A xs.length xs) (hl : xs.length ≤ 1000000000) :
    Calls Tryz.prog 135 #[.slice A xs.length c, .int .i64 x] w fun e w' => (∃ j : Int, e = .returned (.int .i64 j) ∧ (0 ≤ j ↔ x ∈ xs)) ∧ w' = w := by
  have HR := Aside0.mk hR
  have HL := Aside0.mk hl
  have hll : (xs.length : Int) ≤ 1000000000 := by omega
  clear hR hl
  go_enter Tryz.func135, Tryz.ntmps135
  go_wp2
  go_loop [8] (fun i => ∃ k : Nat, k ≤ xs.length ∧ i = .int .i64 k ∧ Aside0 (∀ y ∈ xs.take k, y ≠ x)) (fun i => xs.length - (Go.RowKit.intOf i).toNat)
  case atStart => exact ⟨0, Nat.zero_le _, rfl, ⟨by simp⟩⟩
  case round =>
    obtain ⟨k, hk, rfl, HA⟩ := hrel
    by_cases hlt : k < xs.length
    · have t1 : decide (k < xs.length) = true := decide_eq_true hlt
      obtain ⟨ad, ea, hcell⟩ := HR.out.at_ (k : Int) (by omega) (by omega)
      subst ea
      have hrd : Go.Proofs.YtpcfnkmljchiiaaGreatDoorW.PrintWords.rd xs (k : Int) = xs[k] := by unfold Go.Proofs.YtpcfnkmljchiiaaGreatDoorW.PrintWords.rd; simp [hlt]
      rw [hrd, Int.toNat_natCast] at hcell
      have HT : Aside0 (xs.take (k + 1) = xs.take k ++ [xs[k]]) := ⟨by rw [List.take_succ_eq_append_getElem hlt]⟩
      have HM := Aside0.mk (List.getElem_mem hlt)
      obtain ⟨y, hy⟩ : ∃ y, y = xs[k] := ⟨_, rfl⟩
      rw [← hy] at hcell HT HM
      clear hrd hy
      have u0 : (0 : Int) ≤ (k : Int) := by omega
      have u1 : (k : Int) < (xs.length : Int) := by omega
      by_cases he : x = y
      · subst he
        have t2 : (x == x) = true := by simp
        go_wp2
        go_ret
        exact ⟨⟨k, rfl, ⟨fun _ => HM.out, fun _ => by omega⟩⟩, rfl⟩
      · have t2 : (x == y) = false := by simpa using he
        have HE := Aside0.mk he
        clear he
        go_wp2
        go_round
        case rel => exact ⟨k + 1, by omega, by go_num, ⟨by
          rw [HT.out]
          intro z hz
          rcases List.mem_append.1 hz with h | h
          · exact HA.out z h
          · rw [List.mem_singleton.1 h]; exact fun e => HE.out e.symm⟩⟩
        case measure => simp [Go.RowKit.intOf]; omega
    · have t1 : decide (k < xs.length) = false := decide_eq_false hlt
      have HK := Aside0.mk (show k = xs.length by omega)
      go_wp2
      go_ret
      exact ⟨⟨-1, rfl, ⟨fun h => by omega, fun h => by
        have := HA.out x (by rw [HK.out, List.take_of_length_le (Nat.le_refl _)]; exact h)
        exact absurd rfl this⟩⟩, rfl⟩
theorem contains_calls (A : Option Addr) (c : Nat) (xs : List Int) (x : Int) (w : World) (hR : ReadsInt w .i64 A xs.length xs) (hl : xs.length ≤ 1000000000) :
    Calls Tryz.prog 114 #[.slice A xs.length c, .int .i64 x] w fun e w' => e = .returned (.bool (decide (x ∈ xs))) ∧ w' = w := by
  have HI := Aside0.mk (index_calls A c xs x w hR hl)
  obtain ⟨b, hb⟩ : ∃ b, b = decide (x ∈ xs) := ⟨_, rfl⟩
  rw [← hb]
  have HB := Aside0.mk hb
  clear hb hR hl
  go_enter Tryz.func114, Tryz.ntmps114
  go_wp2_with (go_at_call 135; refine HI.out.mono ?_; rintro e w1 ⟨⟨j, rfl, hj⟩, rfl⟩; have HJ := Aside0.mk hj; clear hj)
  go_ret
  exact ⟨by rw [HB.out, decide_eq_decide.2 HJ.out]; rfl, rfl⟩
end Go.Proofs.YtpcfnkmljchiiaaGreatDoor.DShc
end
