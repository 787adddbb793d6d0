/- Steps towards RDiskAll: DRnb, DRnc, DRnd. -/
import Derived.Test.YtpcfnkmljchiiaaGreatDoorZ34
set_option linter.unusedVariables false
set_option linter.unusedSimpArgs false
section
/- The document's Remove, Rename, SyncDir. -/
namespace Go.Proofs.YtpcfnkmljchiiaaGreatDoor.DRnb
open Go Go.RowKit Go.Maps Go.Proofs.YtpcfnkmljchiiaaGreatDoorW.PrintWords Go.Proofs.YtpcfnkmljchiiaaGreatDoorW.PrintLast DPl DAt DRn DRd DRl DRt DDo DRdp DRnw DRak DRau DRlm DRna DRnf DFil DOps DSd DCr DRen Right
section
variable {B p : Nat} {D : Dsk} {w : World}
theorem numE_pos {c : Int} (h : dErr c) : (c != 0) = true ∧ (c == 0) = false := by
  unfold dErr at h
  have : c ≠ 0 := by omega
  exact ⟨by simpa using this, by simpa using this⟩
set_option maxRecDepth 100000 in
set_option maxHeartbeats 8000000 in
theorem rremove_calls (s : ByteArray) (hs : s.size < 9223372036854775807) (h : RDiskAt B w p D) (hk : D.Ok) (hst : D.steps ≤ 1000000000) (hri : Rising D.sure) :
    Calls Tryz.prog 45 #[.pointer (some ⟨p, 0, none⟩), .string s] w fun e w' => e = .returned (.int .i64 (numE (removeD D s).1)) ∧ RDiskAt B w' p (removeD D s).2 ∧ RTurn B w w' := by
  have HD := Aside0.mk h
  have HA := Aside0.mk (ask1_calls B p D s hs w h hk hst hri)
  have HN := Aside0.mk (fun (U : World) (hb : Below w.heap.size w U) => name_calls (B := B) (p := p) (D := D) (w := U) ⟨ByteArray.empty, s, -1⟩ (h.keep hb) hk hst)
  cases hq : fileE D s with
  | some c =>
    obtain ⟨t1, t2⟩ := numE_pos (fileE_in hq)
    have HR := Aside0.mk (fileOp_no hq (fun _ _ => namedD D ⟨ByteArray.empty, s, -1⟩))
    rw [hq] at HA
    clear h hk hst hri hq
    go_enter Tryz.func45, Tryz.ntmps45
    go_wp2_with (go_at_call 95; refine HA.out.mono ?_; rintro e w1 ⟨rfl, hb1⟩; have HB := Aside0.mk hb1; clear hb1; simp only [numE])
    go_ret
    unfold removeD
    rw [HR.out]
    exact ⟨rfl, HD.out.keep HB.out, RTurn.of_below HB.out⟩
  | none =>
    obtain ⟨i, f, hi, hf⟩ := file_at hk hq
    have HR := Aside0.mk (fileOp_ok hq hi hf (fun _ _ => namedD D ⟨ByteArray.empty, s, -1⟩))
    rw [hq] at HA
    clear h hk hst hri hq hi hf
    go_enter Tryz.func45, Tryz.ntmps45
    go_wp2_with (first
      | (go_at_call 95; refine HA.out.mono ?_; rintro e w1 ⟨rfl, hb1⟩; have HB := Aside0.mk hb1; clear hb1; simp only [numE])
      | (go_at_call 98; refine (HN.out _ HB.out).mono ?_; rintro e w2 ⟨rfl, hd2, ht2⟩; have HD2 := Aside0.mk hd2; have HT2 := Aside0.mk ((RTurn.of_below HB.out).trans ht2); clear hd2 ht2))
    go_ret
    unfold removeD
    rw [HR.out]
    exact ⟨rfl, HD2.out, HT2.out⟩
theorem filOk_step {f : Fil} {n : Int} (h : f.Ok n) : f.Ok (n + 1) := ⟨h.now, h.fits, h.sureL, h.opnL, h.nowL, by have := h.cnt; omega⟩
theorem stepD_ok (h : D.Ok) : (stepD D).Ok := by
  obtain ⟨a0, a1⟩ := Go.Proofs.YtpcfnkmljchiiaaGreatDoor.DOk.armed_step h
  exact ⟨h.nowF, h.sureF, h.opnF, h.nowE, fun f hf => filOk_step (h.fil f hf), h.quota0, h.quota1, a0, a1, by show 0 ≤ D.steps + 1; have := h.steps0; omega, by show (D.files.length : Int) ≤ D.steps + 1; have := h.cntF; omega, by show (D.sure.length : Int) + D.opn.length ≤ D.steps + 1; have := h.cntN; omega⟩
theorem askD_cases (D : Dsk) (s : ByteArray) : askD D s = if D.off = true then some 8 else if rightB s = true then none else some 4 := rfl
set_option maxRecDepth 100000 in
set_option maxHeartbeats 8000000 in
theorem rrename_calls (a b : ByteArray) (ha : a.size < 9223372036854775807) (hb : b.size < 9223372036854775807) (h : RDiskAt B w p D) (hk : D.Ok) (hst : D.steps ≤ 1000000000) (hri : Rising D.sure) :
    Calls Tryz.prog 43 #[.pointer (some ⟨p, 0, none⟩), .string a, .string b] w fun e w' => e = .returned (.int .i64 (numE (renameD D a b).1)) ∧ RDiskAt B w' p (renameD D a b).2 ∧ RTurn B w w' := by
  have HD := Aside0.mk h
  have HA := Aside0.mk (ask0_calls B p D a ha w h)
  have HRb := Aside0.mk (refRight_calls b hb)
  have HW := Aside0.mk (fun (U : World) (hb : Below w.heap.size w U) => names_calls B p D U (h.keep hb) hk hst hri)
  have HL := Aside0.mk (now_len hk hst)
  have HN := Aside0.mk (fun (U : World) (hb : Below w.heap.size w U) => name_calls (B := B) (p := p) (D := D) (w := U) ⟨b, a, atN D.now a.data.toList⟩ (h.keep hb) hk hst)
  have HI := Aside0.mk (fun (hh : hasN D.now a.data.toList = true) => atN_lt hk hh)
  cases hq : askD D a with
  | some c =>
    obtain ⟨t1, t2⟩ := numE_pos (askD_in D a c hq)
    have HR := Aside0.mk (show renameD D a b = (some c, D) by
      unfold renameD ask2D
      rw [askD_cases] at hq
      by_cases ho : D.off = true
      · rw [if_pos ho] at hq ⊢
        obtain rfl := Option.some.inj hq
        rfl
      · rw [if_neg ho] at hq ⊢
        by_cases hr : rightB a = true
        · rw [if_pos hr] at hq; cases hq
        · rw [if_neg hr] at hq
          rw [if_neg (fun hh => hr hh.1)]
          obtain rfl := Option.some.inj hq
          rfl)
    rw [hq] at HA
    clear h hk hst hri hq
    go_enter Tryz.func43, Tryz.ntmps43
    go_wp2_with (go_at_call 95; refine HA.out.mono ?_; rintro e w1 ⟨rfl, hb1⟩; have HB := Aside0.mk hb1; clear hb1; simp only [numE])
    go_ret
    rw [HR.out]
    exact ⟨rfl, HD.out.keep HB.out, RTurn.of_below HB.out⟩
  | none =>
    obtain ⟨_, hra, hof⟩ := askD_none hq
    obtain ⟨rb, hrb⟩ : ∃ rb, rb = rightB b := ⟨_, rfl⟩
    rw [hq] at HA
    have H2 := Aside0.mk (show ask2D D a b = if rb = true then none else some 4 by
      unfold ask2D
      rw [if_neg (by rw [hof]; simp), ← hrb, hra]
      cases rb <;> rfl)
    rw [← hrb] at HRb
    clear h hk hst hri hq hrb hra hof
    cases rb with
    | false =>
      go_enter Tryz.func43, Tryz.ntmps43
      go_wp2_with (first
        | (go_at_call 95; refine HA.out.mono ?_; rintro e w1 ⟨rfl, hb1⟩; have HB := Aside0.mk hb1; clear hb1; simp only [numE])
        | (go_at_call 74; refine (HRb.out _).mono ?_; rintro e w2 ⟨rfl, hb2⟩; have HB2 := Aside0.mk (HB.out.trans (hb2.mono HB.out.size)); clear hb2))
      go_ret
      unfold renameD
      rw [H2.out]
      exact ⟨rfl, HD.out.keep HB2.out, RTurn.of_below HB2.out⟩
    | true =>
      obtain ⟨hs, hhs⟩ : ∃ hs, hs = hasN D.now a.data.toList := ⟨_, rfl⟩
      have HR := Aside0.mk (show renameD D a b = if hs = true then namedD D ⟨b, a, atN D.now a.data.toList⟩ else (some 5, D) by
        unfold renameD
        rw [H2.out, ← hhs]
        rfl)
      have HFi := Aside0.mk (show fileI D.now a.data.toList = if hs = true then atN D.now a.data.toList else -1 by unfold fileI; rw [← hhs])
      rw [← hhs] at HI
      clear hhs
      cases hs with
      | false =>
        go_enter Tryz.func43, Tryz.ntmps43
        go_wp2_with (first
          | (go_at_call 95; refine HA.out.mono ?_; rintro e w1 ⟨rfl, hb1⟩; have HB := Aside0.mk hb1; clear hb1; simp only [numE])
          | (go_at_call 74; refine (HRb.out _).mono ?_; rintro e w2 ⟨rfl, hb2⟩; have HB2 := Aside0.mk (HB.out.trans (hb2.mono HB.out.size)); clear hb2)
          | (go_at_call 96; refine (HW.out _ HB2.out).mono ?_; rintro e w3 ⟨nv2, iv2, rfl, hn2, hb3⟩; have HB3 := Aside0.mk (HB2.out.trans (hb3.mono HB2.out.size)); have HLk := Aside0.mk (file_calls hn2 HL.out a); rw [HFi.out] at HLk; clear hn2 hb3)
          | (go_at_call 99; refine HLk.out.mono ?_; rintro e w4 ⟨rfl, hb4⟩; have HB4 := Aside0.mk (HB3.out.trans (hb4.mono HB3.out.size)); clear hb4))
        go_ret
        rw [HR.out]
        exact ⟨rfl, HD.out.keep HB4.out, RTurn.of_below HB4.out⟩
      | true =>
        obtain ⟨i, hi, _⟩ := HI.out rfl
        rw [hi] at HFi HN HR
        have t9 : decide ((i : Int) < 0) = false := decide_eq_false (by omega)
        clear hi
        go_enter Tryz.func43, Tryz.ntmps43
        go_wp2_with (first
          | (go_at_call 95; refine HA.out.mono ?_; rintro e w1 ⟨rfl, hb1⟩; have HB := Aside0.mk hb1; clear hb1; simp only [numE])
          | (go_at_call 74; refine (HRb.out _).mono ?_; rintro e w2 ⟨rfl, hb2⟩; have HB2 := Aside0.mk (HB.out.trans (hb2.mono HB.out.size)); clear hb2)
          | (go_at_call 96; refine (HW.out _ HB2.out).mono ?_; rintro e w3 ⟨nv2, iv2, rfl, hn2, hb3⟩; have HB3 := Aside0.mk (HB2.out.trans (hb3.mono HB2.out.size)); have HLk := Aside0.mk (file_calls hn2 HL.out a); rw [HFi.out] at HLk; clear hn2 hb3)
          | (go_at_call 99; refine HLk.out.mono ?_; rintro e w4 ⟨rfl, hb4⟩; have HB4 := Aside0.mk (HB3.out.trans (hb4.mono HB3.out.size)); clear hb4)
          | (go_at_call 98; refine (HN.out _ HB4.out).mono ?_; rintro e w5 ⟨rfl, hd5, ht5⟩; have HD5 := Aside0.mk hd5; have HT5 := Aside0.mk ((RTurn.of_below HB4.out).trans ht5); clear hd5 ht5))
        go_ret
        rw [HR.out]
        exact ⟨rfl, HD5.out, HT5.out⟩
set_option maxRecDepth 100000 in
set_option maxHeartbeats 8000000 in
theorem rsyncDir_calls (h : RDiskAt B w p D) (hk : D.Ok) (hst : D.steps ≤ 999999999) (hri : Rising D.sure) :
    Calls Tryz.prog 48 #[.pointer (some ⟨p, 0, none⟩)] w fun e w' => e = .returned (.int .i64 (numE (syncDirD D).1)) ∧ RDiskAt B w' p (syncDirD D).2 ∧ RTurn B w w' := by
  have HD := Aside0.mk h
  obtain ⟨L, fv, nv, iv, ov, hl⟩ := h
  have c6 : w.cell? ⟨p, 6, none⟩ = some (.bool D.off) := (blk_cell hl.obj 6).trans rfl
  have HS := Aside0.mk (rstepL hl hk (by omega))
  have HOk := Aside0.mk hk
  have HSt := Aside0.mk hst
  have HRi := Aside0.mk hri
  obtain ⟨of, hof⟩ : ∃ of, of = D.off := ⟨_, rfl⟩
  have HR := Aside0.mk (show syncDirD D = if of = true then (some 8, D) else if D.armed = 0 then (some 8, offD D) else (none, { stepD D with sure := D.now, opn := [] }) by rw [hof]; rfl)
  rw [← hof] at c6
  clear hof hl hk hst hri
  cases of with
  | true =>
    go_enter Tryz.func48, Tryz.ntmps48
    go_wp2
    go_ret
    rw [HR.out]
    exact ⟨rfl, HD.out, RTurn.refl _ _⟩
  | false =>
    by_cases h0 : D.armed = 0
    · have e1 : rstepD D = (8, offD D) := by unfold rstepD; rw [if_pos h0]
      have HR2 := Aside0.mk (show syncDirD D = (some 8, offD D) by rw [HR.out, if_neg (by simp), if_pos h0])
      rw [e1] at HS
      clear e1 h0
      go_enter Tryz.func48, Tryz.ntmps48
      go_wp2_with (go_at_call 102; refine HS.out.mono ?_; rintro e w1 ⟨rfl, hl1, ht1, hb1⟩; have HL1 := Aside0.mk hl1; have HT1 := Aside0.mk ht1; clear hl1 ht1 hb1)
      go_ret
      rw [HR2.out]
      exact ⟨rfl, ⟨_, _, _, _, _, HL1.out⟩, HT1.out⟩
    · have e1 : rstepD D = (0, stepD D) := by unfold rstepD; rw [if_neg h0]
      have HR2 := Aside0.mk (show syncDirD D = (none, { stepD D with sure := D.now, opn := [] }) by rw [HR.out, if_neg (by simp), if_neg h0])
      rw [e1] at HS
      have HNm := Aside0.mk (fun (U : World) (hu : RLies B U p (stepD D) L fv nv iv ov) => names_calls B p (stepD D) U ⟨L, fv, nv, iv, ov, hu⟩ (stepD_ok HOk.out) (by show D.steps + 1 ≤ 1000000000; have := HSt.out; omega) HRi.out)
      clear e1 h0
      go_enter Tryz.func48, Tryz.ntmps48
      go_wp2_with (first
        | (go_at_call 102; refine HS.out.mono ?_; rintro e w1 ⟨rfl, hl1, ht1, hb1⟩; have HL1 := Aside0.mk hl1; have HT1 := Aside0.mk ht1; clear hl1 ht1 hb1)
        | (go_at_call 96; refine (HNm.out _ HL1.out).mono ?_; rintro e w3 ⟨nv2, iv2, rfl, hn2, hb3⟩; have HL3 := Aside0.mk (same HL1.out hb3); have HT3 := Aside0.mk (HT1.out.below hb3); have HN3 := Aside0.mk hn2; obtain ⟨B1, b1, B2, b2, rfl, rfl, _, _, _, _⟩ := hn2.reads; have y1 := (blk_cell HL3.out.obj 1).trans (rfl : _ = some nv); have y2 := (blk_cell HL3.out.obj 2).trans (rfl : _ = some iv); have y3 := (blk_cell HL3.out.obj 3).trans (rfl : _ = some ov); have f1 := blk_frozen HL3.out.obj 1; have f2 := blk_frozen HL3.out.obj 2; have f3 := blk_frozen HL3.out.obj 3; clear hn2 hb3))
      go_ret
      obtain ⟨k1, k2⟩ := resure HL3.out HN3.out
      rw [HR2.out]
      exact ⟨rfl, ⟨_, _, _, _, _, k1⟩, HT3.out.trans k2⟩
end
end Go.Proofs.YtpcfnkmljchiiaaGreatDoor.DRnb
end
section
/- The document's Create. -/
namespace Go.Proofs.YtpcfnkmljchiiaaGreatDoor.DRnc
open Go Go.RowKit Go.Maps Go.Proofs.YtpcfnkmljchiiaaGreatDoorW.PrintWords Go.Proofs.YtpcfnkmljchiiaaGreatDoorW.PrintLast DPl DAt DRn DRd DRl DRt DDo DRdp DRnw DRak DRau DRlm DRna DRnb DRnf DFil DOps DSd DCr DRen Right
section
variable {B p : Nat} {D : Dsk} {w w1 w2 : World} {L : List (Nat × Value)} {fv nv iv ov : Value}
def rfileO : Obj := .cells #[.string ⟨#[]⟩, .slice none 0 0] tRF (0, 0)
theorem radd (h : RLies B w p D L fv nv iv ov) {x : Nat} (hf : w.heap[x]? = some rfileO) (hnew : ∀ y ∈ L, y.1 ≠ x) (hB : B ≤ x) {v1 : Value} (hP : RPtrsAt B w2 v1 (L.map Prod.fst ++ [x])) (hg : w.grownBy w2 fv.ownBlock) :
    RLies B (w2.setCell ⟨p, 0, none⟩ v1) p { D with files := D.files ++ [⟨[], [], []⟩] } (L ++ [(x, .slice none 0 0)]) v1 nv iv ov ∧ RTurn B w (w2.setCell ⟨p, 0, none⟩ v1) := by
  have hk := But.grown hg
  obtain ⟨inner, how⟩ := own_of h.ptrs
  have nr : ∀ qs : List Nat, tRP ∉ qs → Not w fv.ownBlock qs := fun qs hq => Not.own how (fun q hq2 e => by subst e; exact hq hq2)
  have op1 : some p ≠ fv.ownBlock := fun e => by obtain ⟨cs, hc⟩ := own_typed how p e.symm; rw [h.obj] at hc; cases hc
  have of1 : some x ≠ fv.ownBlock := fun e => by obtain ⟨cs, hc⟩ := own_typed how _ e.symm; rw [hf] at hc; cases hc
  have obj1 := hk.obj h.obj op1
  have fil1 := hk.obj hf of1
  have hs := But.setCell w2 ⟨p, 0, none⟩ v1
  have np : ∀ qs : List Nat, tRD ∉ qs → Not w2 (some p) qs := fun qs hq => Not.cells (t := tRD) (fun g hg => by obtain rfl := Option.some.inj hg; exact ⟨_, _, obj1⟩) (fun q hq2 e => hq (e ▸ hq2))
  have fil2 := hs.obj fil1 (fun e => by
    have := Option.some.inj e
    rw [this] at hf
    rw [h.obj] at hf
    cases hf)
  have fs2 := RFilesAt.row (RFilesAt.row h.files hk (nr _ (by decide))) hs (np _ (by decide))
  refine ⟨⟨blk_put obj1 0 v1 rfl, h.lop, R_row (R_row h.names hk (nr _ (by decide))) hs (np _ (by decide)), R_row (R_row h.nums hk (nr _ (by decide))) hs (np _ (by decide)), ?_, R_row (R_row h.opn hk (nr _ (by decide))) hs (np _ (by decide)), ⟨by simp [h.files.len], ?_, ?_, ?_⟩⟩, ?_⟩
  · have e : (L ++ [(x, Value.slice none 0 0)]).map Prod.fst = L.map Prod.fst ++ [x] := by simp
    rw [e]
    exact R_row hP hs (np _ (by decide))
  · intro i y f hx hfi
    by_cases hi : i < L.length
    · rw [List.getElem?_append_left hi] at hx
      rw [List.getElem?_append_left (by rw [← h.files.len]; exact hi)] at hfi
      exact fs2.each i y f hx hfi
    · have hi2 : i = L.length := by have := (List.getElem?_eq_some_iff.1 hx).1; simp at this; omega
      subst hi2
      rw [List.getElem?_append_right (Nat.le_refl _), Nat.sub_self] at hx
      rw [h.files.len, List.getElem?_append_right (Nat.le_refl _), Nat.sub_self] at hfi
      obtain rfl := Option.some.inj hx
      obtain rfl := Option.some.inj hfi
      exact ⟨fil2, Kd.R_nil _ _ _ _ _⟩
  · intro y hy
    rcases List.mem_append.1 hy with hy | hy
    · exact h.files.lo y hy
    · rw [List.mem_singleton.1 hy]
      exact hB
  · intro i j y z hx hy hij
    have cs : ∀ (i : Nat) (y : Nat × Value), (L ++ [(x, Value.slice none 0 0)])[i]? = some y → (i < L.length ∧ L[i]? = some y) ∨ (i = L.length ∧ y = (x, Value.slice none 0 0)) := fun i y hx => by
      by_cases hi : i < L.length
      · rw [List.getElem?_append_left hi] at hx; exact .inl ⟨hi, hx⟩
      · have hi2 : i = L.length := by have := (List.getElem?_eq_some_iff.1 hx).1; simp at this; omega
        subst hi2
        rw [List.getElem?_append_right (Nat.le_refl _), Nat.sub_self] at hx
        exact .inr ⟨rfl, (Option.some.inj hx).symm⟩
    rcases cs i y hx with ⟨h1, h2⟩ | ⟨h1, h2⟩
    · rcases cs j z hy with ⟨h3, h4⟩ | ⟨h3, h4⟩
      · exact h.files.far i j y z h2 h4 hij
      · subst h4
        exact ⟨hnew y (List.mem_of_getElem? h2), by cases hh : y.2.ownBlock with | none => exact .inl rfl | some b => exact .inr (by simp [Value.ownBlock])⟩
    · rcases cs j z hy with ⟨h3, h4⟩ | ⟨h3, h4⟩
      · subst h2
        exact ⟨(hnew z (List.mem_of_getElem? h4)).symm, .inl rfl⟩
      · exact absurd (h1.trans h3.symm) hij
  · exact ((RTurn.refl B w).own how rfl hg).setCell obj1 rfl h.lop 0 _
theorem infoRP : (Tryz.prog.info? 48).map (fun i => (i.zero, i.size, i.bytes)) = some (some (.pointer none), 1, 8) := by kernel_rfl
set_option maxRecDepth 100000 in
set_option maxHeartbeats 8000000 in
theorem rcreate_calls (s : ByteArray) (hs : s.size < 9223372036854775807) (h : RDiskAt B w p D) (hk : D.Ok) (hst : D.steps ≤ 999999999) (hri : Rising D.sure) :
    Calls Tryz.prog 38 #[.pointer (some ⟨p, 0, none⟩), .string s] w fun e w' => e = .returned (.int .i64 (numE (createD D s).1)) ∧ RDiskAt B w' p (createD D s).2 ∧ RTurn B w w' := by
  have HD := Aside0.mk h
  have HA := Aside0.mk (ask0_calls B p D s hs w h)
  have HW := Aside0.mk (fun (U : World) (hb : Below w.heap.size w U) => names_calls B p D U (h.keep hb) hk (by omega) hri)
  have HL := Aside0.mk (now_len hk (by omega))
  have HN := Aside0.mk (fun (U : World) (hb : Below w.heap.size w U) => name_calls (B := B) (p := p) (D := D) (w := U) ⟨s, (⟨#[]⟩ : ByteArray), D.files.length⟩ (h.keep hb) hk (by omega))
  have HFl := Aside0.mk (show D.files.length ≤ 1000000000 by have := hk.cntF; omega)
  obtain ⟨L, fv, nv, iv, ov, hl⟩ := h
  obtain ⟨Af, cf, ef⟩ := Kd.R_slice hl.ptrs
  have c0 : w.cell? ⟨p, 0, none⟩ = some (.slice Af D.files.length cf) := by rw [show D.files.length = (L.map Prod.fst).length by rw [List.length_map]; exact hl.files.len.symm, ← ef]; exact (blk_cell hl.obj 0).trans rfl
  have HC0 := Aside0.mk (fun (U : World) (hb : Below w.heap.size w U) => (hb.cell (World.block_lt_of_cell? w _ c0)).trans c0)
  cases hq : askD D s with
  | some c =>
    obtain ⟨t1, t2⟩ := numE_pos (askD_in D s c hq)
    have HR := Aside0.mk (show createD D s = (some c, D) by unfold createD; rw [hq])
    rw [hq] at HA
    clear hl hk hst hri hq ef c0
    go_enter Tryz.func38, Tryz.ntmps38
    go_wp2_with (go_at_call 95; refine HA.out.mono ?_; rintro e w1 ⟨rfl, hb1⟩; have HB := Aside0.mk hb1; clear hb1; simp only [numE])
    go_ret
    rw [HR.out]
    exact ⟨rfl, HD.out.keep HB.out, RTurn.of_below HB.out⟩
  | none =>
    have HR := Aside0.mk (show createD D s = if hasN D.now s.data.toList = true then (some 6, D) else if 64 ≤ D.now.length then (some 11, D) else
        match namedD D ⟨s, (⟨#[]⟩ : ByteArray), D.files.length⟩ with
        | (some c, D1) => (some c, D1)
        | (none, D1) => (none, { D1 with files := D1.files ++ [⟨[], [], []⟩] }) by unfold createD; rw [hq]; rfl)
    rw [hq] at HA
    have HNf := Aside0.mk (namedD_files D ⟨s, (⟨#[]⟩ : ByteArray), D.files.length⟩)
    clear hk hst hri hq ef c0 hl
    have hfl0 := fld0
    obtain ⟨nn, hnn⟩ : ∃ nn, nn = D.now.length := ⟨_, rfl⟩
    have hnb : nn ≤ 1000000000 := by rw [hnn]; exact HL.out
    rw [← hnn] at HR
    have HNn := Aside0.mk hnn
    obtain ⟨nF, hnF⟩ : ∃ nF, nF = D.files.length := ⟨_, rfl⟩
    have hFb : nF ≤ 1000000000 := by rw [hnF]; exact HFl.out
    rw [← hnF] at HR HN HC0 HNf
    have HNF := Aside0.mk hnF
    clear hnn hnF
    go_enter Tryz.func38, Tryz.ntmps38
    go_upto_region 4 with (go_at_call 95; refine HA.out.mono ?_; rintro e w1 ⟨rfl, hb1⟩; have HB := Aside0.mk hb1; clear hb1; simp only [numE])
    go_upto_region 6 with (first
      | (go_at_call 96; refine (HW.out _ HB.out).mono ?_; rintro e w3 ⟨nv2, iv2, rfl, hn2, hb3⟩; have HB3 := Aside0.mk (HB.out.trans (hb3.mono HB.out.size)); obtain ⟨r, hf, hlook⟩ := look_calls hn2 HL.out s; have HLk := Aside0.mk hlook; have HF := Aside0.mk hf; clear hn2 hb3 hlook hf)
      | (go_at_call 97; refine HLk.out.mono ?_; rintro e w4 ⟨rfl, hb4⟩; have HB4 := Aside0.mk (HB3.out.trans (hb4.mono HB3.out.size)); clear hb4; by_cases hpos : 0 ≤ r))
    · go_wp2
      go_ret
      have hh : hasN D.now s.data.toList = true := by
        rcases HF.out with ⟨h1, h2⟩ | ⟨h1, _⟩
        · omega
        · exact h1
      rw [HR.out, if_pos hh]
      exact ⟨rfl, HD.out.keep HB4.out, RTurn.of_below HB4.out⟩
    have hh : hasN D.now s.data.toList = false := by
      rcases HF.out with ⟨h1, h2⟩ | ⟨h1, i, h2, _⟩
      · exact h1
      · omega
    have HR2 := Aside0.mk HR.out
    rw [if_neg (by rw [hh]; simp)] at HR2
    clear hh HR hpos
    by_cases h64 : 64 ≤ nn
    · have t64 : decide (64 ≤ (nn : Int)) = true := decide_eq_true (by omega)
      rw [if_pos h64] at HR2
      go_wp2_with (go_at_call 96; refine (HW.out _ HB4.out).mono ?_; rintro e w5 ⟨nv3, iv3, rfl, hn3, hb5⟩; have HB5 := Aside0.mk (HB4.out.trans (hb5.mono HB4.out.size)); obtain ⟨B1, b1, B2, b2, rfl, rfl, _, _, _, _⟩ := hn3.reads; rw [← HNn.out]; clear hn3 hb5)
      go_ret
      rw [HR2.out]
      exact ⟨rfl, HD.out.keep HB5.out, RTurn.of_below HB5.out⟩
    have t64 : decide (64 ≤ (nn : Int)) = false := decide_eq_false (by omega)
    rw [if_neg h64] at HR2
    clear h64
    go_upto_region 8 with (go_at_call 96; refine (HW.out _ HB4.out).mono ?_; rintro e w5 ⟨nv3, iv3, rfl, hn3, hb5⟩; have HB5 := Aside0.mk (HB4.out.trans (hb5.mono HB4.out.size)); obtain ⟨B1, b1, B2, b2, rfl, rfl, _, _, _, _⟩ := hn3.reads; rw [← HNn.out]; clear hn3 hb5)
    have d0 := HC0.out _ HB5.out
    have c64 := HR2.out
    obtain ⟨o5, ho5⟩ : ∃ o5, o5 = (namedD D ⟨s, (⟨#[]⟩ : ByteArray), nF⟩).1 := ⟨_, rfl⟩
    obtain ⟨D5, hD5⟩ : ∃ D5, D5 = (namedD D ⟨s, (⟨#[]⟩ : ByteArray), nF⟩).2 := ⟨_, rfl⟩
    have hpr : namedD D ⟨s, (⟨#[]⟩ : ByteArray), nF⟩ = (o5, D5) := by rw [ho5, hD5]
    rw [hpr] at HN HNf c64
    clear HR2
    have HR2 := Aside0.mk c64
    have HO5 := Aside0.mk (show ∀ c, o5 = some c → c = 8 from fun c hc => by
      rw [hc] at ho5
      unfold namedD at ho5
      split at ho5
      · exact Option.some.inj ho5
      · cases ho5)
    clear c64 ho5 hD5 hpr
    cases o5 with
    | some c =>
      obtain rfl := HO5.out c rfl
      go_wp2_with (go_at_call 98; refine (HN.out _ HB5.out).mono ?_; rintro e w6 ⟨rfl, hd6, ht6⟩; have HD6 := Aside0.mk hd6; have HT6 := Aside0.mk ((RTurn.of_below HB5.out).trans ht6); clear hd6 ht6; simp only [numE])
      go_ret
      rw [HR2.out]
      exact ⟨rfl, HD6.out, HT6.out⟩
    | none =>
      go_wp2_with (first
        | (go_at_call 98; refine (HN.out _ HB5.out).mono ?_; rintro e w6 ⟨rfl, hd6, ht6⟩; obtain ⟨L6, fv6, nv6, iv6, ov6, hl6⟩ := hd6; have HL6 := Aside0.mk hl6; have HT6 := Aside0.mk ((RTurn.of_below HB5.out).trans ht6); have d6 : w6.cell? ⟨p, 0, none⟩ = some fv6 := (blk_cell hl6.obj 0).trans rfl; have HB7 := Aside0.mk (show Below w6.heap.size w6 (w6.alloc (.cells #[.string ⟨#[]⟩, .slice none 0 0] 51)) from (Below.refl _ _).alloc (Nat.le_refl _) _); have HL7 := Aside0.mk (same hl6 HB7.out); clear ht6 hl6; simp only [numE])
        | (at_builtin; refine Kd.R_append kPtr (w0 := w6.alloc (.cells #[.string ⟨#[]⟩, .slice none 0 0] 51)) B rfl _ _ 42 48 (.pointer none) 8 rfl Tryz.underlying42 infoRP rfl (by decide) (by omega) fv6 (L6.map Prod.fst) w6.heap.size [.pointer (some ⟨w6.heap.size, 0, none⟩)] (fun _ => True) (fun _ => False) rfl ?aX rfl (fun _ h => h.elim) (fun _ _ => trivial) ?aO (Below.refl _ _) ?aS ?aL ?_; (case aX => show Value.slice (some ⟨w6.heap.size + 1, 0, none⟩) 1 1 = _; simp); (case aO => exact HL7.out.ptrs); (case aS => have := HL7.out.lop; have := blk_lt HL7.out.obj; omega); (case aL => have h8 := HL7.out.files.len; have h9 := HNf.out; have h7 := HNF.out; simp only at h9; rw [h9] at h8; rw [List.length_map, h8]; omega); intro v8 w8 ho8 hb8 hg8 hat8; obtain ⟨A8, cp8, rfl⟩ := Kd.R_slice ho8; have HO8 := Aside0.mk ((But.grown hg8).obj HL7.out.obj (by obtain ⟨inner, how⟩ := own_of HL7.out.ptrs; exact fun e => by obtain ⟨cs, hc⟩ := own_typed how p e.symm; rw [HL7.out.obj] at hc; cases hc)); have e8 := (blk_cell HO8.out 0).trans rfl; have f8 := blk_frozen HO8.out 0; have HP8 := Aside0.mk ho8; have HG8 := Aside0.mk hg8; clear hb8 hat8 ho8 hg8))
      go_ret
      have hE := HP8.out
      rw [show (L6.map Prod.fst ++ [w6.heap.size]).length = L6.length + 1 by simp] at hE
      have hnew : ∀ y ∈ L6, y.1 ≠ w6.heap.size := fun y hy e => by
        obtain ⟨j, hj⟩ := List.getElem?_of_mem hy
        have hjl := (List.getElem?_eq_some_iff.1 hj).1
        have hjf : j < D5.files.length := by have := HL6.out.files.len; omega
        have := blk_lt (HL6.out.files.each j y D5.files[j] hj (List.getElem?_eq_getElem hjf)).obj
        omega
      have hB : B ≤ w6.heap.size := by have := HL6.out.lop; have := blk_lt HL6.out.obj; omega
      have hA := radd HL7.out (w2 := w8) (v1 := Value.slice A8 (L6.length + 1) cp8) (heap_alloc_new w6 _) hnew hB hE HG8.out
      rw [HR2.out]
      exact ⟨rfl, ⟨_, _, _, _, _, hA.1⟩, HT6.out.trans ((RTurn.of_below HB7.out).trans hA.2)⟩
end
end Go.Proofs.YtpcfnkmljchiiaaGreatDoor.DRnc
end
section
/- The document's Sync. -/
namespace Go.Proofs.YtpcfnkmljchiiaaGreatDoor.DRnd
open Go Go.RowKit Go.Maps Go.Proofs.YtpcfnkmljchiiaaGreatDoorW.PrintWords Go.Proofs.YtpcfnkmljchiiaaGreatDoorW.PrintLast DPl DAt DRn DRd DRl DRt DDo DRdp DRnw DRak DRau DRlm DRna DRnb DRnf DFil DOps DSd DCr DRen Right
section
variable {B p : Nat} {D : Dsk} {w w1 w2 : World} {L : List (Nat × Value)} {fv nv iv ov : Value}
/-- A file's bytes are sure, its steps forgotten. -/
theorem rdone (h : RLies B w p D L fv nv iv ov) (i : Nat) (x : Nat × Value) (f : Fil) (hx : L[i]? = some x) (hf : D.files[i]? = some f) (l : List Int) :
    RLies B ((w.setCell ⟨x.1, 0, none⟩ (.string (strOfNums l))).setCell ⟨x.1, 1, none⟩ (.slice none 0 0)) p { D with files := D.files.set i ⟨l, l, []⟩ } (L.set i (x.1, .slice none 0 0)) fv nv iv ov ∧ RTurn B w ((w.setCell ⟨x.1, 0, none⟩ (.string (strOfNums l))).setCell ⟨x.1, 1, none⟩ (.slice none 0 0)) := by
  obtain ⟨ho, hop⟩ := h.files.each i x f hx hf
  have o1 := blk_put ho 0 (.string (strOfNums l)) rfl
  have o2 := blk_put o1 1 (.slice none 0 0) rfl
  have k1 := (But.setCell w ⟨x.1, 0, none⟩ (.string (strOfNums l))).trans (But.setCell (w.setCell ⟨x.1, 0, none⟩ (.string (strOfNums l))) ⟨x.1, 1, none⟩ (.slice none 0 0))
  have lo := h.files.lo x (List.mem_of_getElem? hx)
  exact ⟨refile h i x f hx hf k1.1 (fun j hj h2 h3 => k1.2 j hj (fun e => h2 (Option.some.inj e))) (.slice none 0 0) ⟨l, l, []⟩ ⟨o2, Kd.R_nil _ _ _ _ _⟩ (.inl rfl), ((RTurn.refl B w).setCell ho rfl lo 0 _).setCell o1 rfl lo 1 _⟩
theorem rfile_keep {k : Nat} {v : Value} {f : Fil} (h : RFileAt B w k v f) (hb : Below w.heap.size w w1) : RFileAt B w1 k v f := ⟨(hb.block _ (blk_lt h.obj)).trans h.obj, Kd.R_below h.opn hb⟩
set_option maxRecDepth 100000 in
set_option maxHeartbeats 8000000 in
theorem rsync_calls (s : ByteArray) (hs : s.size < 9223372036854775807) (h : RDiskAt B w p D) (hk : D.Ok) (hst : D.steps ≤ 999999999) (hri : Rising D.sure) :
    Calls Tryz.prog 47 #[.pointer (some ⟨p, 0, none⟩), .string s] w fun e w' => e = .returned (.int .i64 (numE (syncD D s).1)) ∧ RDiskAt B w' p (syncD D s).2 ∧ RTurn B w w' := by
  have HD := Aside0.mk h
  have HA := Aside0.mk (ask1_calls B p D s hs w h hk (by omega) hri)
  cases hq : fileE D s with
  | some c =>
    obtain ⟨t1, t2⟩ := numE_pos (fileE_in hq)
    have HR := Aside0.mk (show syncD D s = (some c, D) from fileOp_no hq _)
    rw [hq] at HA
    clear h hk hst hri hq
    go_enter Tryz.func47, Tryz.ntmps47
    go_wp2_with (go_at_call 95; refine HA.out.mono ?_; rintro e w1 ⟨rfl, hb1⟩; have HB := Aside0.mk hb1; clear hb1; simp only [numE])
    go_ret
    rw [HR.out]
    exact ⟨rfl, HD.out.keep HB.out, RTurn.of_below HB.out⟩
  | none =>
    obtain ⟨i, f, hi, hf⟩ := file_at hk hq
    have HR := Aside0.mk (show syncD D s = if D.armed = 0 then (some 8, offD D) else (none, setF (stepD D) i ⟨f.now, f.now, []⟩) from fileOp_ok hq hi hf _)
    rw [hq] at HA
    obtain ⟨L, fv, nv, iv, ov, hl⟩ := h
    have HS := Aside0.mk (fun (U : World) (hb : Below w.heap.size w U) => rstepL (same hl hb) hk (show D.steps ≤ 1000000000 by omega))
    by_cases h0 : D.armed = 0
    · have e1 : rstepD D = (8, offD D) := by unfold rstepD; rw [if_pos h0]
      have HR2 := Aside0.mk HR.out
      rw [if_pos h0] at HR2
      rw [e1] at HS
      clear HR hl hk hst hri hq hi hf e1 h0
      go_enter Tryz.func47, Tryz.ntmps47
      go_wp2_with (first
        | (go_at_call 95; refine HA.out.mono ?_; rintro e w1 ⟨rfl, hb1⟩; have HB := Aside0.mk hb1; clear hb1; simp only [numE])
        | (go_at_call 102; refine (HS.out _ HB.out).mono ?_; rintro e w2 ⟨rfl, hl2, ht2, hb2⟩; have HL2 := Aside0.mk hl2; have HT2 := Aside0.mk ((RTurn.of_below HB.out).trans ht2); clear hl2 ht2 hb2))
      go_ret
      rw [HR2.out]
      exact ⟨rfl, ⟨_, _, _, _, _, HL2.out⟩, HT2.out⟩
    · have e1 : rstepD D = (0, stepD D) := by unfold rstepD; rw [if_neg h0]
      have HR2 := Aside0.mk HR.out
      rw [if_neg h0] at HR2
      rw [e1] at HS
      have HNm := Aside0.mk (fun (U : World) (hu : RLies B U p (stepD D) L fv nv iv ov) => names_calls B p (stepD D) U ⟨L, fv, nv, iv, ov, hu⟩ (stepD_ok hk) (by show D.steps + 1 ≤ 1000000000; omega) hri)
      have HLn := Aside0.mk (now_len hk (show D.steps ≤ 1000000000 by omega))
      have HFi := Aside0.mk (show fileI D.now s.data.toList = (i : Int) by unfold fileI; rw [if_pos (fileE_none hq).2, hi])
      have HF := Aside0.mk hf
      have hil := (List.getElem?_eq_some_iff.1 hf).1
      obtain ⟨x, hx⟩ : ∃ x, L[i]? = some x := ⟨_, List.getElem?_eq_getElem (by rw [hl.files.len]; exact hil)⟩
      have HX := Aside0.mk hx
      have HFk := Aside0.mk (hk.fil f (List.mem_of_getElem? hf))
      have HSt := Aside0.mk hst
      have hFl : D.files.length ≤ 1000000000 := by have := hk.cntF; omega
      have hLl := hl.files.len
      clear HR hk hst hri hq hi hf hx e1 h0 hl
      go_enter Tryz.func47, Tryz.ntmps47
      go_upto_region 7 with (first
        | (go_at_call 95; refine HA.out.mono ?_; rintro e w1 ⟨rfl, hb1⟩; have HB := Aside0.mk hb1; clear hb1; simp only [numE])
        | (go_at_call 102; refine (HS.out _ HB.out).mono ?_; rintro e w2 ⟨rfl, hl2, ht2, hb2⟩; have HL2 := Aside0.mk hl2; have HT2 := Aside0.mk ((RTurn.of_below HB.out).trans ht2); clear hl2 ht2 hb2))
      have HL3 := Aside0.mk (show RLies B w2.drew p (stepD D) L fv nv iv ov from same HL2.out (Below.refl _ _).drew)
      have HT3 := Aside0.mk (show RTurn B w w2.drew from HT2.out.below (Below.refl _ _).drew)
      obtain ⟨g, cp, ef, hcp, hg⟩ := rptr_at HL3.out.ptrs i x.1 (by rw [List.getElem?_map, HX.out]; rfl)
      rw [List.length_map, hLl] at ef
      have z0 := (blk_cell HL3.out.obj 0).trans (rfl : _ = some fv)
      rw [ef] at z0
      have i0 : (0 : Int) ≤ (i : Int) := by omega
      have i1 : (i : Int) < (D.files.length : Int) := by omega
      obtain ⟨nF, hnF⟩ : ∃ nF, nF = D.files.length := ⟨_, rfl⟩
      rw [← hnF] at z0 i1 hFl
      clear HL2 HT2 HS hcp ef hil hLl hnF
      refine start_ (n := 11) (S := fun w' => w'.cell? ⟨p, 0, none⟩ = some (.slice (some ⟨g, 0, none⟩) nF cp) ∧ w'.cell? ⟨g, i, none⟩ = some (.pointer (some ⟨x.1, 0, none⟩))) (ds := []) #[ff,ff,ff,ff,ff,ff,ff,ff,ff,ff,ff] (by kernel_rfl) rfl rfl ⟨z0, hg⟩ (fun hHeld => ?_)
      generalize w2.drew = w3 at HL3 HT3 z0 hg hHeld ⊢
      have hHeld0 := hHeld
      refine pure_ (i := 0) (N := some 19) (v := ?_) (a' := ?_) #[tt,ff,ff,ff,ff,ff,ff,ff,ff,ff,ff] rfl rfl (by kernel_rfl) (fun _ _ _ h => h) (Or.inl ⟨by rfl, ?_⟩) ?_ ?_
      rotate_left
      · intro w'
        go_simp
        with_reducible rfl
      rotate_left
      · simp only [Act.put, pkA, pkB, pkC, i64_w, i32_w]
        rfl
      refine pure_ (i := 1) (N := some 20) (v := ?_) (a' := ?_) #[tt,tt,ff,ff,ff,ff,ff,ff,ff,ff,ff] rfl rfl (by kernel_rfl) (fun _ _ _ h => h) (Or.inl ⟨by rfl, ?_⟩) ?_ ?_
      rotate_left
      · intro w'
        go_simp
        with_reducible rfl
      rotate_left
      · simp only [Act.put, pkA, pkB, pkC, i64_w, i32_w]
        rfl
      refine pure_ (i := 2) (N := some 21) (v := ?_) (a' := ?_) #[tt,tt,tt,ff,ff,ff,ff,ff,ff,ff,ff] rfl rfl (by kernel_rfl) (fun _ _ _ h => h) (Or.inl ⟨by rfl, ?_⟩) ?_ ?_
      rotate_left
      · intro w'
        go_simp
        with_reducible rfl
      rotate_left
      · simp only [Act.put, pkA, pkB, pkC, i64_w, i32_w]
        rfl
      refine pure_ (i := 4) (N := some 23) (v := ?_) (a' := ?_) #[tt,tt,tt,ff,tt,ff,ff,ff,ff,ff,ff] rfl rfl (by kernel_rfl) (fun _ _ _ h => h) (Or.inl ⟨by rfl, ?_⟩) ?_ ?_
      rotate_left
      · intro w'
        go_simp
        with_reducible rfl
      rotate_left
      · simp only [Act.put, pkA, pkB, pkC, i64_w, i32_w]
        rfl
      refine pure_ (i := 6) (N := some 25) (v := ?_) (a' := ?_) #[tt,tt,tt,ff,tt,ff,tt,ff,ff,ff,ff] rfl rfl (by kernel_rfl) (fun _ _ _ h => h) (Or.inl ⟨by rfl, ?_⟩) ?_ ?_
      rotate_left
      · intro w'
        go_simp
        with_reducible rfl
      rotate_left
      · simp only [Act.put, pkA, pkB, pkC, i64_w, i32_w]
        rfl
      refine take_ (i := 3) (N := some 22) (v := ?_) (a' := ?_) #[tt,tt,tt,tt,tt,ff,tt,ff,ff,ff,ff] rfl rfl (by kernel_rfl) (fun _ _ _ h => h) (Or.inl ⟨by rfl, ?_⟩) hHeld ?_ ?_
      rotate_left
      · rintro w' ⟨s0, s1⟩
        go_simp
        with_reducible rfl
      rotate_left
      · simp only [Act.put, pkA, pkB, pkC, i64_w, i32_w]
        rfl
      refine one_ (i := 5) (N := some 24) #[tt,tt,tt,tt,tt,tt,tt,ff,ff,ff,ff] rfl rfl (by kernel_rfl) (by decide) (fun K hK => ?_)
      refine goes_ Tryz.func96 (by kernel_rfl) rfl #[.pointer (some ⟨p, 0, none⟩)] (by rfl) rfl rfl (by simp only [List.map_toArray, List.map_cons, List.map_nil]; rfl) ?_
      with_reducible refine (HNm.out _ HL3.out).mono ?_
      rintro e w4 ⟨nv2, iv2, rfl, hn2, hb4⟩
      refine ⟨_, rfl, ?_⟩
      have HB4 := Aside0.mk hb4
      have HLk := Aside0.mk (file_calls hn2 (show (stepD D).now.length ≤ 1000000000 from HLn.out) s)
      rw [show fileI (stepD D).now s.data.toList = (i : Int) from HFi.out] at HLk
      have k4 := fun (g i : Nat) (v : Value) (hc : w3.cell? ⟨g, i, none⟩ = some v) => (hb4.cell (p := ⟨g, i, none⟩) (World.block_lt_of_cell? w3 _ hc)).trans hc
      clear hn2 hb4
      refine hK.out _ _ ⟨(k4 _ _ _ hHeld0.1), (k4 _ _ _ hHeld0.2)⟩ (fun hHeld => ?_)
      clear hK K
      refine norm_ (a' := ?_) ?_ ?_
      rotate_left
      · show Act.put _ (some 24) _ = _
        simp only [Act.put, pkA, pkB, pkC, i64_w, i32_w]
        rfl
      refine one_ (i := 7) (N := some 26) #[tt,tt,tt,tt,tt,tt,tt,tt,ff,ff,ff] rfl rfl (by kernel_rfl) (by decide) (fun K hK => ?_)
      refine goes_ Tryz.func99 (by kernel_rfl) rfl #[.agg #[nv2, iv2], .string s] (by rfl) rfl rfl (by simp only [List.map_toArray, List.map_cons, List.map_nil]; rfl) ?_
      with_reducible refine (HLk.out).mono ?_
      rintro e w5 ⟨rfl, hb5⟩
      refine ⟨_, rfl, ?_⟩
      have HB5 := Aside0.mk (HB4.out.trans (hb5.mono HB4.out.size))
      have k5 := fun (g i : Nat) (v : Value) (hc : w3.cell? ⟨g, i, none⟩ = some v) => (HB5.out.cell (p := ⟨g, i, none⟩) (World.block_lt_of_cell? w3 _ hc)).trans hc
      clear hb5
      refine hK.out _ _ ⟨(k5 _ _ _ hHeld0.1), (k5 _ _ _ hHeld0.2)⟩ (fun hHeld => ?_)
      clear hK K
      refine norm_ (a' := ?_) ?_ ?_
      rotate_left
      · show Act.put _ (some 26) _ = _
        simp only [Act.put, pkA, pkB, pkC, i64_w, i32_w]
        rfl
      refine pure_ (i := 8) (N := some 27) (v := ?_) (a' := ?_) #[tt,tt,tt,tt,tt,tt,tt,tt,tt,ff,ff] rfl rfl (by kernel_rfl) (fun _ _ _ h => h) (Or.inl ⟨by rfl, ?_⟩) ?_ ?_
      rotate_left
      · intro w'
        go_simp
        with_reducible rfl
      rotate_left
      · simp only [Act.put, pkA, pkB, pkC, i64_w, i32_w]
        rfl
      refine take_ (i := 9) (N := some 28) (v := ?_) (a' := ?_) #[tt,tt,tt,tt,tt,tt,tt,tt,tt,tt,ff] rfl rfl (by kernel_rfl) (fun _ _ _ h => h) (Or.inl ⟨by rfl, ?_⟩) hHeld ?_ ?_
      rotate_left
      · rintro w' ⟨s0, s1⟩
        go_simp
        with_reducible rfl
      rotate_left
      · simp only [Act.put, pkA, pkB, pkC, i64_w, i32_w]
        rfl
      refine pure_ (i := 10) (N := some 7) (v := ?_) (a' := ?_) #[tt,tt,tt,tt,tt,tt,tt,tt,tt,tt,tt] rfl rfl (by kernel_rfl) (fun _ _ _ h => h) (Or.inl ⟨by rfl, ?_⟩) ?_ ?_
      rotate_left
      · intro w'
        go_simp
        with_reducible rfl
      rotate_left
      · simp only [Act.put, pkA, pkB, pkC, i64_w, i32_w]
        rfl
      refine done_ (by kernel_rfl) ?_
      have HL5 := Aside0.mk (same HL3.out HB5.out)
      have HT5 := Aside0.mk (HT3.out.below HB5.out)
      have HFa := Aside0.mk (HL5.out.files.each i x f HX.out HF.out)
      have HNw := Aside0.mk (rnow_calls B x.1 x.2 f D.steps w5 HFa.out HFk.out (by have := HSt.out; omega))
      clear HL3 HT3 HNm HLk HB4 HB5 z0 hg hHeld hHeld0 k4 k5
      go_wp2_with (go_at_call 100; refine HNw.out.mono ?_; rintro e w6 ⟨rfl, hb6⟩; have HL6 := Aside0.mk (same HL5.out hb6); have HT6 := Aside0.mk (HT5.out.below hb6); have HF6 := Aside0.mk (rfile_keep HFa.out hb6); have y0 := (blk_cell HF6.out.obj 0).trans (rfl : _ = some (Value.string (strOfNums f.sure))); have y1 := (blk_cell HF6.out.obj 1).trans (rfl : _ = some x.2); have f0 := blk_frozen HF6.out.obj 0; have f1 := blk_frozen HF6.out.obj 1; clear hb6)
      go_ret
      obtain ⟨k1, k2⟩ := rdone HL6.out i x f HX.out HF.out f.now
      rw [HR2.out]
      exact ⟨rfl, ⟨_, _, _, _, _, k1⟩, HT6.out.trans k2⟩
end
end Go.Proofs.YtpcfnkmljchiiaaGreatDoor.DRnd
end
