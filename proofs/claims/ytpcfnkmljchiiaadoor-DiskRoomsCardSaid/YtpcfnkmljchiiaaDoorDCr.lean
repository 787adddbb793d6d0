/- Disk: Create, Rename. -/
import Derived.Test.YtpcfnkmljchiiaaDoorDSd
namespace Go.Proofs.YtpcfnkmljchiiaaDoor.DAt
open Go Go.RowKit Go.Maps Go.Proofs.YtpcfnkmljchiiaaDoorW.PrintWords Go.Proofs.YtpcfnkmljchiiaaDoor.DPl Go.Proofs.YtpcfnkmljchiiaaDoor.Is
set_option linter.unusedVariables false
variable {B p : Nat} {D : Dsk} {L : List (Nat × Value)} {m1 m2 : Nat} {fv ov : Value} {w w1 w2 : World}
def fileO : Obj := .cells #[.slice none 0 0, .slice none 0 0, .slice none 0 0] 69 (0, 0)
/-- A file more. -/
theorem Lies.addFile (h : Lies B w p D L m1 m2 fv ov) (hf : w.heap[w.heap.size - 1]? = some fileO) (hnew : ∀ x ∈ L, x.1 ≠ w.heap.size - 1) (hB : B ≤ w.heap.size - 1) {v1 : Value} (hP : PtrsAt B w2 v1 (L.map Prod.fst ++ [w.heap.size - 1])) (hg : w.grownBy w2 fv.ownBlock) :
    Lies B (w2.setCell ⟨p, 0, none⟩ v1) p { D with files := D.files ++ [⟨[], [], []⟩] } (L ++ [(w.heap.size - 1, .slice none 0 0)]) m1 m2 v1 ov ∧ Turn B w (w2.setCell ⟨p, 0, none⟩ v1) := by
  have hk := But.grown hg
  obtain ⟨inner, how⟩ := own_of h.ptrs
  have nr : ∀ qs : List Nat, 66 ∉ qs → Not w fv.ownBlock qs := fun qs hq => Not.own how (fun q hq2 e => hq (e ▸ hq2))
  have op1 : some p ≠ fv.ownBlock := fun e => by obtain ⟨cs, hc⟩ := own_typed how p e.symm; rw [h.obj] at hc; cases hc
  have of1 : some (w.heap.size - 1) ≠ fv.ownBlock := fun e => by obtain ⟨cs, hc⟩ := own_typed how _ e.symm; rw [hf] at hc; cases hc
  have om : ∀ {m : Nat} {N : Nms}, NamesAt w m N → some m ≠ fv.ownBlock := fun hm e => by
    obtain ⟨cs, hc⟩ := own_typed how _ e.symm
    obtain ⟨es, cl, h1⟩ := hm.obj
    rw [h1] at hc
    cases hc
  have obj1 := hk.obj h.obj op1
  have fil1 := hk.obj hf of1
  have hs := But.setCell w2 ⟨p, 0, none⟩ v1
  have np : ∀ qs : List Nat, tD ∉ qs → Not w2 (some p) qs := fun qs hq => Not.cells (t := tD) (fun g hg => by obtain rfl := Option.some.inj hg; exact ⟨_, _, obj1⟩) (fun q hq2 e => hq (e ▸ hq2))
  have ne1 : ∀ {m : Nat} {N : Nms}, NamesAt w2 m N → some m ≠ some p := fun hm e => by
    obtain rfl := Option.some.inj e
    obtain ⟨es, cl, h1⟩ := hm.obj
    rw [obj1] at h1
    cases h1
  have now1 := h.now.same (hk.2 _ h.now.lt (om h.now))
  have sure1 := h.sure.same (hk.2 _ h.sure.lt (om h.sure))
  have fil2 := hs.obj fil1 (fun e => by
    have := Option.some.inj e
    rw [this] at hf
    rw [h.obj] at hf
    cases hf)
  have fs2 := (h.files.row hk (nr _ (by decide))).row hs (np _ (by decide))
  refine ⟨⟨blk_put obj1 0 v1 rfl, h.lop, h.lo1, h.lo2, h.ne, now1.same (hs.2 _ now1.lt (ne1 now1)), sure1.same (hs.2 _ sure1.lt (ne1 sure1)), ?_, R_row (R_row h.opn hk (nr _ (by rw [kEntE]; decide))) hs (np _ (by rw [kEntE]; decide)), ⟨by simp [h.files.len], ?_, ?_⟩⟩, ?_⟩
  · have e : (L ++ [(w.heap.size - 1, Value.slice none 0 0)]).map Prod.fst = L.map Prod.fst ++ [w.heap.size - 1] := by simp
    rw [e]
    exact R_row hP hs (np _ (by rw [kPtrE]; decide))
  · intro i x f hx hfi
    by_cases hi : i < L.length
    · rw [List.getElem?_append_left hi] at hx
      rw [List.getElem?_append_left (by rw [← h.files.len]; exact hi)] at hfi
      exact fs2.each i x f hx hfi
    · have hi2 : i = L.length := by have := (List.getElem?_eq_some_iff.1 hx).1; simp at this; omega
      subst hi2
      rw [List.getElem?_append_right (Nat.le_refl _), Nat.sub_self] at hx
      rw [h.files.len, List.getElem?_append_right (Nat.le_refl _), Nat.sub_self] at hfi
      obtain rfl := Option.some.inj hx
      obtain rfl := Option.some.inj hfi
      exact ⟨⟨_, _, fil2, Kd.R_nil _ _ _ _ _, Kd.R_nil _ _ _ _ _⟩, hB, Kd.R_nil _ _ _ _ _⟩
  · intro i j x y hx hy hij
    have cs : ∀ (i : Nat) (x : Nat × Value), (L ++ [(w.heap.size - 1, Value.slice none 0 0)])[i]? = some x → (i < L.length ∧ L[i]? = some x) ∨ (i = L.length ∧ x = (w.heap.size - 1, Value.slice none 0 0)) := fun i x hx => by
      by_cases hi : i < L.length
      · rw [List.getElem?_append_left hi] at hx; exact .inl ⟨hi, hx⟩
      · have hi2 : i = L.length := by have := (List.getElem?_eq_some_iff.1 hx).1; simp at this; omega
        subst hi2
        rw [List.getElem?_append_right (Nat.le_refl _), Nat.sub_self] at hx
        exact .inr ⟨rfl, (Option.some.inj hx).symm⟩
    rcases cs i x hx with ⟨h1, h2⟩ | ⟨h1, h2⟩
    · rcases cs j y hy with ⟨h3, h4⟩ | ⟨h3, h4⟩
      · exact h.files.far i j x y h2 h4 hij
      · subst h4
        exact ⟨hnew x (List.mem_of_getElem? h2), by cases hh : x.2.ownBlock with | none => exact .inl rfl | some b => exact .inr (by simp [Value.ownBlock])⟩
    · rcases cs j y hy with ⟨h3, h4⟩ | ⟨h3, h4⟩
      · subst h2
        exact ⟨(hnew y (List.mem_of_getElem? h4)).symm, .inl rfl⟩
      · exact absurd (h1.trans h3.symm) hij
  · exact ((Turn.refl B w).own how rfl hg).setCell obj1 rfl h.lop 0 _
end Go.Proofs.YtpcfnkmljchiiaaDoor.DAt
namespace Go.Proofs.YtpcfnkmljchiiaaDoor.DCr
open Go Go.RowKit Go.Maps Go.WideMaps Go.Proofs.YtpcfnkmljchiiaaDoorW.PrintWords Go.Proofs.YtpcfnkmljchiiaaDoorW.PrintLast Go.Proofs.YtpcfnkmljchiiaaDoor.DBase Go.Proofs.YtpcfnkmljchiiaaDoor.DPl Go.Proofs.YtpcfnkmljchiiaaDoor.DAt Go.Proofs.YtpcfnkmljchiiaaDoor.DEnt Go.Proofs.YtpcfnkmljchiiaaDoor.DNam Go.Proofs.YtpcfnkmljchiiaaDoor.Is Go.Proofs.YtpcfnkmljchiiaaDoor.DFil Go.Proofs.YtpcfnkmljchiiaaDoor.DUsd Go.Proofs.YtpcfnkmljchiiaaDoor.DStp Go.Proofs.YtpcfnkmljchiiaaDoor.DOps Go.Proofs.YtpcfnkmljchiiaaDoor.DAsk Go.Proofs.YtpcfnkmljchiiaaDoor.Right
set_option linter.unusedVariables false
set_option linter.unusedSimpArgs false
theorem gExists : gOf 6 = 0 := by decide
theorem gFull : gOf 11 = 1 := by decide
theorem infoP : (Tryd.prog.info? 66).map (fun i => (i.zero, i.size, i.bytes)) = some (some (.pointer none), 1, 8) := by kernel_rfl
def createD (D : Dsk) (s : ByteArray) : Option Int × Dsk :=
  match askD D s with
  | some c => (some c, D)
  | none => if hasN D.now s.data.toList = true then (some 6, D) else if 64 ≤ D.now.length then (some 11, D) else
    match namedD D ⟨s, (⟨#[]⟩ : ByteArray), D.files.length⟩ with
    | (some c, D1) => (some c, D1)
    | (none, D1) => (none, { D1 with files := D1.files ++ [⟨[], [], []⟩] })
theorem namedD_files (D : Dsk) (e : Ent) : (namedD D e).2.files = D.files := by
  unfold namedD
  split <;> rfl
section
variable (B p : Nat) (D : Dsk) (E : Int → Addr) (w : World)
set_option maxRecDepth 100000 in
set_option maxHeartbeats 8000000 in
theorem create_calls (h : DiskAt B w p D) (hE : ErrAt B w E) (hk : D.Ok) (hst : D.steps ≤ 1000000000) (s : ByteArray) (hs : s.size < 9223372036854775807) :
    Calls Tryd.prog 8 #[.pointer (some ⟨p, 0, none⟩), .string s] w fun e w' => e = .returned (errV E (createD D s).1) ∧ DiskAt B w' p (createD D s).2 ∧ Turn B w w' := by
  have HB0 := Aside0.mk (show Below w.heap.size w (w.alloc (.cells #[.string s] 9)) from (Below.refl _ _).alloc (Nat.le_refl _) _)
  have h1 := h.below HB0.out
  have hE1 := hE.turn (Turn.of_below HB0.out)
  have HH := Aside0.mk h
  obtain ⟨L, m1, m2, fv, ov, hl⟩ := h1
  have HA := Aside0.mk (ask_calls p w.heap.size 1 D s hs E _ hl hE1 ((World.cell?_alloc_new _ _ _ _).trans rfl))
  cases hq : askD D s with
  | some c =>
    have e : createD D s = (some c, D) := by unfold createD; rw [hq]
    rw [e]
    rw [hq] at HA
    simp only [errV_some] at HA ⊢
    clear e hE hE1 hl hq h
    go_enter Tryd.func8, Tryd.ntmps8
    go_wp2_with (go_at_call 30; refine HA.out.mono ?_; rintro e w1 ⟨rfl, hb⟩; have HB1 := Aside0.mk (HB0.out.trans (hb.mono (by simp))); clear hb)
    go_ret
    exact ⟨rfl, HH.out.below HB1.out, Turn.of_below HB1.out⟩
  | none =>
    rw [hq, errV_none] at HA
    have hsz := (askD_none hq).1
    have K1 := keyS s hsz
    clear hl
    obtain ⟨L, m1, m2, fv, ov, hl⟩ := h
    have c1 : w.cell? ⟨p, 1, none⟩ = some (.map (some m1)) := (blk_cell hl.obj 1).trans rfl
    have hp := blk_lt hl.obj
    have HC := Aside0.mk (fun W (hb : Below w.heap.size w W) => (hb.cell (p := ⟨p, 1, none⟩) hp).trans c1)
    have HM := Aside0.mk (fun W (hb : Below w.heap.size w W) => (show W.ownsMap (H := Unit) Tryd.prog 9 (plainElem Tryd.prog 3) m1 D.now.length (nmData D.now) from hl.now.below hb))
    have hhas := nmData_has D.now s.data.toList
    have hsize := nmData_size D.now
    have HSz := Aside0.mk hsize
    have c6 := hE.errs.var 6 (by simp [dErr])
    have c11 := hE.errs.var 11 (by simp [dErr])
    rw [gExists] at c6
    rw [gFull] at c11
    have HE6 := Aside0.mk (fun W (hb : Below w.heap.size w W) => (hb.cell (p := ⟨0, 0, none⟩) (World.block_lt_of_cell? w _ c6)).trans c6)
    have HE11 := Aside0.mk (fun W (hb : Below w.heap.size w W) => (hb.cell (p := ⟨1, 0, none⟩) (World.block_lt_of_cell? w _ c11)).trans c11)
    by_cases hn : hasN D.now s.data.toList = true
    · have e : createD D s = (some 6, D) := by unfold createD; rw [hq]; simp only; rw [if_pos hn]
      rw [e]
      rw [hn] at hhas
      have HHs := Aside0.mk hhas
      simp only [errV_some]
      clear e hE hE1 hl hq hn hhas hsize c1 c6 c11 hsz
      go_enter Tryd.func8, Tryd.ntmps8
      go_wp2_with (first
        | (go_at_call 30; refine HA.out.mono ?_; rintro e w1 ⟨rfl, hb⟩; have HB1 := Aside0.mk (HB0.out.trans (hb.mono (by simp))); clear hb; have c1 := HC.out _ HB1.out; have c6 := HE6.out _ HB1.out)
        | (at_lookup; refine wpList_lookup_own_ok_int _ rfl _ _ 55 rfl 9 3 .i64 law Tryd.underlying55 Tryd.underlying3 (zeroE _) m1 D.now.length (nmData D.now) rfl (HM.out _ HB1.out) _ _ rfl K1 ?_; rw [HHs.out]; intro c hat hwc; clear hat hwc))
      go_ret
      exact ⟨rfl, HH.out.below HB1.out, Turn.of_below HB1.out⟩
    · have hn' : hasN D.now s.data.toList = false := by simpa using hn
      rw [hn'] at hhas
      have HHs := Aside0.mk hhas
      by_cases hfull : 64 ≤ D.now.length
      · have e : createD D s = (some 11, D) := by unfold createD; rw [hq]; simp only; rw [if_neg hn, if_pos hfull]
        rw [e]
        simp only [errV_some]
        have t1 : decide ((64 : Int) ≤ (D.now.length : Int)) = true := decide_eq_true (by omega)
        clear e hE hE1 hl hq hn hn' hhas hsize c1 c6 c11 hsz
        go_enter Tryd.func8, Tryd.ntmps8
        go_wp2_with (first
          | (go_at_call 30; refine HA.out.mono ?_; rintro e w1 ⟨rfl, hb⟩; have HB1 := Aside0.mk (HB0.out.trans (hb.mono (by simp))); clear hb; have c1 := HC.out _ HB1.out; have c11 := HE11.out _ HB1.out)
          | (at_lookup; refine wpList_lookup_own_ok_int _ rfl _ _ 55 rfl 9 3 .i64 law Tryd.underlying55 Tryd.underlying3 (zeroE _) m1 D.now.length (nmData D.now) rfl (HM.out _ HB1.out) _ _ rfl K1 ?_; rw [HHs.out]; intro c hat hwc; clear hat hwc)
          | (at_len; refine wpList_len_own _ rfl _ 55 rfl 9 3 Tryd.underlying55 _ m1 D.now.length (nmData D.now) rfl (HM.out _ HB1.out) ?_; rw [HSz.out]))
        go_ret
        exact ⟨rfl, HH.out.below HB1.out, Turn.of_below HB1.out⟩
      · have t1 : decide ((64 : Int) ≤ (D.now.length : Int)) = false := decide_eq_false (by omega)
        have e : createD D s = (match namedD D ⟨s, (⟨#[]⟩ : ByteArray), D.files.length⟩ with | (some c, D1) => (some c, D1) | (none, D1) => (none, { D1 with files := D1.files ++ [⟨[], [], []⟩] })) := by unfold createD; rw [hq]; simp only; rw [if_neg hn, if_neg hfull]
        rw [e]
        obtain ⟨g, cp, nl, efv, enl⟩ : ∃ A cp nl, fv = .slice A nl cp ∧ nl = D.files.length := by
          obtain ⟨A, cp, e⟩ := Kd.R_slice hl.ptrs
          exact ⟨A, cp, _, e, by rw [List.length_map, hl.files.len]⟩
        have c0 : w.cell? ⟨p, 0, none⟩ = some (.slice g nl cp) := by rw [← efv]; exact (blk_cell hl.obj 0).trans rfl
        have HC0 := Aside0.mk (fun W (hb : Below w.heap.size w W) => (hb.cell (p := ⟨p, 0, none⟩) hp).trans c0)
        have hfl := hk.cntF
        have HN := Aside0.mk (fun (U : World) (hb : Below w.heap.size w U) => named_calls B p D ⟨s, (⟨#[]⟩ : ByteArray), D.files.length⟩ E U (HH.out.below hb) (hE.turn (Turn.of_below hb)) hk (by omega) hsz (by simp only; decide) (by simp only; omega) (by simp only; omega))
        simp only [entV] at HN
        rw [← enl] at HN ⊢
        have hNF := namedD_files D ⟨s, (⟨#[]⟩ : ByteArray), nl⟩
        cases hres : namedD D ⟨s, (⟨#[]⟩ : ByteArray), nl⟩ with
        | mk r D1 =>
          rw [hres] at HN hNF
          simp only at HN hNF
          have HNF := Aside0.mk hNF
          have HFl := Aside0.mk (show (D.files.length : Int) ≤ 1000000000 by omega)
          cases r with
          | some c =>
            simp only [errV_some] at HN ⊢
            clear e hE hE1 hl hq hn hn' hhas hsize c1 c6 c11 hsz hfull efv enl c0 hres hNF hfl
            go_enter Tryd.func8, Tryd.ntmps8
            go_wp2_with (first
              | (go_at_call 30; refine HA.out.mono ?_; rintro e w1 ⟨rfl, hb⟩; have HB1 := Aside0.mk (HB0.out.trans (hb.mono (by simp))); clear hb; have c1 := HC.out _ HB1.out; have c0 := HC0.out _ HB1.out)
              | (at_lookup; refine wpList_lookup_own_ok_int _ rfl _ _ 55 rfl 9 3 .i64 law Tryd.underlying55 Tryd.underlying3 (zeroE _) m1 D.now.length (nmData D.now) rfl (HM.out _ HB1.out) _ _ rfl K1 ?_; rw [HHs.out]; intro c hat hwc; clear hat hwc)
              | (at_len; refine wpList_len_own _ rfl _ 55 rfl 9 3 Tryd.underlying55 _ m1 D.now.length (nmData D.now) rfl (HM.out _ HB1.out) ?_; rw [HSz.out])
              | (go_at_call 31; refine (HN.out _ HB1.out).mono ?_; rintro e w2 ⟨rfl, hd, ht⟩; have HD2 := Aside0.mk hd; have HT2 := Aside0.mk ht; clear hd ht))
            go_ret
            exact ⟨rfl, HD2.out, (Turn.of_below HB1.out).trans HT2.out⟩
          | none =>
            simp only [errV_none] at HN ⊢
            clear e hE hE1 hl hq hn hn' hhas hsize c1 c6 c11 hsz hfull efv enl c0 hres hNF hfl
            go_enter Tryd.func8, Tryd.ntmps8
            go_wp2_with (first
              | (go_at_call 30; refine HA.out.mono ?_; rintro e w1 ⟨rfl, hb⟩; have HB1 := Aside0.mk (HB0.out.trans (hb.mono (by simp))); clear hb; have c1 := HC.out _ HB1.out; have c0 := HC0.out _ HB1.out)
              | (at_lookup; refine wpList_lookup_own_ok_int _ rfl _ _ 55 rfl 9 3 .i64 law Tryd.underlying55 Tryd.underlying3 (zeroE _) m1 D.now.length (nmData D.now) rfl (HM.out _ HB1.out) _ _ rfl K1 ?_; rw [HHs.out]; intro c hat hwc; clear hat hwc)
              | (at_len; refine wpList_len_own _ rfl _ 55 rfl 9 3 Tryd.underlying55 _ m1 D.now.length (nmData D.now) rfl (HM.out _ HB1.out) ?_; rw [HSz.out])
              | (go_at_call 31; refine (HN.out _ HB1.out).mono ?_; rintro e w2 ⟨rfl, hd, ht⟩; obtain ⟨L2, n1, n2, fv2, ov2, hl2⟩ := hd; have HL2 := Aside0.mk hl2; have HT2 := Aside0.mk ht; have d0 : w2.cell? ⟨p, 0, none⟩ = some fv2 := (blk_cell hl2.obj 0).trans rfl; have HB3 := Aside0.mk (show Below w2.heap.size w2 (w2.alloc (.cells #[.slice none 0 0, .slice none 0 0, .slice none 0 0] 69)) from (Below.refl _ _).alloc (Nat.le_refl _) _); have HL3 := Aside0.mk (hl2.below HB3.out); clear ht hl2)
              | (at_builtin; refine Kd.R_append kPtr (w0 := w2.alloc (.cells #[.slice none 0 0, .slice none 0 0, .slice none 0 0] 69)) B rfl _ _ 56 66 (.pointer none) 8 rfl Tryd.underlying56 infoP rfl (by decide) (by omega) fv2 (L2.map Prod.fst) w2.heap.size [.pointer (some ⟨w2.heap.size, 0, none⟩)] (fun _ => True) (fun _ => False) rfl ?aX rfl (fun _ h => h.elim) (fun _ _ => trivial) ?aO (Below.refl _ _) ?aS ?aL ?_; (case aX => show Value.slice (some ⟨w2.heap.size + 1, 0, none⟩) 1 1 = _; simp); (case aO => exact HL3.out.ptrs); (case aS => have := HL3.out.lop; have := blk_lt HL3.out.obj; omega); (case aL => have h8 := HL3.out.files.len; have h9 := HFl.out; rw [HNF.out] at h8; rw [List.length_map, h8]; omega); intro v5 w5 ho5 hb5 hg5 hat5; obtain ⟨A5, cp5, rfl⟩ := Kd.R_slice ho5; have HO5 := Aside0.mk ((But.grown hg5).obj HL3.out.obj (by obtain ⟨inner, how⟩ := own_of HL3.out.ptrs; exact fun e => by obtain ⟨cs, hc⟩ := own_typed how p e.symm; rw [HL3.out.obj] at hc; cases hc)); have e5 := (blk_cell HO5.out 0).trans rfl; have f5 := blk_frozen HO5.out 0; have HP5 := Aside0.mk ho5; have HG5 := Aside0.mk hg5; clear hb5 hat5 ho5 hg5))
            go_ret
            have hE := HP5.out
            rw [show (L2.map Prod.fst ++ [w2.heap.size]).length = L2.length + 1 by simp] at hE
            have hz : (w2.alloc (.cells #[.slice none 0 0, .slice none 0 0, .slice none 0 0] 69)).heap.size - 1 = w2.heap.size := by simp
            have hnew : ∀ x ∈ L2, x.1 ≠ w2.heap.size := fun x hx e => by
              obtain ⟨j, hj⟩ := List.getElem?_of_mem hx
              have hjl := (List.getElem?_eq_some_iff.1 hj).1
              have hjf : j < D1.files.length := by have := HL2.out.files.len; omega
              obtain ⟨nv, sv, ho, _, _⟩ := (HL2.out.files.each j x D1.files[j] hj (List.getElem?_eq_getElem hjf)).ex
              have := blk_lt ho
              omega
            have hB : B ≤ w2.heap.size := by have := HL2.out.lop; have := blk_lt HL2.out.obj; omega
            have hA := HL3.out.addFile (w2 := w5) (v1 := Value.slice A5 (L2.length + 1) cp5) (by rw [hz]; exact heap_alloc_new w2 _) (by rw [hz]; exact hnew) (by rw [hz]; exact hB) (by rw [hz]; exact hE) HG5.out
            exact ⟨rfl, ⟨_, _, _, _, _, hA.1⟩, ((Turn.of_below HB1.out).trans HT2.out).trans ((Turn.of_below HB3.out).trans hA.2)⟩
/-- What asking for two names answers. -/
def ask2D (D : Dsk) (a b : ByteArray) : Option Int := if D.off = true then some 8 else if rightB a = true ∧ rightB b = true then none else some 4
set_option maxRecDepth 100000 in
set_option maxHeartbeats 4000000 in
theorem ask_two (g cp : Nat) (L : List (Nat × Value)) (m1 m2 : Nat) (fv ov : Value) (a b : ByteArray) (ha : a.size < 9223372036854775807) (hb : b.size < 9223372036854775807) (h : Lies B w p D L m1 m2 fv ov) (hE : ErrAt B w E) (c0 : w.cell? ⟨g, 0, none⟩ = some (.string a)) (c1 : w.cell? ⟨g, 1, none⟩ = some (.string b)) :
    Calls Tryd.prog 30 #[.pointer (some ⟨p, 0, none⟩), .slice (some ⟨g, 0, none⟩) 2 cp] w fun e w' => e = .returned (errV E (ask2D D a b)) ∧ Below w.heap.size w w' := by
  have c6 : w.cell? ⟨p, 6, none⟩ = some (.bool D.off) := (blk_cell h.obj 6).trans rfl
  have c8 := hE.errs.var 8 (by simp [dErr])
  have c4 := hE.errs.var 4 (by simp [dErr])
  rw [gPower] at c8
  rw [gName] at c4
  have HRa := Aside0.mk (fun W => right_calls a ha W)
  have HRb := Aside0.mk (fun W => right_calls b hb W)
  unfold ask2D
  cases ho : D.off with
  | true =>
    rw [ho] at c6
    rw [if_pos rfl, errV_some]
    clear h hE c0 c1 c4
    go_enter Tryd.func30, Tryd.ntmps30
    go_wp2
    go_ret
    exact ⟨rfl, Below.refl _ _⟩
  | false =>
    rw [ho] at c6
    rw [if_neg (by simp)]
    have HN := Aside0.mk (fun W (hb : Below w.heap.size w W) => (hb.cell (p := ⟨5, 0, none⟩) (World.block_lt_of_cell? w _ c4)).trans c4)
    have HC1 := Aside0.mk (fun W (hb : Below w.heap.size w W) => (hb.cell (p := ⟨g, 1, none⟩) (World.block_lt_of_cell? w _ c1)).trans c1)
    clear h hE c8 c1
    cases hra : rightB a with
    | false =>
      rw [hra] at HRa
      rw [if_neg (by simp), errV_some]
      clear HRb
      go_enter Tryd.func30, Tryd.ntmps30
      go_wp2
      refine wp_loop_rounds 1 ?_
      rw [rounds_succ]
      go_wp2_with (go_at_call 66; refine (HRa.out _).mono ?_; rintro e w1 ⟨rfl, hb1⟩; have HB1 := Aside0.mk hb1; have c4 := HN.out _ hb1; clear hb1)
      go_ret
      exact ⟨rfl, HB1.out⟩
    | true =>
      rw [hra] at HRa
      cases hrb : rightB b with
      | false =>
        rw [hrb] at HRb
        rw [if_neg (by simp), errV_some]
        go_enter Tryd.func30, Tryd.ntmps30
        go_wp2
        refine wp_loop_rounds 2 ?_
        rw [rounds_succ]
        go_wp2_with (go_at_call 66; refine (HRa.out _).mono ?_; rintro e w1 ⟨rfl, hb1⟩; have HB1 := Aside0.mk hb1; have c1 := HC1.out _ hb1; clear hb1)
        rw [rounds_succ]
        go_wp2_with (go_at_call 66; refine (HRb.out _).mono ?_; rintro e w2 ⟨rfl, hb2⟩; have HB2 := Aside0.mk (HB1.out.trans (hb2.mono HB1.out.size)); have c4 := HN.out _ HB2.out; clear hb2)
        go_ret
        exact ⟨rfl, HB2.out⟩
      | true =>
        rw [hrb] at HRb
        rw [if_pos (by simp), errV_none]
        go_enter Tryd.func30, Tryd.ntmps30
        go_wp2
        refine wp_loop_rounds 3 ?_
        rw [rounds_succ]
        go_wp2_with (go_at_call 66; refine (HRa.out _).mono ?_; rintro e w1 ⟨rfl, hb1⟩; have HB1 := Aside0.mk hb1; have c1 := HC1.out _ hb1; clear hb1)
        rw [rounds_succ]
        go_wp2_with (go_at_call 66; refine (HRb.out _).mono ?_; rintro e w2 ⟨rfl, hb2⟩; have HB2 := Aside0.mk (HB1.out.trans (hb2.mono HB1.out.size)); clear hb2)
        rw [rounds_succ]
        go_wp2
        go_ret
        exact ⟨rfl, HB2.out⟩
end
end Go.Proofs.YtpcfnkmljchiiaaDoor.DCr
