/- Steps towards RDiskAll: DRcr. -/
import Derived.Test.YtpcfnkmljchiiaaGreatDoorZ37
set_option linter.unusedVariables false
set_option linter.unusedSimpArgs false
/- The document's loss of power, walked. Written by a program of mine (gencr.py). -/
namespace Go.Proofs.YtpcfnkmljchiiaaGreatDoor.DRcr
open Go Go.RowKit Go.Maps Go.Proofs.YtpcfnkmljchiiaaGreatDoorW.PrintWords Go.Proofs.YtpcfnkmljchiiaaGreatDoorW.PrintLast Go.Proofs.YtpcfnkmljchiiaaGreatDoorW.PrintMore DPl DAt DRf DRn DRd DRl DRt DDo DRdp DRdo DRnw DRak DRlm DRna DRnd DRne DRcp DRel DCra DCrb DCrc
set_option maxRecDepth 100000 in
set_option maxHeartbeats 16000000 in
theorem rcrash_calls (B p : Nat) (D : Dsk) (A : Option Addr) (c : Nat) (l : List Int) (w : World) (h : RDiskAt B w p D) (hk : D.Ok) (hst : D.steps ≤ 1000000000) (hri : Rising D.sure) (hlc : l.length ≤ c) (hR : ∀ V, RTurn B w V → ReadsInt V .i64 A l.length l) :
    Calls Tryz.prog 50 #[.pointer (some ⟨p, 0, none⟩), .slice A l.length c] w fun e w' => e = .returned (.tuple #[]) ∧ RDiskAt B w' p (crashR D l) ∧ RTurn B w w' := by
  obtain ⟨L, fv, nv, iv, ov, hl⟩ := h
  have HB0 := Aside0.mk (show Below w.heap.size w (w.alloc (.cells #[.int .i64 0] 3)) from (Below.refl _ _).alloc (Nat.le_refl _) _)
  have HC0 := Aside0.mk (show CR B w p l D L fv nv iv ov l (w.alloc (.cells #[.int .i64 0] 3)) from ⟨same hl HB0.out, ⟨0, by omega, heap_alloc_new w _, rfl⟩, RTurn.of_below HB0.out, fun e => by obtain ⟨inner, how⟩ := own_of hl.nums; have := own_lt how _ e; omega⟩)
  have HRd := Aside0.mk hR
  have HSt := Aside0.mk hst
  have HOk := Aside0.mk hk
  have HOl := Aside0.mk (show D.opn.length ≤ 1000000000 by have := hk.cntN; omega)
  have HSl := Aside0.mk (goAll_len hk hst)
  have HRi := Aside0.mk hri
  have HFl := Aside0.mk (show D.files.length ≤ 1000000000 by have := hk.cntF; omega)
  have HLt := Aside0.mk (Nat.lt_of_le_of_lt hl.lop (blk_lt hl.obj))
  obtain ⟨Af, cpf, efv⟩ := Kd.R_slice hl.ptrs
  rw [show (L.map Prod.fst).length = D.files.length by rw [List.length_map, hl.files.len]] at efv
  subst efv
  obtain ⟨Ao, co, eo⟩ := Kd.R_slice hl.opn
  obtain ⟨_, _, e2, hco, _⟩ := Kd.R_reads hl.opn
  subst eo
  simp only [Value.slice.injEq] at e2
  obtain ⟨rfl, _, rfl⟩ := e2
  have c3 : (w.alloc (.cells #[.int .i64 0] 3)).cell? ⟨p, 3, none⟩ = some (.slice Ao D.opn.length co) := (blk_cell HC0.out.lies.obj 3).trans rfl
  have hop0 := ofK_le l D.opn.length
  obtain ⟨k0, hk0⟩ : ∃ k0, k0 = ofK l D.opn.length := ⟨_, rfl⟩
  have HK0 := Aside0.mk hk0
  rw [← hk0] at hop0
  have hct := cut_row 45 144 Tryz.underlying45 (by obtain ⟨i, hi, _⟩ := info_parts infoE; exact ⟨i, hi⟩) Ao D.opn.length co k0 (by omega)
  have HN0 := Aside0.mk (next_calls A c w.heap.size D.opn.length l l _ (HRd.out _ HC0.out.turn) HC0.out.at_ (by have := HOl.out; omega))
  rw [← hk0] at HN0
  have hk0b : (k0 : Int) ≤ 1000000000 := by have := HOl.out; omega
  have hk0c : (k0 : Int) ≤ (co : Int) := by omega
  have HK0b := Aside0.mk hop0
  clear hl hk hst hri hR hk0 hco hop0
  go_enter Tryz.func50, Tryz.ntmps50
  go_wp2_with (go_at_call 104; refine HN0.out.mono ?_; rintro e w2 ⟨rfl, ha2, hb2, ht2⟩; have HC2 := Aside0.mk (HC0.out.next ha2 hb2 ht2); have d3 := (blk_cell HC2.out.lies.obj 3).trans (rfl : _ = some (Value.slice Ao D.opn.length co)); clear ha2 hb2 ht2)
  clear HC0 HN0 c3 HB0
  go_loopw [27] (fun i wr => ∃ (j : Nat) (nv iv : Value), j ≤ k0 ∧ i = .int .i64 j ∧ Aside0 (CR B w p l { D with sure := goAll D.sure (D.opn.take j) } L (.slice Af D.files.length cpf) nv iv (.slice Ao D.opn.length co) l.tail wr)) (fun i _ => k0 - (Go.RowKit.intOf i).toNat)
  case atStart => exact ⟨0, _, _, by omega, rfl, ⟨HC2.out⟩⟩
  case round =>
    obtain ⟨j, nv, iv, hj, rfl, HC⟩ := hrel
    by_cases hlt : j < k0
    · have t1 : decide (j < k0) = true := decide_eq_true hlt
      have hjl : j < D.opn.length := by have := HK0b.out; omega
      obtain ⟨e, he⟩ : ∃ e, D.opn[j]? = some e := ⟨_, List.getElem?_eq_getElem hjl⟩
      obtain ⟨g, cp, ef, _, q0, q1, q2⟩ := rent_at HC.out.lies.opn j e he
      simp only [Value.slice.injEq] at ef
      obtain ⟨rfl, _, rfl⟩ := ef
      have i0 : (0 : Int) ≤ (j : Int) := by omega
      have i1 : (j : Int) < (k0 : Int) := by omega
      have HTk := Aside0.mk (goAll_next D.sure D.opn j e he)
      have HGj := Aside0.mk (HSl.out j)
      have HRj := Aside0.mk (rising_goAll (D.opn.take j) D.sure HRi.out)
      obtain ⟨N1, hN1⟩ : ∃ N1, N1 = goAll D.sure (D.opn.take j) := ⟨_, rfl⟩
      rw [← hN1] at HC HGj HRj HTk
      have HBe := Aside0.mk (show Below wr.heap.size wr (wr.alloc (.cells #[.string e.name, .string e.gone, .int .i64 e.file] tE)) from (Below.refl _ _).alloc (Nat.le_refl _) _)
      have HCe := Aside0.mk (HC.out.below HBe.out)
      have HEe := Aside0.mk (heap_alloc_new wr (.cells #[.string e.name, .string e.gone, .int .i64 e.file] tE))
      have HDe := Aside0.mk (doc_all HRj.out e)
      have HKw := Aside0.mk (show w.heap.size < wr.heap.size by obtain ⟨i, _, ho, _⟩ := HC.out.at_; exact blk_lt ho)
      clear he hN1
      go_upto_region 5 with (fail)
      generalize wr.alloc (.cells #[.string e.name, .string e.gone, .int .i64 e.file] tE) = W1 at HCe HBe HEe ⊢
      have HC5 := Aside0.mk (HCe.out.below (Below.refl _ W1).drew)
      have HE5 := Aside0.mk (show W1.drew.heap[wr.heap.size]? = some (.cells #[.string e.name, .string e.gone, .int .i64 e.file] tE (0, 0)) from HEe.out)
      have HB5 := Aside0.mk (show Below wr.heap.size wr W1.drew from HBe.out.drew)
      have hnms : NmsAt B W1.drew nv iv N1 := ⟨HC5.out.lies.names, HC5.out.lies.nums⟩
      obtain ⟨B1, b1, B2, b2, rfl, rfl, l1, l2, C1, C2⟩ := hnms.reads
      have HDo := Aside0.mk (do_walk e N1 B1 b1 B2 b2 W1.drew C1 C2 l1 l2 (Nat.le_trans HGj.out (by decide)))
      rw [HDe.out] at HDo
      obtain ⟨n1, hn1⟩ : ∃ n1, n1 = N1.length := ⟨_, rfl⟩
      rw [← hn1] at HDo HC5
      have y0 := (blk_cell HC5.out.lies.obj 1).trans (rfl : _ = some (Value.slice B1 n1 b1))
      have y1 := (blk_cell HC5.out.lies.obj 2).trans (rfl : _ = some (Value.slice B2 n1 b2))
      have y2 := (blk_cell HE5.out 0).trans (rfl : _ = some (Value.string e.name))
      have y3 := (blk_cell HE5.out 1).trans (rfl : _ = some (Value.string e.gone))
      have y4 := (blk_cell HE5.out 2).trans (rfl : _ = some (Value.int .i64 e.file))
      clear HC HCe HBe HEe hnms l1 l2 C1 C2 hn1 q0 q1 q2
      refine start_ (n := 10) (S := fun w' => w'.cell? ⟨p, 1, none⟩ = some (.slice B1 n1 b1) ∧ w'.cell? ⟨p, 2, none⟩ = some (.slice B2 n1 b2) ∧ w'.cell? ⟨wr.heap.size, 0, none⟩ = some (.string e.name) ∧ w'.cell? ⟨wr.heap.size, 1, none⟩ = some (.string e.gone) ∧ w'.cell? ⟨wr.heap.size, 2, none⟩ = some (.int .i64 e.file)) (ds := [9]) #[ff,ff,ff,ff,ff,ff,ff,ff,ff,ff] (by kernel_rfl) rfl rfl ⟨y0, y1, y2, y3, y4⟩ (fun hHeld => ?_)
      generalize W1.drew = w3 at HC5 HE5 HB5 HDo y0 y1 y2 y3 y4 hHeld ⊢
      have hHeld0 := hHeld
      refine pure_ (i := 0) (N := some 31) (v := ?_) (a' := ?_) #[tt,ff,ff,ff,ff,ff,ff,ff,ff,ff] rfl rfl (by kernel_rfl) (fun _ _ _ h => h) (Or.inl ⟨by rfl, ?_⟩) ?_ ?_
      rotate_left
      · intro w'
        go_simp
        with_reducible rfl
      rotate_left
      · simp only [Act.put, pkA, pkB, pkC, i64_w, i32_w]
        rfl
      refine pure_ (i := 1) (N := some 32) (v := ?_) (a' := ?_) #[tt,tt,ff,ff,ff,ff,ff,ff,ff,ff] rfl rfl (by kernel_rfl) (fun _ _ _ h => h) (Or.inl ⟨by rfl, ?_⟩) ?_ ?_
      rotate_left
      · intro w'
        go_simp
        with_reducible rfl
      rotate_left
      · simp only [Act.put, pkA, pkB, pkC, i64_w, i32_w]
        rfl
      refine pure_ (i := 2) (N := some 33) (v := ?_) (a' := ?_) #[tt,tt,tt,ff,ff,ff,ff,ff,ff,ff] rfl rfl (by kernel_rfl) (fun _ _ _ h => h) (Or.inl ⟨by rfl, ?_⟩) ?_ ?_
      rotate_left
      · intro w'
        go_simp
        with_reducible rfl
      rotate_left
      · simp only [Act.put, pkA, pkB, pkC, i64_w, i32_w]
        rfl
      refine pure_ (i := 3) (N := some 34) (v := ?_) (a' := ?_) #[tt,tt,tt,tt,ff,ff,ff,ff,ff,ff] rfl rfl (by kernel_rfl) (fun _ _ _ h => h) (Or.inl ⟨by rfl, ?_⟩) ?_ ?_
      rotate_left
      · intro w'
        go_simp
        with_reducible rfl
      rotate_left
      · simp only [Act.put, pkA, pkB, pkC, i64_w, i32_w]
        rfl
      refine take_ (i := 4) (N := some 35) (v := ?_) (a' := ?_) #[tt,tt,tt,tt,tt,ff,ff,ff,ff,ff] rfl rfl (by kernel_rfl) (fun _ _ _ h => h) (Or.inl ⟨by rfl, ?_⟩) hHeld ?_ ?_
      rotate_left
      · rintro w' ⟨s0, s1, s2, s3, s4⟩
        go_simp
        with_reducible rfl
      rotate_left
      · simp only [Act.put, pkA, pkB, pkC, i64_w, i32_w]
        rfl
      refine take_ (i := 5) (N := some 36) (v := ?_) (a' := ?_) #[tt,tt,tt,tt,tt,tt,ff,ff,ff,ff] rfl rfl (by kernel_rfl) (fun _ _ _ h => h) (Or.inl ⟨by rfl, ?_⟩) hHeld ?_ ?_
      rotate_left
      · rintro w' ⟨s0, s1, s2, s3, s4⟩
        go_simp
        with_reducible rfl
      rotate_left
      · simp only [Act.put, pkA, pkB, pkC, i64_w, i32_w]
        rfl
      refine one_ (i := 6) (N := some 37) #[tt,tt,tt,tt,tt,tt,tt,ff,ff,ff] rfl rfl (by kernel_rfl) (by decide) (fun K hK => ?_)
      refine goes_ Tryz.func105 (by kernel_rfl) rfl #[.agg #[.slice B1 n1 b1, .slice B2 n1 b2], .agg #[.string e.name, .string e.gone, .int .i64 e.file]] (by rfl) rfl rfl (by simp only [List.map_toArray, List.map_cons, List.map_nil]; rfl) ?_
      with_reducible refine (HDo.out).mono ?_
      rintro en w4 ⟨nv4, iv4, rfl, hr1, hr2, hb4⟩
      refine ⟨_, rfl, ?_⟩
      have k4 := fun (g i : Nat) (v : Value) (hc : w3.cell? ⟨g, i, none⟩ = some v) => (hb4.cell (p := ⟨g, i, none⟩) (World.block_lt_of_cell? w3 _ hc)).trans hc
      have e0 := k4 _ _ _ hHeld0.1
      have e1 := k4 _ _ _ hHeld0.2.1
      have e2 := k4 _ _ _ hHeld0.2.2.1
      have e3 := k4 _ _ _ hHeld0.2.2.2.1
      have e4 := k4 _ _ _ hHeld0.2.2.2.2
      obtain ⟨An, cn, rfl⟩ := Kd.R_slice hr1
      obtain ⟨Ai, ci, rfl⟩ := Kd.R_slice hr2
      have HC6 := Aside0.mk (HC5.out.below hb4)
      have HLow := Aside0.mk (show B ≤ w3.heap.size by have h1 := HLt.out; have h2 := HKw.out; have h3 := HB5.out.size; omega)
      have HM6 := Aside0.mk (show NmsAt B w4 _ _ (e.go N1) from ⟨Kd.R_lower hr1 HLow.out, Kd.R_lower hr2 HLow.out⟩)
      have HNb := Aside0.mk (show (Value.slice Ai (numsL (e.go N1)).length ci).ownBlock ≠ some w.heap.size from fun er => by obtain ⟨inner, how⟩ := own_of hr2; have h9 := own_base how _ er; have h2 := HKw.out; have h3 := HB5.out.size; omega)
      have f1 := blk_frozen HC6.out.lies.obj 1
      have f2 := blk_frozen HC6.out.lies.obj 2
      clear hr1 hr2 hb4 k4
      refine hK.out _ _ ⟨e0, e1, e2, e3, e4⟩ (fun hHeld => ?_)
      clear hK K
      refine norm_ (a' := ?_) ?_ ?_
      rotate_left
      · show Act.put _ (some 37) _ = _
        simp only [Act.put, pkA, pkB, pkC, i64_w, i32_w]
        rfl
      refine pure_ (i := 7) (N := some 38) (v := ?_) (a' := ?_) #[tt,tt,tt,tt,tt,tt,tt,tt,ff,ff] rfl rfl (by kernel_rfl) (fun _ _ _ h => h) (Or.inl ⟨by rfl, ?_⟩) ?_ ?_
      rotate_left
      · intro w'
        go_simp
        with_reducible rfl
      rotate_left
      · simp only [Act.put, pkA, pkB, pkC, i64_w, i32_w]
        rfl
      refine pure_ (i := 8) (N := some 39) (v := ?_) (a' := ?_) #[tt,tt,tt,tt,tt,tt,tt,tt,tt,ff] rfl rfl (by kernel_rfl) (fun _ _ _ h => h) (Or.inl ⟨by rfl, ?_⟩) ?_ ?_
      rotate_left
      · intro w'
        go_simp
        with_reducible rfl
      rotate_left
      · simp only [Act.put, pkA, pkB, pkC, i64_w, i32_w]
        rfl
      refine last_ (i := 9) (N := none) #[tt,tt,tt,tt,tt,tt,tt,tt,tt,tt] rfl rfl (by kernel_rfl) (by decide) (fun K hK => ?_)
      refine skip_ (w1 := ?_) (by rfl) rfl ?_ ?_
      rotate_left
      · go_simp
        rfl
      refine hK.out _ _ ?_
      clear hK K
      refine done_ (by kernel_rfl) ?_
      have HCn := Aside0.mk (HC6.out.names HM6.out HNb.out)
      clear HC6 HM6 HNb HC5 HE5 HB5 HDo y0 y1 y2 y3 y4 hHeld0 e0 e1 e2 e3 e4
      go_wp2
      go_roundw
      case rel => exact ⟨j + 1, _, _, by omega, by go_num, ⟨by rw [HTk.out]; exact HCn.out⟩⟩
      case measure => simp [Go.RowKit.intOf]; omega
    · have t1 : decide (j < k0) = false := decide_eq_false hlt
      have ej : j = k0 := by omega
      subst ej
      obtain ⟨N1, hN1⟩ : ∃ N1, N1 = goAll D.sure (D.opn.take j) := ⟨_, rfl⟩
      have HN1 := Aside0.mk hN1
      rw [← hN1] at HC
      have d3 := (blk_cell HC.out.lies.obj 3).trans (rfl : _ = some (Value.slice Ao D.opn.length co))
      have fz3 := blk_frozen HC.out.lies.obj 3
      have HCs := Aside0.mk (show CR B w p l ⟨D.files, D.now, N1, [], D.quota, D.armed, D.off, D.steps⟩ L (.slice Af D.files.length cpf) nv iv (.slice none 0 0) l.tail (wr.setCell ⟨p, 3, none⟩ (.slice none 0 0)) from HC.out.struct (But.setCell wr ⟨p, 3, none⟩ _) (blk_put HC.out.lies.obj 3 _ rfl) (Kd.R_nil _ _ _ _ _) ((RTurn.refl B wr).setCell HC.out.lies.obj rfl HC.out.lies.lop 3 _))
      have d0 := (blk_cell HCs.out.lies.obj 0).trans (rfl : _ = some (Value.slice Af D.files.length cpf))
      obtain ⟨nF, hnF⟩ : ∃ nF, nF = D.files.length := ⟨_, rfl⟩
      have HNF := Aside0.mk hnF
      have hFb : (nF : Int) ≤ 1000000000 := by rw [hnF]; have := HFl.out; omega
      rw [← hnF] at d0
      clear HC hN1 hnF
      go_wp2
      generalize wr.setCell ⟨p, 3, none⟩ (.slice none 0 0) = W8 at HCs d0 ⊢
      go_loopw [49] (fun i wr => ∃ (i0 : Nat) (dn : List Fil) (kp : List Int) (L2 : List (Nat × Value)), i0 ≤ nF ∧ i = .int .i64 i0 ∧ dn.length = i0 ∧ L2.map Prod.fst = L.map Prod.fst ∧ Aside0 (crashFs D.files l.tail = dn ++ crashFs (D.files.drop i0) kp) ∧ Aside0 (CR B w p l ⟨dn ++ D.files.drop i0, D.now, N1, [], D.quota, D.armed, D.off, D.steps⟩ L2 (.slice Af D.files.length cpf) nv iv (.slice none 0 0) kp wr)) (fun i _ => nF - (Go.RowKit.intOf i).toNat)
      case atStart => exact ⟨0, [], l.tail, L, by omega, rfl, rfl, rfl, ⟨rfl⟩, ⟨HCs.out⟩⟩
      case round =>
        obtain ⟨i, dn, kp, L2, hi, rfl, hdn, hL2, HE, HC⟩ := hrel
        have HDn := Aside0.mk hdn
        have HL2 := Aside0.mk hL2
        clear hdn hL2
        by_cases hlt : i < nF
        · have t1 : decide (i < nF) = true := decide_eq_true hlt
          have hil : i < D.files.length := by rw [← HNF.out]; exact hlt
          obtain ⟨f, hf⟩ : ∃ f, D.files[i]? = some f := ⟨_, List.getElem?_eq_getElem hil⟩
          have HDr := Aside0.mk (drop_at hf)
          have HF := Aside0.mk (show (dn ++ D.files.drop i)[i]? = some f by rw [HDr.out]; exact mid_at HDn.out)
          have HLe := Aside0.mk (show L2.length = D.files.length by have h1 := HC.out.lies.files.len; rw [h1]; simp only [List.length_append, List.length_drop]; have := HDn.out; omega)
          obtain ⟨x, hx⟩ : ∃ x, L2[i]? = some x := ⟨_, List.getElem?_eq_getElem (by rw [HLe.out]; exact hil)⟩
          have HX := Aside0.mk hx
          obtain ⟨g, cp, ef, _, hg⟩ := rptr_at HC.out.lies.ptrs i x.1 (by rw [List.getElem?_map, hx]; rfl)
          simp only [Value.slice.injEq] at ef
          obtain ⟨rfl, _, rfl⟩ := ef
          have HFa := Aside0.mk (HC.out.lies.files.each i x f hx HF.out)
          have HFk := Aside0.mk (HOk.out.fil f (List.mem_of_getElem? hf))
          obtain ⟨Ar, cr, er⟩ := Kd.R_slice HFa.out.opn
          obtain ⟨Ar2, cr2, er2, hcr2, HCr⟩ := Kd.R_reads HFa.out.opn
          rw [er] at er2
          simp only [Value.slice.injEq] at er2
          obtain ⟨rfl, _, rfl⟩ := er2
          have c1 : wr.cell? ⟨x.1, 1, none⟩ = some (.slice Ar f.opn.length cr) := by rw [← er]; exact (blk_cell HFa.out.obj 1).trans rfl
          have i0 : (0 : Int) ≤ (i : Int) := by omega
          have i1 : (i : Int) < (nF : Int) := by omega
          have HER := Aside0.mk er
          have HCR := Aside0.mk HCr
          obtain ⟨nO, hnO⟩ : ∃ nO, nO = f.opn.length := ⟨_, rfl⟩
          have HNO := Aside0.mk hnO
          have hOb : nO ≤ 1000000000 := by rw [hnO]; have h1 := HFk.out.cnt; have h2 := HSt.out; omega
          rw [← hnO] at c1 hcr2
          clear hil hf hx er HCr hnO
          by_cases hop : nO = 0
          · have t2 : (((nO : Nat) : Int) == 0) = true := by rw [hop]; rfl
            have HOp := Aside0.mk (show f.opn = [] from List.eq_nil_of_length_eq_zero (by rw [← HNO.out]; exact hop))
            have HE2 := Aside0.mk HE.out
            rw [HDr.out, crashFs_nil HOp.out] at HE2
            have HC2 := Aside0.mk HC.out
            rw [HDr.out] at HC2
            subst hop
            clear HE HC
            go_wp2
            go_roundw
            case rel => exact ⟨i + 1, dn ++ [f], kp, L2, by omega, by go_num, by rw [List.length_append, HDn.out]; rfl, HL2.out, ⟨by rw [List.append_assoc]; exact HE2.out⟩, ⟨by rw [List.append_assoc]; exact HC2.out⟩⟩
            case measure => simp [Go.RowKit.intOf]; omega
          have t2 : (((nO : Nat) : Int) == 0) = false := by simpa using hop
          have HOp := Aside0.mk (show f.opn ≠ [] from fun h => hop (by rw [HNO.out, h]; rfl))
          obtain ⟨k, hkk⟩ : ∃ k, k = ofK kp nO := ⟨_, rfl⟩
          have hkO : k ≤ nO := by rw [hkk]; exact ofK_le kp nO
          have HKk := Aside0.mk (show k = ofK kp f.opn.length by rw [hkk, HNO.out])
          have HN := Aside0.mk (next_calls A c w.heap.size nO l kp wr (HRd.out _ HC.out.turn) HC.out.at_ (by omega))
          rw [← hkk] at HN
          have hct2 := cut_row 49 147 Tryz.underlying49 (by obtain ⟨i, hi, _⟩ := info_parts infoS3; exact ⟨i, hi⟩) Ar nO cr k (by omega)
          have hkc : (k : Int) ≤ (cr : Int) := by omega
          clear hkk hop
          go_upto_region 13 with (go_at_call 104; refine HN.out.mono ?_; rintro e w3 ⟨rfl, ha3, hb3, ht3⟩; have HC3 := Aside0.mk (HC.out.next ha3 hb3 ht3); clear ha3 hb3 ht3)
          have HFa3 := Aside0.mk (HC3.out.lies.files.each i x f HX.out HF.out)
          have c13 : w3.cell? ⟨x.1, 1, none⟩ = some (.slice Ar nO cr) := by rw [HNO.out, ← HER.out]; exact (blk_cell HFa3.out.obj 1).trans rfl
          have HCr3 := Aside0.mk (show Kd.C kStp w3 Ar f.opn.length f.opn by obtain ⟨A9, c9, e9, _, h9⟩ := Kd.R_reads HFa3.out.opn; rw [HER.out] at e9; simp only [Value.slice.injEq] at e9; obtain ⟨rfl, _, _⟩ := e9; exact h9)
          have HLow := Aside0.mk (show B ≤ w3.heap.size by have h1 := HLt.out; obtain ⟨_, _, ho, _⟩ := HC3.out.at_; have := blk_lt ho; omega)
          have HB3 := Aside0.mk (Below.refl w3.heap.size w3)
          clear HN HC HFa c1 HCR
          go_upto_region 14 with (first
            | ((with_reducible refine gate_dst (N := 66) rfl ?_); refine Kd.R_lit kStp _ 147 ?hg (N := 66) ?hd (xs := ([] : List Chg)) (inner := []) (ok := fun _ => True) (okp := fun _ => True) ?hr ?hp (fun _ hk => hk) trivial (Below.refl _ w3) (Nat.le_refl _) (by simp) ?_; (case hd => rfl); (case hg => rfl); (case hr => first | (go_simp; done) | (go_simp; rfl)); (case hp => exact (Reps.none _ _)); intro v66 w4 ho4 hb4 hg4 hn4; have HO4 := Aside0.mk ho4; have HB4 := Aside0.mk hb4; have c14 := (hb4.cell (p := ⟨x.1, 1, none⟩) (World.block_lt_of_cell? w3 _ c13)).trans c13; clear ho4 hb4 hg4 hn4)
            | ((with_reducible refine gate_builtin (b := .append) (xs := #[.tmp 66, .tmp 72]) rfl ?_); at_builtin; refine Kd.R_append_rows kStp (w0 := w3) w3.heap.size rfl (.tmp 66) (.tmp 72) 49 147 (.agg #[.int .i64 0, .string ⟨#[]⟩, .bool false]) 32 rfl Tryz.underlying49 infoS3 rfl (by decide) (by omega) v66 [] (f.opn.take k) _ _ _ (fun _ => True) (fun _ => False) rfl rfl ?aO ?aR (fun _ _ h => h) (fun _ h => h.elim) ?aF ?aB ?aS ?aL ?_; (case aO => exact HO4.out); (case aR => have h9 := Kd.C_take (Kd.C_below HCr3.out HB4.out) (m := k) (by rw [← HNO.out]; exact hkO); rw [show (f.opn.take k).length = k by rw [List.length_take, ← HNO.out]; omega] at h9; exact h9); (case aF => exact fun _ _ => trivial); (case aB => exact HB4.out); (case aS => exact HB4.out.size); (case aL => simp only [List.length_nil]; omega); intro v73 w5 ho5 hb5 hg5 hat5; have HO5 := Aside0.mk (show Kd.R kStp 147 w5 w3.heap.size (fun _ => True) v73 (f.opn.take k) from ho5); have HB5 := Aside0.mk hb5; have c15 := (hb5.cell (p := ⟨x.1, 1, none⟩) (World.block_lt_of_cell? w3 _ c13)).trans c13; clear ho5 hb5 hg5 hat5))
          have HC5 := Aside0.mk (HC3.out.below HB5.out)
          have HFk2 := HFk.out
          clear HO4 HB4 c14
          by_cases hkl : k < nO
          · have t3 : decide ((k : Int) < (nO : Int)) = true := decide_eq_true (by omega)
            have t3' : decide (k < nO) = true := decide_eq_true hkl
            obtain ⟨ch, hch⟩ : ∃ ch, f.opn[k]? = some ch := ⟨_, List.getElem?_eq_getElem (by rw [← HNO.out]; exact hkl)⟩
            obtain ⟨gs, cps, efs, _, s0, s1, s2⟩ := stp_at (HC5.out.lies.files.each i x f HX.out HF.out).opn k ch hch
            rw [HER.out] at efs
            simp only [Value.slice.injEq] at efs
            obtain ⟨rfl, _, rfl⟩ := efs
            have HCH := Aside0.mk hch
            have j0 : (0 : Int) ≤ (k : Int) := by omega
            have j1 : (k : Int) < (nO : Int) := by omega
            clear hch
            cases hcut : ch.cut with
            | true =>
              rw [hcut] at s2
              have HCF := Aside0.mk (show crashF f kp = (chgAll f.sure (f.opn.take k), kp.tail) by rw [HKk.out]; exact crash_whole (.inr ⟨ch, by rw [← HKk.out]; exact HCH.out, hcut⟩))
              obtain ⟨st, hst9⟩ : ∃ st, st = f.opn.take k := ⟨_, rfl⟩
              have HCs2 := Aside0.mk HC5.out
              clear HC3
              have HOs := Aside0.mk HO5.out
              rw [← hst9] at HOs HCF
              have HSt2 := Aside0.mk (show (⟨chgAll f.sure st, f.sure, st⟩ : Fil).Ok D.steps from stay_ok HFk.out k 0 st (.inl hst9))
              clear hst9 HO5 HC5
              obtain ⟨Ast, cst, est⟩ := Kd.R_slice HOs.out
              obtain ⟨bz, hbz⟩ : ∃ bz, bz = chgAll f.sure st := ⟨_, rfl⟩
              have HBZ := Aside0.mk hbz
              have HSa := Aside0.mk (HCs2.out.stay i x f HX.out HF.out (v1 := .slice Ast st.length cst) (s := st) (b := bz) (by rw [← est]; exact Kd.R_lower HOs.out HLow.out))
              have HNw := Aside0.mk (rnow_calls B x.1 _ _ D.steps _ HSa.out (by rw [hbz]; exact HSt2.out) HSt.out)
              have fz1 := blk_frozen (HCs2.out.lies.files.each i x f HX.out HF.out).obj 1
              obtain ⟨ln, hln⟩ : ∃ ln, ln = st.length := ⟨_, rfl⟩
              rw [← hln] at est HSa HNw
              subst est
              clear hbz hln
              go_wp2_with (go_at_call 100; refine HNw.out.mono ?_; rintro e w9 ⟨rfl, hb9⟩; have HB9 := Aside0.mk hb9; have HO9 := Aside0.mk ((hb9.block _ (blk_lt HSa.out.obj)).trans HSa.out.obj); have z0 := (blk_cell HO9.out 0).trans (rfl : _ = some (Value.string (strOfNums f.sure))); have z1 := (blk_cell HO9.out 1).trans (rfl : _ = some (Value.slice Ast ln cst)); have g0 := blk_frozen HO9.out 0; have g1 := blk_frozen HO9.out 1; clear hb9)
              have HCn := Aside0.mk (HCs2.out.done i x f HX.out HF.out (.slice Ast ln cst) (by have h9 := HB9.out; rw [show (w5.setCell ⟨x.1, 1, none⟩ (.slice Ast ln cst)).heap.size = w5.heap.size by simp [World.setCell]] at h9; exact h9) bz)
              have HE2 := Aside0.mk HE.out
              rw [HDr.out, crashFs_cons HOp.out, HCF.out] at HE2
              go_roundw
              case rel => exact ⟨i + 1, dn ++ [⟨bz, bz, []⟩], kp.tail, L2.set i (x.1, .slice none 0 0), by omega, by go_num, by rw [List.length_append, HDn.out]; rfl, by rw [set_fst HX.out]; exact HL2.out, ⟨by rw [List.append_assoc, HBZ.out]; exact HE2.out⟩, ⟨by have h9 := HCn.out; rw [HDr.out] at h9; simp only [mid_set HDn.out] at h9; rw [List.append_assoc]; exact h9⟩⟩
              case measure => simp [Go.RowKit.intOf]; omega
            | false =>
              rw [hcut] at s2
              obtain ⟨jn, hjn⟩ : ∃ jn, jn = ofK kp.tail (strOfNums ch.b).size := ⟨_, rfl⟩
              have hjl : jn ≤ (strOfNums ch.b).size := by rw [hjn]; exact ofK_le _ _
              have hjl2 : (jn : Int) ≤ ((strOfNums ch.b).size : Int) := by omega
              have hj0 : (0 : Int) ≤ (jn : Int) := by omega
              have HCF := Aside0.mk (show crashF f kp = (chgAll f.sure (f.opn.take k ++ [partC ch jn]), kp.tail.tail) by rw [hjn, strOfNums_size, HKk.out]; exact crash_part (by rw [← HKk.out]; exact HCH.out) hcut)
              have HEs := Aside0.mk (show (strOfNums ch.b).extract 0 jn = strOfNums (ch.b.take jn) from str_take _ _)
              have hbs : (strOfNums ch.b).size ≤ 1100000000000 := by have := HFk.out.opnL ch (List.mem_of_getElem? HCH.out); rw [strOfNums_size]; omega
              have HB6 := Aside0.mk (show Below w5.heap.size w5 (w5.alloc (.cells #[.int .i64 (ch.pos : Int), .string (strOfNums ch.b), .bool false] tRS)) from (Below.refl _ _).alloc (Nat.le_refl _) _)
              have HE6 := Aside0.mk (heap_alloc_new w5 (.cells #[.int .i64 (ch.pos : Int), .string (strOfNums ch.b), .bool false] tRS))
              go_upto_region 16 with (fail)
              generalize w5.alloc (.cells #[.int .i64 (ch.pos : Int), .string (strOfNums ch.b), .bool false] tRS) = W6 at HB6 HE6 ⊢
              have HB7 := Aside0.mk (show Below w5.heap.size w5 W6.drew from HB6.out.drew)
              have HE7 := Aside0.mk (show W6.drew.heap[w5.heap.size]? = some (.cells #[.int .i64 (ch.pos : Int), .string (strOfNums ch.b), .bool false] tRS (0, 0)) from HE6.out)
              have HN7 := Aside0.mk (next_calls A c w.heap.size (strOfNums ch.b).size l kp.tail W6.drew (HRd.out _ (HC5.out.turn.below HB7.out)) (HC5.out.at_.but (But.of_below (row := none) HB7.out) (by simp)) hbs)
              rw [← hjn] at HN7
              have y1 := (blk_cell HE7.out 1).trans (rfl : _ = some (Value.string (strOfNums ch.b)))
              have HKb := Aside0.mk (show w.heap.size < w3.heap.size by obtain ⟨_, _, ho, _⟩ := HC3.out.at_; exact blk_lt ho)
              have HKs := Aside0.mk (show w.heap.size ≠ w5.heap.size by have h1 := HKb.out; have h2 := HB5.out.size; omega)
              clear HB6 HE6 hjn hbs s0 s1 s2 HC5
              refine start_ (n := 10) (S := fun w' => w'.cell? ⟨w5.heap.size, 1, none⟩ = some (.string (strOfNums ch.b))) (ds := [9]) #[ff,ff,ff,ff,ff,ff,ff,ff,ff,ff] (by kernel_rfl) rfl rfl (y1) (fun hHeld => ?_)
              generalize W6.drew = w7 at HB7 HE7 HN7 y1 hHeld ⊢
              refine pure_ (i := 0) (N := some 99) (v := ?_) (a' := ?_) #[tt,ff,ff,ff,ff,ff,ff,ff,ff,ff] rfl rfl (by kernel_rfl) (fun _ _ _ h => h) (Or.inl ⟨by rfl, ?_⟩) ?_ ?_
              rotate_left
              · intro w'
                go_simp
                with_reducible rfl
              rotate_left
              · simp only [Act.put, pkA, pkB, pkC, i64_w, i32_w]
                rfl
              refine pure_ (i := 2) (N := some 101) (v := ?_) (a' := ?_) #[tt,ff,tt,ff,ff,ff,ff,ff,ff,ff] rfl rfl (by kernel_rfl) (fun _ _ _ h => h) (Or.inl ⟨by rfl, ?_⟩) ?_ ?_
              rotate_left
              · intro w'
                go_simp
                with_reducible rfl
              rotate_left
              · simp only [Act.put, pkA, pkB, pkC, i64_w, i32_w]
                rfl
              refine pure_ (i := 3) (N := some 102) (v := ?_) (a' := ?_) #[tt,ff,tt,tt,ff,ff,ff,ff,ff,ff] rfl rfl (by kernel_rfl) (fun _ _ _ h => h) (Or.inl ⟨by rfl, ?_⟩) ?_ ?_
              rotate_left
              · intro w'
                go_simp
                with_reducible rfl
              rotate_left
              · simp only [Act.put, pkA, pkB, pkC, i64_w, i32_w]
                rfl
              refine take_ (i := 1) (N := some 100) (v := ?_) (a' := ?_) #[tt,tt,tt,tt,ff,ff,ff,ff,ff,ff] rfl rfl (by kernel_rfl) (fun _ _ _ h => h) (Or.inl ⟨by rfl, ?_⟩) hHeld ?_ ?_
              rotate_left
              · intro w' s0
                go_simp
                with_reducible rfl
              rotate_left
              · simp only [Act.put, pkA, pkB, pkC, i64_w, i32_w]
                rfl
              refine take_ (i := 4) (N := some 103) (v := ?_) (a' := ?_) #[tt,tt,tt,tt,tt,ff,ff,ff,ff,ff] rfl rfl (by kernel_rfl) (fun _ _ _ h => h) (Or.inl ⟨by rfl, ?_⟩) hHeld ?_ ?_
              rotate_left
              · intro w' s0
                go_simp
                with_reducible rfl
              rotate_left
              · simp only [Act.put, pkA, pkB, pkC, i64_w, i32_w]
                rfl
              refine pure_ (i := 5) (N := some 104) (v := ?_) (a' := ?_) #[tt,tt,tt,tt,tt,tt,ff,ff,ff,ff] rfl rfl (by kernel_rfl) (fun _ _ _ h => h) (Or.inl ⟨by rfl, ?_⟩) ?_ ?_
              rotate_left
              · intro w'
                go_simp
                with_reducible rfl
              rotate_left
              · simp only [Act.put, pkA, pkB, pkC, i64_w, i32_w]
                rfl
              refine one_ (i := 6) (N := some 105) #[tt,tt,tt,tt,tt,tt,tt,ff,ff,ff] rfl rfl (by kernel_rfl) (by decide) (fun K hK => ?_)
              refine goes_ Tryz.func104 (by kernel_rfl) rfl #[.slice A l.length c, .pointer (some ⟨w.heap.size, 0, none⟩), .int .i64 (((strOfNums ch.b).size : Nat) : Int)] (by rfl) rfl rfl (by simp only [List.map_toArray, List.map_cons, List.map_nil]; rfl) ?_
              with_reducible refine (HN7.out).mono ?_
              rintro e w8 ⟨rfl, ha8, hb8, hq8⟩
              refine ⟨_, rfl, ?_⟩
              have HA8 := Aside0.mk ha8
              have HK8 := Aside0.mk hb8
              have HQ8 := Aside0.mk hq8
              have HE8 := Aside0.mk (hb8.obj HE7.out (fun e => HKs.out (Option.some.inj e).symm))
              have y8 := (blk_cell HE8.out 1).trans (rfl : _ = some (Value.string (strOfNums ch.b)))
              have fz8 := blk_frozen HE8.out 1
              clear ha8 hb8 hq8
              refine hK.out _ _ (y8) (fun hHeld => ?_)
              clear hK K
              refine norm_ (a' := ?_) ?_ ?_
              rotate_left
              · show Act.put _ (some 105) _ = _
                simp only [Act.put, pkA, pkB, pkC, i64_w, i32_w]
                rfl
              refine pure_ (i := 7) (N := some 106) (v := ?_) (a' := ?_) #[tt,tt,tt,tt,tt,tt,tt,tt,ff,ff] rfl rfl (by kernel_rfl) (fun _ _ _ h => h) (Or.inl ⟨by rfl, ?_⟩) ?_ ?_
              rotate_left
              · intro w'
                go_simp
                with_reducible rfl
              rotate_left
              · simp only [Act.put, pkA, pkB, pkC, i64_w, i32_w]
                rfl
              refine pure_ (i := 8) (N := some 107) (v := ?_) (a' := ?_) #[tt,tt,tt,tt,tt,tt,tt,tt,tt,ff] rfl rfl (by kernel_rfl) (fun _ _ _ h => h) (Or.inl ⟨by rfl, ?_⟩) ?_ ?_
              rotate_left
              · intro w'
                go_simp
                with_reducible rfl
              rotate_left
              · simp only [Act.put, pkA, pkB, pkC, i64_w, i32_w]
                rfl
              refine last_ (i := 9) (N := none) #[tt,tt,tt,tt,tt,tt,tt,tt,tt,tt] rfl rfl (by kernel_rfl) (by decide) (fun K hK => ?_)
              refine skip_ (w1 := ?_) (by rfl) rfl ?_ ?_
              rotate_left
              · go_simp
                rfl
              refine hK.out _ _ ?_
              clear hK K
              refine done_ (by kernel_rfl) ?_
              rw [HEs.out]
              have HE9 := Aside0.mk (blk_put HE8.out 1 (.string (strOfNums (ch.b.take jn))) rfl)
              have hk9 : But w3 (w8.setCell ⟨w5.heap.size, 1, none⟩ (.string (strOfNums (ch.b.take jn)))) (some w.heap.size) := by
                have a1 : But w3 w7 (some w.heap.size) := ⟨Nat.le_trans HB5.out.size HB7.out.size, fun q hq _ => (HB7.out.block q (Nat.lt_of_lt_of_le hq HB5.out.size)).trans (HB5.out.block q hq)⟩
                have a2 := But.trans a1 HK8.out
                exact ⟨by simpa [World.setCell] using a2.1, fun q hq hne => (Below.heap_setCell w8 ⟨w5.heap.size, 1, none⟩ _ q (fun e => by have h1 := HB5.out.size; have h2 : q = w5.heap.size := e; omega)).trans (a2.2 q hq hne)⟩
              have HK9 := Aside0.mk hk9
              have hq9 : (w8.setCell ⟨w5.heap.size, 1, none⟩ (.string (strOfNums (ch.b.take jn)))).os = w3.os ∧ (w8.setCell ⟨w5.heap.size, 1, none⟩ (.string (strOfNums (ch.b.take jn)))).tape = w3.tape ∧ (w8.setCell ⟨w5.heap.size, 1, none⟩ (.string (strOfNums (ch.b.take jn)))).output = w3.output := ⟨HQ8.out.1.trans (HB7.out.os.trans HB5.out.os), HQ8.out.2.1.trans (HB7.out.tape.trans HB5.out.tape), HQ8.out.2.2.trans (HB7.out.output.trans HB5.out.output)⟩
              have HQ9 := Aside0.mk hq9
              have HA9 := Aside0.mk (HA8.out.but (But.setCell w8 ⟨w5.heap.size, 1, none⟩ (.string (strOfNums (ch.b.take jn)))) (fun e => HKs.out (Option.some.inj e)))
              have HO9 := Aside0.mk (show Kd.R kStp 147 (w8.setCell ⟨w5.heap.size, 1, none⟩ (.string (strOfNums (ch.b.take jn)))) w3.heap.size (fun _ => True) v73 (f.opn.take k) from Kd.R_mono (Kd.R_step (Kd.R_bound HO5.out) (fun q hq hl => by
                have h1 := hq.2.1
                have h2 := HKb.out
                have e1 : w7.heap[q]? = w5.heap[q]? := HB7.out.block q hl
                have e2 : w8.heap[q]? = w7.heap[q]? := HK8.out.2 q (Nat.lt_of_lt_of_le hl HB7.out.size) (fun e => by have := Option.some.inj e; omega)
                exact (Below.heap_setCell w8 ⟨w5.heap.size, 1, none⟩ _ q (fun e => by have h2 : q = w5.heap.size := e; omega)).trans (e2.trans e1))) (fun _ hq => hq.1))
              have HS9 := Aside0.mk (show w3.heap.size ≤ (w8.setCell ⟨w5.heap.size, 1, none⟩ (.string (strOfNums (ch.b.take jn)))).heap.size from hk9.1)
              clear hk9 hq9 HK8 HQ8 HE8 HA8 HE7 HB7 HN7 y1 y8 fz8 hHeld
              generalize w8.setCell ⟨w5.heap.size, 1, none⟩ (.string (strOfNums (ch.b.take jn))) = w9 at HE9 HK9 HQ9 HA9 HO9 HS9 ⊢
              have x0 := (blk_cell HE9.out 0).trans (rfl : _ = some (Value.int .i64 (ch.pos : Int)))
              have x1 := (blk_cell HE9.out 1).trans (rfl : _ = some (Value.string (strOfNums (ch.b.take jn))))
              have x2 := (blk_cell HE9.out 2).trans (rfl : _ = some (Value.bool false))
              go_upto_region 18 with (at_builtin; refine Kd.R_append kStp (w0 := w9) w3.heap.size rfl _ _ 49 147 (.agg #[.int .i64 0, .string ⟨#[]⟩, .bool false]) 32 rfl Tryz.underlying49 infoS3 rfl (by decide) (by omega) v73 (f.opn.take k) (partC ch jn) [.int .i64 (ch.pos : Int), .string (strOfNums (ch.b.take jn)), .bool false] (fun _ => True) (fun _ => False) rfl ?aX ?aP (fun _ h => h.elim) (fun _ _ => trivial) ?aO (Below.refl _ _) ?aS ?aL ?_; (case aX => rfl); (case aP => exact ⟨[.int .i64 (ch.pos : Int)], [.string (strOfNums (ch.b.take jn)), .bool false], rfl, rfl, [.string (strOfNums (ch.b.take jn))], [.bool false], rfl, rfl, (by show [Value.bool false] = [Value.bool ch.cut]; rw [hcut])⟩); (case aO => exact HO9.out); (case aS => exact HS9.out); (case aL => have h9 : (f.opn.take k).length = k := (by rw [List.length_take, ← HNO.out]; omega); rw [h9]; omega); intro v111 w10 ho10 hb10 hg10 hat10; have HO10 := Aside0.mk ho10; have HG10 := Aside0.mk hg10; clear ho10 hb10 hg10 hat10)
              obtain ⟨st, hst9⟩ : ∃ st, st = f.opn.take k ++ [partC ch jn] := ⟨_, rfl⟩
              have HOs := Aside0.mk HO10.out
              rw [← hst9] at HOs HCF
              have HSt2 := Aside0.mk (show (⟨chgAll f.sure st, f.sure, st⟩ : Fil).Ok D.steps from stay_ok HFk.out k jn st (.inr ⟨ch, HCH.out, hst9⟩))
              have hk10 : But w3 w10 (some w.heap.size) := by
                obtain ⟨inner, how⟩ := own_of HO9.out
                exact ⟨Nat.le_trans HK9.out.1 HG10.out.size, fun q hq hne => (HG10.out.block q (Nat.lt_of_lt_of_le hq HK9.out.1) (fun e => by have := own_base how q e.symm; omega)).trans (HK9.out.2 q hq hne)⟩
              have HCs2 := Aside0.mk (HC3.out.next (V := w10) (HA9.out.but (But.grown HG10.out) (fun e => by obtain ⟨inner, how⟩ := own_of HO9.out; have h1 := own_base how _ e.symm; have h2 := HKb.out; omega)) hk10 ⟨HG10.out.os.trans HQ9.out.1, HG10.out.tape.trans HQ9.out.2.1, HG10.out.output.trans HQ9.out.2.2⟩)
              have c19 := (blk_cell (HCs2.out.lies.files.each i x f HX.out HF.out).obj 1).trans (rfl : _ = some x.2)
              rw [HER.out, ← HNO.out] at c19
              clear hst9 HO5 HC3 hk10 x0 x1 x2 HE9 HK9 HQ9 HA9 HO9 HS9 HO10
              obtain ⟨Ast, cst, est⟩ := Kd.R_slice HOs.out
              obtain ⟨bz, hbz⟩ : ∃ bz, bz = chgAll f.sure st := ⟨_, rfl⟩
              have HBZ := Aside0.mk hbz
              have HSa := Aside0.mk (HCs2.out.stay i x f HX.out HF.out (v1 := .slice Ast st.length cst) (s := st) (b := bz) (by rw [← est]; exact Kd.R_lower HOs.out HLow.out))
              have HNw := Aside0.mk (rnow_calls B x.1 _ _ D.steps _ HSa.out (by rw [hbz]; exact HSt2.out) HSt.out)
              have fz1 := blk_frozen (HCs2.out.lies.files.each i x f HX.out HF.out).obj 1
              obtain ⟨ln, hln⟩ : ∃ ln, ln = st.length := ⟨_, rfl⟩
              rw [← hln] at est HSa HNw
              subst est
              clear hbz hln
              go_wp2_with (go_at_call 100; refine HNw.out.mono ?_; rintro e w9 ⟨rfl, hb9⟩; have HB9 := Aside0.mk hb9; have HO9 := Aside0.mk ((hb9.block _ (blk_lt HSa.out.obj)).trans HSa.out.obj); have z0 := (blk_cell HO9.out 0).trans (rfl : _ = some (Value.string (strOfNums f.sure))); have z1 := (blk_cell HO9.out 1).trans (rfl : _ = some (Value.slice Ast ln cst)); have g0 := blk_frozen HO9.out 0; have g1 := blk_frozen HO9.out 1; clear hb9)
              have HCn := Aside0.mk (HCs2.out.done i x f HX.out HF.out (.slice Ast ln cst) (by have h9 := HB9.out; rw [show (w10.setCell ⟨x.1, 1, none⟩ (.slice Ast ln cst)).heap.size = w10.heap.size by simp [World.setCell]] at h9; exact h9) bz)
              have HE2 := Aside0.mk HE.out
              rw [HDr.out, crashFs_cons HOp.out, HCF.out] at HE2
              go_roundw
              case rel => exact ⟨i + 1, dn ++ [⟨bz, bz, []⟩], kp.tail.tail, L2.set i (x.1, .slice none 0 0), by omega, by go_num, by rw [List.length_append, HDn.out]; rfl, by rw [set_fst HX.out]; exact HL2.out, ⟨by rw [List.append_assoc, HBZ.out]; exact HE2.out⟩, ⟨by have h9 := HCn.out; rw [HDr.out] at h9; simp only [mid_set HDn.out] at h9; rw [List.append_assoc]; exact h9⟩⟩
              case measure => simp [Go.RowKit.intOf]; omega
          · have t3 : decide ((k : Int) < (nO : Int)) = false := decide_eq_false (by omega)
            have t3' : decide (k < nO) = false := decide_eq_false hkl
            have HCF := Aside0.mk (show crashF f kp = (chgAll f.sure (f.opn.take k), kp.tail) by rw [HKk.out]; exact crash_whole (.inl (by rw [← HKk.out]; exact List.getElem?_eq_none (by rw [← HNO.out]; omega))))
            obtain ⟨st, hst9⟩ : ∃ st, st = f.opn.take k := ⟨_, rfl⟩
            have HCs2 := Aside0.mk HC5.out
            clear HC3
            have HOs := Aside0.mk HO5.out
            rw [← hst9] at HOs HCF
            have HSt2 := Aside0.mk (show (⟨chgAll f.sure st, f.sure, st⟩ : Fil).Ok D.steps from stay_ok HFk.out k 0 st (.inl hst9))
            clear hst9 HO5 HC5
            obtain ⟨Ast, cst, est⟩ := Kd.R_slice HOs.out
            obtain ⟨bz, hbz⟩ : ∃ bz, bz = chgAll f.sure st := ⟨_, rfl⟩
            have HBZ := Aside0.mk hbz
            have HSa := Aside0.mk (HCs2.out.stay i x f HX.out HF.out (v1 := .slice Ast st.length cst) (s := st) (b := bz) (by rw [← est]; exact Kd.R_lower HOs.out HLow.out))
            have HNw := Aside0.mk (rnow_calls B x.1 _ _ D.steps _ HSa.out (by rw [hbz]; exact HSt2.out) HSt.out)
            have fz1 := blk_frozen (HCs2.out.lies.files.each i x f HX.out HF.out).obj 1
            obtain ⟨ln, hln⟩ : ∃ ln, ln = st.length := ⟨_, rfl⟩
            rw [← hln] at est HSa HNw
            subst est
            clear hbz hln
            go_wp2_with (go_at_call 100; refine HNw.out.mono ?_; rintro e w9 ⟨rfl, hb9⟩; have HB9 := Aside0.mk hb9; have HO9 := Aside0.mk ((hb9.block _ (blk_lt HSa.out.obj)).trans HSa.out.obj); have z0 := (blk_cell HO9.out 0).trans (rfl : _ = some (Value.string (strOfNums f.sure))); have z1 := (blk_cell HO9.out 1).trans (rfl : _ = some (Value.slice Ast ln cst)); have g0 := blk_frozen HO9.out 0; have g1 := blk_frozen HO9.out 1; clear hb9)
            have HCn := Aside0.mk (HCs2.out.done i x f HX.out HF.out (.slice Ast ln cst) (by have h9 := HB9.out; rw [show (w5.setCell ⟨x.1, 1, none⟩ (.slice Ast ln cst)).heap.size = w5.heap.size by simp [World.setCell]] at h9; exact h9) bz)
            have HE2 := Aside0.mk HE.out
            rw [HDr.out, crashFs_cons HOp.out, HCF.out] at HE2
            go_roundw
            case rel => exact ⟨i + 1, dn ++ [⟨bz, bz, []⟩], kp.tail, L2.set i (x.1, .slice none 0 0), by omega, by go_num, by rw [List.length_append, HDn.out]; rfl, by rw [set_fst HX.out]; exact HL2.out, ⟨by rw [List.append_assoc, HBZ.out]; exact HE2.out⟩, ⟨by have h9 := HCn.out; rw [HDr.out] at h9; simp only [mid_set HDn.out] at h9; rw [List.append_assoc]; exact h9⟩⟩
            case measure => simp [Go.RowKit.intOf]; omega
        · have t1 : decide (i < nF) = false := decide_eq_false hlt
          have hin : i = D.files.length := by have := HNF.out; omega
          have HEd := Aside0.mk (show crashFs D.files l.tail = dn by rw [HE.out, hin, List.drop_length]; simp [crashFs])
          have HCd := Aside0.mk HC.out
          rw [show dn ++ D.files.drop i = crashFs D.files l.tail by rw [HEd.out, hin, List.drop_length, List.append_nil]] at HCd
          have y6 := (blk_cell HCd.out.lies.obj 6).trans (rfl : _ = some (Value.bool D.off))
          have y5 := (blk_cell HCd.out.lies.obj 5).trans (rfl : _ = some (Value.int .i64 D.armed))
          have f5 := blk_frozen HCd.out.lies.obj 5
          have f6 := blk_frozen HCd.out.lies.obj 6
          clear HE HC
          go_wp2
          go_end0
          have o1 := blk_put HCd.out.lies.obj 6 (.bool false) rfl
          have o2 := blk_put o1 5 (.int .i64 (-1)) rfl
          have hfin := HCd.out.struct (V := (wr.setCell ⟨p, 6, none⟩ (.bool false)).setCell ⟨p, 5, none⟩ (.int .i64 (-1))) (ov2 := .slice none 0 0) (es := []) (q := D.quota) (ar := -1) (st := D.steps) (off := false) ((But.setCell wr ⟨p, 6, none⟩ (.bool false)).trans (But.setCell (wr.setCell ⟨p, 6, none⟩ (.bool false)) ⟨p, 5, none⟩ (.int .i64 (-1)))) o2 (Kd.R_nil _ _ _ _ _) (((RTurn.refl B wr).setCell HCd.out.lies.obj rfl HCd.out.lies.lop 6 _).setCell o1 rfl HCd.out.lies.lop 5 _)
          refine ⟨rfl, ⟨L2, .slice Af D.files.length cpf, nv, iv, .slice none 0 0, ?_⟩, hfin.turn⟩
          have e9 : crashR D l = { (⟨crashFs D.files l.tail, D.now, N1, [], D.quota, -1, false, D.steps⟩ : Dsk) with now := N1 } := by unfold crashR; rw [HN1.out, HK0.out]
          rw [e9]
          exact renow hfin.lies N1
end Go.Proofs.YtpcfnkmljchiiaaGreatDoor.DRcr
