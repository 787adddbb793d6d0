/- Steps towards RDiskAll: DRnw. -/
import Derived.Test.YtpcfnkmljchiiaaGreatDoorZ28
import Derived.Test.YtpcfnkmljchiiaaGreatDoorZ29
set_option linter.unusedVariables false
set_option linter.unusedSimpArgs false
/- The document's names now; what it asks of a name. -/
namespace Go.Proofs.YtpcfnkmljchiiaaGreatDoor.DRnw
open Go Go.RowKit Go.Maps Go.Proofs.YtpcfnkmljchiiaaGreatDoorW.PrintWords Go.Proofs.YtpcfnkmljchiiaaGreatDoorW.PrintLast DPl DAt DRn DRd DRl DRt DDo DRdp DRdo DRnf DFil GRef Right
theorem rent_at {B : Nat} {W : World} {v : Value} {l : List Ent} (h : REntsAt B W v l) (i : Nat) (e : Ent) (hi : l[i]? = some e) :
    ∃ g cp, v = .slice (some ⟨g, 0, none⟩) l.length cp ∧ l.length ≤ cp ∧ W.cell? ⟨g, i * 3, none⟩ = some (.string e.name) ∧ W.cell? ⟨g, i * 3 + 1, none⟩ = some (.string e.gone) ∧ W.cell? ⟨g, i * 3 + 2, none⟩ = some (.int .i64 e.file) := by
  obtain ⟨hl, hx⟩ := List.getElem?_eq_some_iff.1 hi
  obtain ⟨inner, ho⟩ := Kd.R_own h
  obtain ⟨A, cp, e0, hcp, hC⟩ := Kd.R_reads h
  obtain ⟨g, cp2, e2, _, _⟩ := World.ownsRow.form ho (by omega)
  rw [e0] at e2
  obtain ⟨ad, c, ea, hlen, hK, hcell⟩ := Kd.C_get hC e (i : Int) (by omega) (by omega)
  simp only [Value.slice.injEq, Option.some.injEq] at e2
  obtain ⟨rfl, _, rfl⟩ := e2
  obtain rfl := Option.some.inj ea
  obtain ⟨c0, c1, rfl, h0, d0, d1, rfl, h1, h2⟩ := hK
  have eg : l.getD i e = e := by rw [List.getD_eq_getElem?_getD, hi]; rfl
  simp only [Int.toNat_natCast, eg] at h0 h1 h2
  have k0 : c0 = [.string e.name] := h0
  have k1 : d0 = [.string e.gone] := h1
  have k2 : d1 = [.int .i64 e.file] := h2
  subst k0
  subst k1
  subst k2
  have q0 := hcell 0 _ rfl
  have q1 := hcell 1 _ rfl
  have q2 := hcell 2 _ rfl
  have es : kEnt.sz = 3 := rfl
  rw [es, Int.toNat_natCast, add_plain] at q0 q1 q2
  exact ⟨g, cp, e0, hcp, by simpa using q0, q1, q2⟩
/-- Where names lie: two rows from B on. -/
structure NmsAt (B : Nat) (U : World) (nv iv : Value) (N : Nms) : Prop where
  rn : Kd.R Kd.string 9 U B (fun _ => True) nv (namesL N)
  ri : Kd.R (Kd.int .i64) 3 U B (fun _ => True) iv (numsL N)
theorem NmsAt.keep {B : Nat} {U V : World} {nv iv : Value} {N : Nms} (h : NmsAt B U nv iv N) (hb : Below U.heap.size U V) : NmsAt B V nv iv N := ⟨Kd.R_below h.rn hb, Kd.R_below h.ri hb⟩
theorem NmsAt.reads {B : Nat} {U : World} {nv iv : Value} {N : Nms} (h : NmsAt B U nv iv N) : ∃ A1 c1 A2 c2, nv = .slice A1 N.length c1 ∧ iv = .slice A2 N.length c2 ∧ N.length ≤ c1 ∧ N.length ≤ c2 ∧ Kd.C Kd.string U A1 (namesL N).length (namesL N) ∧ Kd.C (Kd.int .i64) U A2 (numsL N).length (numsL N) := by
  obtain ⟨A1, c1, e1, l1, k1⟩ := Kd.R_reads h.rn
  obtain ⟨A2, c2, e2, l2, k2⟩ := Kd.R_reads h.ri
  rw [names_len] at e1 l1
  rw [nums_len] at e2 l2
  exact ⟨A1, c1, A2, c2, e1, e2, l1, l2, k1, k2⟩
structure NowW (B : Nat) (w : World) (nv iv : Value) (N : Nms) (U : World) : Prop where
  bel : Below w.heap.size w U
  hr : U.heap[w.heap.size]? = some (.cells #[.slice none 0 0, .slice none 0 0] tN (0, 0))
  ho : U.heap[w.heap.size + 1]? = some (.cells #[nv, iv] tN (0, 0))
  nms : NmsAt B U nv iv N
section
variable {B : Nat} {w U V : World} {nv iv n2 i2 : Value} {N N2 : Nms}
theorem NowW.keep (h : NowW B w nv iv N U) (hb : Below U.heap.size U V) : NowW B w nv iv N V :=
  ⟨h.bel.trans (hb.mono h.bel.size), (hb.block _ (blk_lt h.hr)).trans h.hr, (hb.block _ (blk_lt h.ho)).trans h.ho, h.nms.keep hb⟩
theorem nms_set {t : Nat} (ht : t ≠ 9 ∧ t ≠ 3) {g : Nat} {cs : Array Value} {m : Nat × Nat} (hg : U.heap[g]? = some (.cells cs t m)) (h : NmsAt B U nv iv N) (i j : Nat) (u u2 : Value) : NmsAt B ((U.setCell ⟨g, i, none⟩ u).setCell ⟨g, j, none⟩ u2) nv iv N := by
  have hs := (But.setCell U ⟨g, i, none⟩ u).trans (But.setCell (U.setCell ⟨g, i, none⟩ u) ⟨g, j, none⟩ u2)
  have hn : ∀ qs : List Nat, t ∉ qs → Not U (some g) qs := fun qs hq => Not.cells (t := t) (fun g' hg' => by obtain rfl := Option.some.inj hg'; exact ⟨_, _, hg⟩) (fun q hq2 e => hq (e ▸ hq2))
  exact ⟨R_row h.rn hs (hn _ (by simp [Kd.string, Kd.scalar]; exact ht.1)), R_row h.ri hs (hn _ (by simp [Kd.int, Kd.scalar]; exact ht.2))⟩
theorem NowW.put (h : NowW B w nv iv N U) (hb : Below U.heap.size U V) (hN : NmsAt B V n2 i2 N2) : NowW B w n2 i2 N2 ((V.setCell ⟨w.heap.size + 1, 0, none⟩ n2).setCell ⟨w.heap.size + 1, 1, none⟩ i2) := by
  have k := h.keep hb
  have hs := (But.setCell V ⟨w.heap.size + 1, 0, none⟩ n2).trans (But.setCell (V.setCell ⟨w.heap.size + 1, 0, none⟩ n2) ⟨w.heap.size + 1, 1, none⟩ i2)
  exact ⟨(k.bel.setCell (by show w.heap.size ≤ w.heap.size + 1; omega) n2).setCell (by show w.heap.size ≤ w.heap.size + 1; omega) i2, hs.obj k.hr (fun e => by have h9 : w.heap.size = w.heap.size + 1 := Option.some.inj e; omega), blk_put (blk_put k.ho 0 n2 rfl) 1 i2 rfl, nms_set (t := tN) (by decide) k.ho hN 0 1 n2 i2⟩
theorem NowW.res (h : NowW B w nv iv N U) (u u2 : Value) : NmsAt B ((U.setCell ⟨w.heap.size, 0, none⟩ u).setCell ⟨w.heap.size, 1, none⟩ u2) nv iv N ∧ Below w.heap.size w ((U.setCell ⟨w.heap.size, 0, none⟩ u).setCell ⟨w.heap.size, 1, none⟩ u2) ∧ ((U.setCell ⟨w.heap.size, 0, none⟩ u).setCell ⟨w.heap.size, 1, none⟩ u2).heap[w.heap.size]? = some (.cells #[u, u2] tN (0, 0)) :=
  ⟨nms_set (t := tN) (by decide) h.hr h.nms 0 1 u u2, (h.bel.setCell (Nat.le_refl _) u).setCell (Nat.le_refl _) u2, blk_put (blk_put h.hr 0 u rfl) 1 u2 rfl⟩
end
theorem nowW_start {B : Nat} {w : World} {nv iv : Value} {N : Nms} (h : NmsAt B w nv iv N) : NowW B w nv iv N ((w.alloc (.cells #[.slice none 0 0, .slice none 0 0] tN)).alloc (.cells #[nv, iv] tN)) := by
  have al : ∀ (U : World) (o : Obj), Below U.heap.size U (U.alloc o) := fun U o => (Below.refl _ U).alloc (Nat.le_refl _) o
  generalize hu1 : w.alloc (.cells #[.slice none 0 0, .slice none 0 0] tN (0, 0)) = U1
  have e1 := heap_alloc_new w (.cells #[.slice none 0 0, .slice none 0 0] tN (0, 0))
  have z1 : (w.alloc (.cells #[.slice none 0 0, .slice none 0 0] tN (0, 0))).heap.size = w.heap.size + 1 := by simp
  have a1 := al w (.cells #[.slice none 0 0, .slice none 0 0] tN (0, 0))
  rw [hu1] at e1 z1 a1
  have e2 := heap_alloc_new U1 (.cells #[nv, iv] tN (0, 0))
  have a2 := al U1 (.cells #[nv, iv] tN (0, 0))
  rw [z1] at e2
  exact ⟨a1.trans (a2.mono a1.size), (a2.block _ (by omega)).trans e1, e2, (h.keep a1).keep a2⟩
theorem goAll_next (N : Nms) (l : List Ent) (j : Nat) (e : Ent) (h : l[j]? = some e) : goAll N (l.take (j + 1)) = e.go (goAll N (l.take j)) := by
  rw [List.take_add_one, h]
  exact goAll_snoc N _ e
theorem goAll_len {D : Dsk} (hk : D.Ok) (hs : D.steps ≤ 1000000000) (j : Nat) : (goAll D.sure (D.opn.take j)).length ≤ 1000000000 := by
  have h1 := len_goAll (D.opn.take j) D.sure
  have h2 := hk.cntN
  have h3 : (D.opn.take j).length ≤ D.opn.length := by rw [List.length_take]; omega
  omega
set_option maxRecDepth 100000 in
set_option maxHeartbeats 16000000 in
/-- Now: the names now. -/
theorem names_calls (B p : Nat) (D : Dsk) (w : World) (h : RDiskAt B w p D) (hk : D.Ok) (hs : D.steps ≤ 1000000000) (hri : Rising D.sure) :
    Calls Tryz.prog 96 #[.pointer (some ⟨p, 0, none⟩)] w fun e w' => ∃ nv iv, e = .returned (.agg #[nv, iv]) ∧ NmsAt B w' nv iv D.now ∧ Below w.heap.size w w' := by
  obtain ⟨L, fv, nv, iv, ov, hl⟩ := h
  have HL := Aside0.mk hl
  have hN0 : NmsAt B w nv iv D.sure := ⟨hl.names, hl.nums⟩
  obtain ⟨A1, k1, A2, k2, rfl, rfl, _, _, _, _⟩ := hN0.reads
  have HN0 := Aside0.mk hN0
  have HS := Aside0.mk (nowW_start hN0)
  have hlop := Aside0.mk hl.lop
  have HK := Aside0.mk hk
  have HRi := Aside0.mk hri
  have HGl := Aside0.mk (goAll_len hk hs)
  obtain ⟨Ao, co, eo⟩ := Kd.R_slice hl.opn
  have c1 : w.cell? ⟨p, 1, none⟩ = some (.slice A1 D.sure.length k1) := (blk_cell hl.obj 1).trans rfl
  have c2 : w.cell? ⟨p, 2, none⟩ = some (.slice A2 D.sure.length k2) := (blk_cell hl.obj 2).trans rfl
  have c3 : w.cell? ⟨p, 3, none⟩ = some (.slice Ao D.opn.length co) := by rw [← eo]; exact (blk_cell hl.obj 3).trans rfl
  obtain ⟨no, hno⟩ : ∃ no, no = D.opn.length := ⟨_, rfl⟩
  have HNo := Aside0.mk hno
  have HEo := Aside0.mk eo
  have hnb : no ≤ 1000000000 := by have := hk.cntN; omega
  obtain ⟨ns, hns⟩ : ∃ ns, ns = D.sure.length := ⟨_, rfl⟩
  have HNs := Aside0.mk hns
  rw [← hno] at c3
  rw [← hns] at c1 c2 HS
  have HC3 := Aside0.mk (fun (U : World) (hb : Below w.heap.size w U) => (hb.cell (World.block_lt_of_cell? w _ c3)).trans c3)
  have HLt := Aside0.mk (blk_lt hl.obj)
  have hba : Below w.heap.size w (w.alloc (.cells #[.slice none 0 0, .slice none 0 0] tN)) := (Below.refl _ _).alloc (Nat.le_refl _) _
  have d1 := (hba.cell (World.block_lt_of_cell? w _ c1)).trans c1
  have d2 := (hba.cell (World.block_lt_of_cell? w _ c2)).trans c2
  have d3 := HC3.out _ HS.out.bel
  clear hl hN0 eo hno hns hk hs hri hba
  go_enter Tryz.func96, Tryz.ntmps96
  go_wp2
  generalize (w.alloc (.cells #[.slice none 0 0, .slice none 0 0] tN)).alloc (.cells #[.slice A1 ns k1, .slice A2 ns k2] tN) = W0 at HS ⊢
  go_loopw [15] (fun i wr => ∃ (j : Nat) (nv iv : Value), j ≤ no ∧ i = .int .i64 j ∧ Aside0 (NowW B w nv iv (goAll D.sure (D.opn.take j)) wr)) (fun i _ => no - (Go.RowKit.intOf i).toNat)
  case atStart => exact ⟨0, _, _, by omega, rfl, ⟨by simpa [goAll] using HS.out⟩⟩
  case round =>
    obtain ⟨j, nv, iv, hj, rfl, HW⟩ := hrel
    have HGj := Aside0.mk (HGl.out j)
    have HRj := Aside0.mk (rising_goAll (D.opn.take j) D.sure HRi.out)
    by_cases hlt : j < no
    · have t1 : decide (j < no) = true := decide_eq_true hlt
      obtain ⟨e, he⟩ : ∃ e, D.opn[j]? = some e := ⟨_, List.getElem?_eq_getElem (by rw [← HNo.out]; exact hlt)⟩
      have HT := Aside0.mk (goAll_next D.sure D.opn j e he)
      obtain ⟨g, cp, ef, _, q0, q1, q2⟩ := rent_at HL.out.opn j e he
      rw [HEo.out] at ef
      simp only [Value.slice.injEq] at ef
      obtain ⟨rfl, _, rfl⟩ := ef
      have m0 := (HW.out.bel.cell (World.block_lt_of_cell? w _ q0)).trans q0
      have m1 := (HW.out.bel.cell (World.block_lt_of_cell? w _ q1)).trans q1
      have m2 := (HW.out.bel.cell (World.block_lt_of_cell? w _ q2)).trans q2
      have k0 : (0 : Int) ≤ (j : Int) := by omega
      have k1 : (j : Int) < (no : Int) := by omega
      clear he q0 q1 q2
      obtain ⟨N1, hN1⟩ : ∃ N1, N1 = goAll D.sure (D.opn.take j) := ⟨_, rfl⟩
      rw [← hN1] at HW HGj HRj HT
      clear hN1
      obtain ⟨B1, b1, B2, b2, rfl, rfl, l1, l2, C1, C2⟩ := HW.out.nms.reads
      have HDo := Aside0.mk (fun (U : World) (hb : Below wr.heap.size wr U) => do_walk e N1 B1 b1 B2 b2 U (Kd.C_below C1 hb) (Kd.C_below C2 hb) l1 l2 (Nat.le_trans HGj.out (by decide)))
      have HDe := Aside0.mk (doc_all HRj.out e)
      obtain ⟨n1, hn1⟩ : ∃ n1, n1 = N1.length := ⟨_, rfl⟩
      rw [← hn1] at HDo HW
      have z0 : wr.cell? ⟨w.heap.size + 1, 0, none⟩ = some (.slice B1 n1 b1) := (blk_cell HW.out.ho 0).trans rfl
      have z1 : wr.cell? ⟨w.heap.size + 1, 1, none⟩ = some (.slice B2 n1 b2) := (blk_cell HW.out.ho 1).trans rfl
      have hbe : Below wr.heap.size wr (wr.alloc (.cells #[.string e.name, .string e.gone, .int .i64 e.file] tE)) := (Below.refl _ _).alloc (Nat.le_refl _) _
      have x0 := (hbe.cell (World.block_lt_of_cell? wr _ z0)).trans z0
      have x1 := (hbe.cell (World.block_lt_of_cell? wr _ z1)).trans z1
      clear l1 l2 C1 C2 hn1 hbe
      go_wp2_with (go_at_call 105; refine (HDo.out _ ((Below.refl _ _).alloc (Nat.le_refl _) _)).mono ?_; rintro en w2 ⟨nv', iv', rfl, hr1, hr2, hb2⟩; rw [HDe.out] at hr1 hr2; obtain ⟨An, cn, rfl⟩ := Kd.R_slice hr1; obtain ⟨Ai, ci, rfl⟩ := Kd.R_slice hr2; have HB2 := Aside0.mk (((Below.refl _ wr).alloc (Nat.le_refl _) (.cells #[.string e.name, .string e.gone, .int .i64 e.file] tE)).trans (hb2.mono (by simp))); have HR2 := Aside0.mk (show NmsAt B w2 _ _ (e.go N1) from ⟨Kd.R_lower hr1 (by have h1 := HLt.out; have h2 := hlop.out; have h3 := HW.out.bel.size; simp; omega), Kd.R_lower hr2 (by have h1 := HLt.out; have h2 := hlop.out; have h3 := HW.out.bel.size; simp; omega)⟩); have HK2 := Aside0.mk (HW.out.keep HB2.out); have y0 := (blk_cell HK2.out.ho 0).trans (rfl : _ = some (Value.slice B1 n1 b1)); have y1 := (blk_cell HK2.out.ho 1).trans (rfl : _ = some (Value.slice B2 n1 b2)); have f0 := blk_frozen HK2.out.ho 0; have f1 := blk_frozen HK2.out.ho 1; clear hr1 hr2 hb2)
      have HWn := Aside0.mk (HW.out.put HB2.out HR2.out)
      go_roundw
      case rel => exact ⟨j + 1, _, _, by omega, by go_num, ⟨by rw [HT.out]; exact HWn.out⟩⟩
      case measure => simp [Go.RowKit.intOf]; omega
    · have t1 : decide (j < no) = false := decide_eq_false hlt
      have HE := Aside0.mk (show goAll D.sure (D.opn.take j) = D.now by rw [HK.out.nowE, show j = D.opn.length by have := HNo.out; omega, List.take_length])
      obtain ⟨B1, b1, B2, b2, rfl, rfl, _, _, _, _⟩ := HW.out.nms.reads
      obtain ⟨n1, hn1⟩ : ∃ n1, n1 = (goAll D.sure (D.opn.take j)).length := ⟨_, rfl⟩
      rw [← hn1] at HW
      have z0 : wr.cell? ⟨w.heap.size + 1, 0, none⟩ = some (.slice B1 n1 b1) := (blk_cell HW.out.ho 0).trans rfl
      have z1 : wr.cell? ⟨w.heap.size + 1, 1, none⟩ = some (.slice B2 n1 b2) := (blk_cell HW.out.ho 1).trans rfl
      have y0 := (blk_cell HW.out.hr 0).trans (rfl : _ = some (Value.slice none 0 0))
      have y1 := (blk_cell HW.out.hr 1).trans (rfl : _ = some (Value.slice none 0 0))
      have f0 := blk_frozen HW.out.hr 0
      have f1 := blk_frozen HW.out.hr 1
      have HF := Aside0.mk (fun u u2 => HW.out.res u u2)
      clear hn1
      go_wp2
      (try simp only [Exit.inBlock, Exit.then])
      refine bodyPost_ret (results_cell_row (fn := Tryz.f96) rfl _ _ w.heap.size tN _ _ _ rfl (HF.out _ _).2.2 Tryz.underlying44 rfl (by kernel_rfl)) rfl ?_
      rw [HE.out] at HF
      exact ⟨_, _, rfl, (HF.out _ _).1, (HF.out _ _).2.1⟩
end Go.Proofs.YtpcfnkmljchiiaaGreatDoor.DRnw
