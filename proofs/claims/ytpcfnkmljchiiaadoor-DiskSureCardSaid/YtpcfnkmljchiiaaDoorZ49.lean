/- Steps towards RDiskSure: DRsw. -/
import Derived.Test.YtpcfnkmljchiiaaDoorZ47
import Derived.Test.YtpcfnkmljchiiaaDoorZ48
/- DiskSure walked. -/
namespace Go.Proofs.YtpcfnkmljchiiaaDoor.DRsw
open Go Go.RowKit Go.Maps Go.Proofs.YtpcfnkmljchiiaaDoorW.PrintWords Go.Proofs.YtpcfnkmljchiiaaDoorW.PrintLast Go.Proofs.YtpcfnkmljchiiaaDoorW.PrintMore Go.Proofs.YtpcfnkmljchiiaaDoor.DPl Go.Proofs.YtpcfnkmljchiiaaDoor.DAt Go.Proofs.YtpcfnkmljchiiaaDoor.Is Go.Proofs.YtpcfnkmljchiiaaDoor.DNw Go.Proofs.YtpcfnkmljchiiaaDoor.DRn Go.Proofs.YtpcfnkmljchiiaaDoor.DRd Go.Proofs.YtpcfnkmljchiiaaDoor.DRl Go.Proofs.YtpcfnkmljchiiaaDoor.DRt Go.Proofs.YtpcfnkmljchiiaaDoor.DDo Go.Proofs.YtpcfnkmljchiiaaDoor.DRel Go.Proofs.YtpcfnkmljchiiaaDoor.DRak Go.Proofs.YtpcfnkmljchiiaaDoor.DRau Go.Proofs.YtpcfnkmljchiiaaDoor.DRlm Go.Proofs.YtpcfnkmljchiiaaDoor.DRnb Go.Proofs.YtpcfnkmljchiiaaDoor.DRnc Go.Proofs.YtpcfnkmljchiiaaDoor.DRnd Go.Proofs.YtpcfnkmljchiiaaDoor.DRne Go.Proofs.YtpcfnkmljchiiaaDoor.DRpa Go.Proofs.YtpcfnkmljchiiaaDoor.DRpl Go.Proofs.YtpcfnkmljchiiaaDoor.DRnu Go.Proofs.YtpcfnkmljchiiaaDoor.DRsu Go.Proofs.YtpcfnkmljchiiaaDoor.DRow Go.Proofs.YtpcfnkmljchiiaaDoor.DOk Go.Proofs.YtpcfnkmljchiiaaDoor.DOk2 Go.Proofs.YtpcfnkmljchiiaaDoor.DSu Go.Proofs.YtpcfnkmljchiiaaDoor.DSs Go.Proofs.YtpcfnkmljchiiaaDoor.DAlv Go.Proofs.YtpcfnkmljchiiaaDoor.DFil Go.Proofs.YtpcfnkmljchiiaaDoor.DUsd Go.Proofs.YtpcfnkmljchiiaaDoor.DCh2 Go.Proofs.YtpcfnkmljchiiaaDoor.DOps Go.Proofs.YtpcfnkmljchiiaaDoor.DSyn Go.Proofs.YtpcfnkmljchiiaaDoor.DSd Go.Proofs.YtpcfnkmljchiiaaDoor.DCr Go.Proofs.YtpcfnkmljchiiaaDoor.DCra Go.Proofs.YtpcfnkmljchiiaaDoor.DCrc Go.Proofs.YtpcfnkmljchiiaaDoor.DRen Go.Proofs.YtpcfnkmljchiiaaDoor.DOpn Go.Proofs.YtpcfnkmljchiiaaDoor.GPl Go.Proofs.YtpcfnkmljchiiaaDoor.Right
set_option linter.unusedVariables false
set_option linter.unusedSimpArgs false
/-! ### behind the crash -/
theorem opn_crash : ∀ (l : List Fil) (k : List Int), ∀ f ∈ crashFs l k, f.opn = [] := by
  intro l
  induction l with
  | nil => intro k f hf; simp [crashFs] at hf
  | cons a r ih =>
    intro k f hf
    rw [crashFs] at hf
    split at hf
    · rename_i h
      rcases List.mem_cons.1 hf with rfl | hf
      · exact h
      · exact ih _ f hf
    · rcases List.mem_cons.1 hf with rfl | hf
      · rfl
      · exact ih _ f hf
theorem opn_sweep (fs : List Fil) (N : Nms) (h : ∀ f ∈ fs, f.opn = []) : ∀ f ∈ sweepFs fs N, f.opn = [] := by
  intro f hf
  unfold sweepFs at hf
  obtain ⟨i, hi, rfl⟩ := List.mem_mapIdx.1 hf
  have h1 := h fs[i] (List.getElem_mem hi)
  split
  · exact h1
  · exact h1
theorem opens_none : ∀ l : List Fil, (∀ f ∈ l, f.opn = []) → opensL l = 0
  | [], _ => rfl
  | a :: r, h => by
    have h1 := opens_none r (fun f hf => h f (List.mem_cons_of_mem _ hf))
    unfold opensL at h1 ⊢
    rw [List.map_cons, List.sum_cons, h1, h a (List.mem_cons_self ..)]
    rfl
theorem crash_end {D : Dsk} {b : List Int} (ha : Alone D kS b) (l : List Int) : fileE (crashD D l) nS = none ∧ readD (crashD D l) nS = b ∧ (crashD D l).off = false ∧ opensD (crashD D l) = 0 := by
  obtain ⟨h1, h2, h3⟩ := Keeps.read (s := nS) ha.keeps l
  refine ⟨?_, h1, h3, ?_⟩
  · unfold fileE askD
    rw [h3, show rightB nS = true by rfl, h2]
    rfl
  · show ([] : List Ent).length + opensL (sweepFs _ _) = 0
    rw [opens_none _ (opn_sweep _ _ (opn_crash _ _))]
    rfl
/-! ### what the walk carries -/
structure SS (n : Nat) (w : World) (E : Int → Addr) (q d m : Nat) (D M : Dsk) (W : World) : Prop where
  bel : Below n w W
  errs : AllAt n W E
  disk : DiskAt ⟨n, q⟩ W d D
  doc : RDiskAt n W m M
section
variable {n q d m : Nat} {w W V : World} {E : Int → Addr} {D D1 M M1 : Dsk}
theorem SS.size (h : SS n w E q d m D M W) (hn : n = w.heap.size) : n ≤ W.heap.size := hn ▸ (hn ▸ h.bel.size)
theorem SS.below (h : SS n w E q d m D M W) (hn : n = w.heap.size) (hb : Below W.heap.size W V) : SS n w E q d m D M V :=
  ⟨h.bel.trans (hb.mono (h.size hn)), h.errs.low hb (h.size hn), h.disk.below hb, h.doc.keep hb⟩
theorem SS.rturn (h : SS n w E q d m D M W) (hn : n = w.heap.size) (hm : RDiskAt n V m M1) (ht : RTurn n W V) : SS n w E q d m D M1 V :=
  ⟨h.bel.trans (ht.toBelow (h.size hn)), h.errs.low (ht.toBelow (h.size hn)) (Nat.le_refl _), h.disk.rturnN ht, hm⟩
theorem SS.turn (h : SS n w E q d m D M W) (hn : n = w.heap.size) (hd : DiskAt ⟨n, q⟩ V d D1) (ht : Turn n W V) : SS n w E q d m D1 M V :=
  ⟨h.bel.trans (ht.toBelow (h.size hn)), h.errs.low (ht.toBelow (h.size hn)) (Nat.le_refl _), hd, h.doc.turnN ht⟩
end
/-- What the loop carries. -/
structure LP (n : Nat) (w : World) (E : Int → Addr) (b : List Int) (d m : Nat) (j : Nat) (D : Dsk) (G : List Fil) (q : Nat) (W : World) : Prop where
  steps : D.steps ≤ 4 + (j : Int)
  ok : D.Ok
  alone : Alone D kS b
  rel : FRel D G
  rise : Rising D.sure
  ss : SS n w E q d m D (withF D G) W
theorem LP.next {d m j q : Nat} {w W V : World} {E : Int → Addr} {b : List Int} {D : Dsk} {G : List Fil} (h : LP w.heap.size w E b d m j D G q W) (hb : Below W.heap.size W V) : LP w.heap.size w E b d m (j + 1) D G q V :=
  ⟨by have := h.steps; omega, h.ok, h.alone, h.rel, h.rise, h.ss.below rfl hb⟩
theorem ne_list {s : ByteArray} (h : (s.toList == [115, 117, 114, 101]) = false) : s.data.toList ≠ kS := fun e => by
  rw [ByteArray.toList_eq, e] at h
  exact absurd h (by decide)
theorem names_ne {s t : ByteArray} (h1 : (s.toList == [115, 117, 114, 101]) = false) (h2 : (t.toList == [115, 117, 114, 101]) = false) : s.data.toList ≠ kS ∧ t.data.toList ≠ kS := ⟨ne_list h1, ne_list h2⟩
set_option maxRecDepth 100000 in
set_option maxHeartbeats 32000000 in
theorem sure_calls (b : List Int) (A0 : Option Addr) (c0 : Nat) (L : List S48) (A1 : Option Addr) (c1 : Nat) (l : List Int) (A2 : Option Addr) (c2 : Nat) (E : Int → Addr) (w : World) (hE : Errs All w E)
    (hr0 : Kd.C (Kd.int .u8) w A0 b.length b) (hc0 : b.length ≤ c0) (hm0 : b.length ≤ maxLen) (hr1 : Kd.C k48 w A1 L.length L) (hc1 : L.length ≤ c1) (hm1 : L.length ≤ maxLen) (hs1 : ∀ o ∈ L, Sm o) (hr2 : ReadsInt w .i64 A2 l.length l) (hc2 : l.length ≤ c2) (hm2 : l.length ≤ maxLen) :
    Calls Tryd.prog 5 #[.slice A0 b.length c0, .slice A1 L.length c1, .slice A2 l.length c2] w fun e w' => e = .returned (.bool true) ∧ Below w.heap.size w w' := by
  have HE := Aside0.mk (AllAt.of hE)
  have HAl := Aside0.mk (alive_calls w.heap.size E w (Nat.le_refl _) HE.out.disk)
  have HQ := Aside0.mk (show 0 < w.heap.size by have := World.block_lt_of_cell? w _ (HE.out.disk.errs.var 8 (by simp [dErr])); omega)
  obtain ⟨r, hlf, hfew⟩ := light_f L hm1 hs1
  have HLi := Aside0.mk (fun (V : World) (hV : Below w.heap.size w V) => postbaglaw05_light.calls (L.length + 1) A1 c1 L r V (Kd.C_below hr1 hV) hc1 hlf)
  have HF := Aside0.mk hfew
  have HR0 := Aside0.mk hr0
  have HR1 := Aside0.mk hr1
  have HR2 := Aside0.mk (fun (V : World) (hT : Below w.heap.size w V) => hr2.below hT)
  have HSm := Aside0.mk hs1
  have HC0 := Aside0.mk hc0
  have HC2 := Aside0.mk hc2
  have HCv := Aside0.mk (fun (V : World) (hb : Below w.heap.size w V) => Kd.C_string (P := Tryd.prog) (w := V) (A := A0) (c := c0) Tryd.underlying37 Tryd.underlying5 Tryd.underlying9 (Kd.C_below hr0 hb))
  have hm0' : b.length ≤ 9223372036854775807 := hm0
  have hm2' : l.length ≤ 9223372036854775807 := hm2
  have hm1' : L.length ≤ 9223372036854775807 := hm1
  clear hE hlf hfew hr0 hr1 hr2 hs1 hc0 hc1 hc2 hm0 hm1 hm2
  go_enter Tryd.func5, Tryd.ntmps5
  by_cases hlt : r = false
  · subst hlt
    go_wp2_with (first
      | (go_at_call 6; refine HAl.out.mono ?_; rintro e w1 ⟨rfl, ht⟩; have HT1 := Aside0.mk ht; clear ht)
      | (go_at_call 15; refine (HLi.out _ (HT1.out.toBelow (Nat.le_refl _))).mono ?_; rintro e w2 ⟨rfl, hb⟩; have HT2 := Aside0.mk (HT1.out.below hb); clear hb))
    all_goals try go_ret
    exact ⟨rfl, HT2.out.toBelow (Nat.le_refl _)⟩
  obtain rfl : r = true := by simpa using hlt
  clear hlt
  have HFew := Aside0.mk (HF.out rfl)
  clear HF
  by_cases h5 : 500 < b.length
  · have t1 : decide ((500 : Int) < (b.length : Int)) = true := decide_eq_true (by omega)
    have t1' : decide (500 < b.length) = true := decide_eq_true h5
    go_wp2_with (first
      | (go_at_call 6; refine HAl.out.mono ?_; rintro e w1 ⟨rfl, ht⟩; have HT1 := Aside0.mk ht; clear ht)
      | (go_at_call 15; refine (HLi.out _ (HT1.out.toBelow (Nat.le_refl _))).mono ?_; rintro e w2 ⟨rfl, hb⟩; have HT2 := Aside0.mk (HT1.out.below hb); clear hb))
    all_goals try go_ret
    exact ⟨rfl, HT2.out.toBelow (Nat.le_refl _)⟩
  have t1 : decide ((500 : Int) < (b.length : Int)) = false := decide_eq_false (by omega)
  have t1' : decide (500 < b.length) = false := decide_eq_false h5
  by_cases h6 : 100 < l.length
  · have t2 : decide ((100 : Int) < (l.length : Int)) = true := decide_eq_true (by omega)
    have t2' : decide (100 < l.length) = true := decide_eq_true h6
    go_wp2_with (first
      | (go_at_call 6; refine HAl.out.mono ?_; rintro e w1 ⟨rfl, ht⟩; have HT1 := Aside0.mk ht; clear ht)
      | (go_at_call 15; refine (HLi.out _ (HT1.out.toBelow (Nat.le_refl _))).mono ?_; rintro e w2 ⟨rfl, hb⟩; have HT2 := Aside0.mk (HT1.out.below hb); clear hb))
    all_goals try go_ret
    exact ⟨rfl, HT2.out.toBelow (Nat.le_refl _)⟩
  have t2 : decide ((100 : Int) < (l.length : Int)) = false := decide_eq_false (by omega)
  have t2' : decide (100 < l.length) = false := decide_eq_false h6
  have hb5 : b.length ≤ 500 := by omega
  have HB5 := Aside0.mk hb5
  clear h5 h6 hb5
  go_upto_region 13 with (first
    | (go_at_call 6; refine HAl.out.mono ?_; rintro e w1 ⟨rfl, ht⟩; have HT1 := Aside0.mk ht; clear ht)
    | (go_at_call 15; refine (HLi.out _ (HT1.out.toBelow (Nat.le_refl _))).mono ?_; rintro e w2 ⟨rfl, hb⟩; have HT2 := Aside0.mk (HT1.out.below hb); clear hb)
    | (go_at_call 7; refine (newD_calls 10000 (by decide) (by decide) ⟨w.heap.size, 0⟩ w2 HT2.out.size (Nat.lt_of_lt_of_le HQ.out HT2.out.size)).mono ?_; rintro e w3 ⟨p, rfl, hd, ht⟩; have HD3 := Aside0.mk hd; have HT3 := Aside0.mk (HT2.out.trans ht); clear hd ht HT1 HT2)
    | (go_at_call 8; refine (create_calls (h := HD3.out) (hE := HE.out.disk.turn HT3.out) (hk := newD_ok 10000 (by decide) (by decide)) (hst := (show (0 : Int) ≤ 1000000000 by decide)) (s := nS) (hs := by decide)).mono ?_; rw [st1, errV_none]; rintro e w4 ⟨rfl, hd, ht⟩; have HD4 := Aside0.mk hd; have HT4 := Aside0.mk (HT3.out.trans ht); clear hd ht HD3 HT3)
    | (go_at_call 12; refine (append_calls (h := HD4.out) (hE := HE.out.disk.turn HT4.out) (hk := ok1) (hst := (show (1 : Int) ≤ 1000000000 by decide)) (s := nS) (hs := by decide) (b := b) (hC := Kd.C_below HR0.out (HT4.out.toBelow (Nat.le_refl _))) (hc0 := HC0.out) (hbl := by have := HB5.out; omega)).mono ?_; rw [st2 b HB5.out, errV_none]; rintro e w5 ⟨rfl, hd, ht⟩; have HD5 := Aside0.mk hd; have HT5 := Aside0.mk (HT4.out.trans ht); clear hd ht HD4 HT4)
    | (go_at_call 16; refine (sync_calls (h := HD5.out) (hE := HE.out.disk.turn HT5.out) (hk := ok2 b HB5.out) (hst := (show (2 : Int) ≤ 1000000000 by decide)) (s := nS) (hs := by decide)).mono ?_; rw [st3 b, errV_none]; rintro e w6 ⟨rfl, hd, ht⟩; have HD6 := Aside0.mk hd; have HT6 := Aside0.mk (HT5.out.trans ht); clear hd ht HD5 HT5)
    | (go_at_call 17; refine (syncDir_calls (h := HD6.out) (hE := HE.out.disk.turn HT6.out) (hk := ok3 b HB5.out) (hst := (show (3 : Int) ≤ 1000000000 by decide))).mono ?_; rw [st4 b, errV_none]; rintro e w7 ⟨rfl, hd, ht⟩; have HD7 := Aside0.mk hd; have HT7 := Aside0.mk (HT6.out.trans ht); clear hd ht HD6 HT6)
    | (go_at_call 18; refine (rnew_calls 10000 w.heap.size w7 HT7.out.size).mono ?_; rintro e w8 ⟨m, rfl, hm, hb⟩; have HS8 := Aside0.mk (show SS w.heap.size w E 0 p m (s4 b) (newD 10000) w8 from ⟨(HT7.out.toBelow (Nat.le_refl _)).trans (hb.mono HT7.out.size), (HE.out.turn HT7.out).low hb HT7.out.size, HD7.out.below hb, hm⟩); clear hm hb HT7 HD7)
    | (go_at_call 19; refine (rcreate_calls nS (by decide) HS8.out.doc (newD_ok 10000 (by decide) (by decide)) (show (0 : Int) ≤ 999999999 by decide) List.Pairwise.nil).mono ?_; rw [st1]; rintro e w9 ⟨rfl, hm, ht⟩; have HS9 := Aside0.mk (HS8.out.rturn rfl hm ht); have cv := HCv.out _ HS9.out.bel; clear hm ht HS8)
    | (go_at_call 20; refine (rchange_calls nS (by decide) 1 0 true false rfl rfl b (by have := HB5.out; omega) HS9.out.doc ok1 (show (1 : Int) ≤ 999999999 by decide) List.Pairwise.nil).mono ?_; rw [chg_append, st2 b HB5.out]; rintro e w10 ⟨rfl, hm, ht⟩; have HS10 := Aside0.mk (HS9.out.rturn rfl hm ht); clear hm ht HS9 cv)
    | (go_at_call 21; refine (rsync_calls nS (by decide) HS10.out.doc (ok2 b HB5.out) (show (2 : Int) ≤ 999999999 by decide) List.Pairwise.nil).mono ?_; rw [st3 b]; rintro e w11 ⟨rfl, hm, ht⟩; have HS11 := Aside0.mk (HS10.out.rturn rfl hm ht); clear hm ht HS10)
    | (go_at_call 22; refine (rsyncDir_calls HS11.out.doc (ok3 b HB5.out) (show (3 : Int) ≤ 999999999 by decide) List.Pairwise.nil).mono ?_; rw [st4 b]; rintro e w12 ⟨rfl, hm, ht⟩; have HS12 := Aside0.mk (HS11.out.rturn rfl hm ht); clear hm ht HS11))
  go_wp2
  have HL0 := Aside0.mk (show LP w.heap.size w E b p m 0 (s4 b) (s4 b).files 0 w12 from ⟨by show (4 : Int) ≤ _; decide, ok4 b HB5.out, alone4 b, FRel.refl _, rise_syncDir (ok3 b HB5.out) (D := s3 b) List.Pairwise.nil, HS12.out⟩)
  go_loopw [72] (fun ix wr => ∃ (j : Nat) (D : Dsk) (G : List Fil) (q : Nat), j ≤ L.length ∧ ix = .int .i64 j ∧ Aside0 (LP w.heap.size w E b p m j D G q wr)) (fun ix _ => L.length - (Go.RowKit.intOf ix).toNat)
  case atStart => exact ⟨0, _, _, 0, Nat.zero_le _, rfl, HL0⟩
  case round =>
    obtain ⟨j, D, G, q, hj, rfl, HP⟩ := hrel
    clear HS12 HL0
    by_cases hlt : j < L.length
    · have t3 : decide (j < L.length) = true := decide_eq_true hlt
      have t3' : decide ((j : Int) < (L.length : Int)) = true := decide_eq_true (by omega)
      obtain ⟨ad, A4, c4, A5, c5, e103, hx0, hx1, hx2, hx3, hx4, hx5, hl4, hi4, hl5, hi5⟩ := at_T48 HR1.out (j : Int) (by omega) (by omega)
      cases e103
      rw [Int.toNat_natCast] at hx0 hx1 hx2 hx3 hx4 hx5
      have hmem : rd_T48 L (j : Int) ∈ L := by
        unfold rd_T48
        rw [Int.toNat_natCast, List.getD_eq_getElem?_getD, List.getElem?_eq_getElem hlt]
        exact List.getElem_mem hlt
      generalize rd_T48 L (j : Int) = o at *
      have HBw := Aside0.mk HP.out.ss.bel
      replace hx0 := (HBw.out.cell (World.block_lt_of_cell? w _ hx0)).trans hx0
      replace hx1 := (HBw.out.cell (World.block_lt_of_cell? w _ hx1)).trans hx1
      replace hx2 := (HBw.out.cell (World.block_lt_of_cell? w _ hx2)).trans hx2
      replace hx3 := (HBw.out.cell (World.block_lt_of_cell? w _ hx3)).trans hx3
      replace hx4 := (HBw.out.cell (World.block_lt_of_cell? w _ hx4)).trans hx4
      replace hx5 := (HBw.out.cell (World.block_lt_of_cell? w _ hx5)).trans hx5
      have HX := Aside0.mk (HSm.out o hmem)
      have HX2 := Aside0.mk (HFew.out.2 o hmem)
      have HI := Aside0.mk (And.intro (And.intro hl4 hi4) (And.intro hl5 hi5))
      clear hmem hl4 hi4 hl5 hi5
      have a0 : (0 : Int) ≤ (j : Int) := by omega
      have a1 : (j : Int) < (L.length : Int) := by omega
      go_upto_region 16 with (first | ((with_reducible refine gate_dst (N := 11) rfl ?_); refine box_event ?hg (N := 11) ?hd (cs := #[.int .i64 0, .int .i64 0, .string (⟨#[]⟩ : ByteArray), .string (⟨#[]⟩ : ByteArray), .slice none 0 0, .slice none 0 0]) (t := 48) ?hr ?_; (case hd => rfl); (case hg => rfl); (case hr => first | (go_simp; done) | (go_simp; rfl)); intro gb hg w13 hbox hb; have HS13 := Aside0.mk (HP.out.ss.below rfl hb); have HBk := Aside0.mk hbox; have HGb := Aside0.mk (show wr.heap.size ≤ gb by rw [hg]; exact Nat.le_refl _); have HB13 := Aside0.mk hb; clear hb hbox hg; have hcz0 : w13.cell? ⟨gb, 0, none⟩ = some (.int .i64 0) := (blk_cell HBk.out 0).trans rfl; have hcz1 : w13.cell? ⟨gb, 1, none⟩ = some (.int .i64 0) := (blk_cell HBk.out 1).trans rfl; have hcz2 : w13.cell? ⟨gb, 2, none⟩ = some (.string (⟨#[]⟩ : ByteArray)) := (blk_cell HBk.out 2).trans rfl; have hcz3 : w13.cell? ⟨gb, 3, none⟩ = some (.string (⟨#[]⟩ : ByteArray)) := (blk_cell HBk.out 3).trans rfl; have hcz4 : w13.cell? ⟨gb, 4, none⟩ = some (.slice none 0 0) := (blk_cell HBk.out 4).trans rfl; have hcz5 : w13.cell? ⟨gb, 5, none⟩ = some (.slice none 0 0) := (blk_cell HBk.out 5).trans rfl; have hfz0 := blk_frozen HBk.out 0; have hfz1 := blk_frozen HBk.out 1; have hfz2 := blk_frozen HBk.out 2; have hfz3 := blk_frozen HBk.out 3; have hfz4 := blk_frozen HBk.out 4; have hfz5 := blk_frozen HBk.out 5))
      have HB14 := Aside0.mk (show Below wr.heap.size wr ((((((w13.setCell ⟨gb, 0, none⟩ (.int .i64 o.f0)).setCell ⟨gb, 1, none⟩ (.int .i64 o.f1)).setCell ⟨gb, 2, none⟩ (.string o.f2)).setCell ⟨gb, 3, none⟩ (.string o.f3)).setCell ⟨gb, 4, none⟩ (.slice A4 o.f4.length c4)).setCell ⟨gb, 5, none⟩ (.slice A5 o.f5.length c5)) from (((((HB13.out.setCell HGb.out _).setCell HGb.out _).setCell HGb.out _).setCell HGb.out _).setCell HGb.out _).setCell HGb.out _)
      have HK14 := Aside0.mk (show ((((((w13.setCell ⟨gb, 0, none⟩ (.int .i64 o.f0)).setCell ⟨gb, 1, none⟩ (.int .i64 o.f1)).setCell ⟨gb, 2, none⟩ (.string o.f2)).setCell ⟨gb, 3, none⟩ (.string o.f3)).setCell ⟨gb, 4, none⟩ (.slice A4 o.f4.length c4)).setCell ⟨gb, 5, none⟩ (.slice A5 o.f5.length c5)).heap[gb]? = some (.cells #[.int .i64 o.f0, .int .i64 o.f1, .string o.f2, .string o.f3, .slice A4 o.f4.length c4, .slice A5 o.f5.length c5] 48 (0, 0)) from
        blk_put (blk_put (blk_put (blk_put (blk_put (blk_put HBk.out 0 _ rfl) 1 _ rfl) 2 _ rfl) 3 _ rfl) 4 _ rfl) 5 _ rfl)
      clear hcz0 hcz1 hcz2 hcz3 hcz4 hcz5 hfz0 hfz1 hfz2 hfz3 hfz4 hfz5 HBk HB13 HS13 hx0 hx1 hx2 hx3 hx4 hx5
      generalize ((((((w13.setCell ⟨gb, 0, none⟩ (.int .i64 o.f0)).setCell ⟨gb, 1, none⟩ (.int .i64 o.f1)).setCell ⟨gb, 2, none⟩ (.string o.f2)).setCell ⟨gb, 3, none⟩ (.string o.f3)).setCell ⟨gb, 4, none⟩ (.slice A4 o.f4.length c4)).setCell ⟨gb, 5, none⟩ (.slice A5 o.f5.length c5)) = w14 at HB14 HK14 ⊢
      have HS14 := Aside0.mk (HP.out.ss.below rfl HB14.out)
      have d0 := (blk_cell HK14.out 0).trans (rfl : _ = some (Value.int .i64 o.f0))
      have d1 := (blk_cell HK14.out 1).trans (rfl : _ = some (Value.int .i64 o.f1))
      have d2 := (blk_cell HK14.out 2).trans (rfl : _ = some (Value.string o.f2))
      have d3 := (blk_cell HK14.out 3).trans (rfl : _ = some (Value.string o.f3))
      have d4 := (blk_cell HK14.out 4).trans (rfl : _ = some (Value.slice A4 o.f4.length c4))
      have d5 := (blk_cell HK14.out 5).trans (rfl : _ = some (Value.slice A5 o.f5.length c5))
      go_upto_region 17 with (fail)
      · exact ⟨⟨j + 1, D, G, q, by omega, by simp, ⟨HP.out.next HB14.out⟩⟩, by simp [Go.RowKit.intOf]; omega⟩
      · exact ⟨⟨j + 1, D, G, q, by omega, by simp, ⟨HP.out.next HB14.out⟩⟩, by simp [Go.RowKit.intOf]; omega⟩
      · rename_i hn2 hn3 K hK
        have HN := Aside0.mk (names_ne hn3.1 hn3.2)
        have HG := Aside0.mk (good_act HP.out.ok HP.out.alone (by decide) o HN.out.1 HN.out.2 HX.out.a1)
        have HStp := Aside0.mk (show D.steps ≤ 154 by have := HP.out.steps; have := HFew.out.1; omega)
        clear hn2 hn3
        go_wp2_with (go_at_call 23; refine (played_calls w.heap.size q p m w rfl E o D G A4 c4 A5 c5 w14 HS14.out.bel HS14.out.disk HS14.out.doc HS14.out.errs HP.out.ok HP.out.rel HP.out.rise (by have := HStp.out; omega) HG.out.ok (by have := HStp.out; have := HG.out.steps; omega) (by have := HX.out.a2; unfold reachBytes at this; omega) (by have := HX.out.a3; unfold reachBytes at this; omega) HI.out.1.2 HI.out.1.1 (by have := HX2.out.1; omega) HI.out.2.2 HI.out.2.1 (by have := HX2.out.2; omega)).mono ?_; rintro e w15 ⟨rfl, q2, G2, hd, hm, hr, hb⟩; have HP15 := Aside0.mk (show LP w.heap.size w E b p m (j + 1) (actD o D) G2 q2 w15 from ⟨by have := HG.out.steps; have := HP.out.steps; omega, HG.out.ok, HG.out.alone, hr, rise_act HP.out.ok HP.out.rise o, ⟨hb, HE.out.low hb (Nat.le_refl _), hd, hm⟩⟩); clear hd hm hr hb)
        exact ⟨⟨j + 1, _, G2, q2, by omega, by simp, HP15⟩, by simp [Go.RowKit.intOf]; omega⟩
    · have t3 : decide (j < L.length) = false := decide_eq_false hlt
      have t3' : decide ((j : Int) < (L.length : Int)) = false := decide_eq_false (by omega)
      have HStp := Aside0.mk (show D.steps ≤ 154 by have := HP.out.steps; have := HFew.out.1; omega)
      have HEnd := Aside0.mk (crash_end HP.out.alone l)
      have HOkc := Aside0.mk (crashD_ok HP.out.ok l)
      have HStc := Aside0.mk (show (crashD D l).steps ≤ 1000000000 from (show D.steps ≤ 1000000000 by have := HStp.out; omega))
      go_wp2_with (first
        | (go_at_call 24; refine (crash_calls ⟨w.heap.size, q⟩ p D A2 c2 l wr HP.out.ss.disk HP.out.ok (by have := HStp.out; omega) HC2.out (fun V hV => HR2.out V (HP.out.ss.bel.trans (hV.toBelow (show w.heap.size ≤ wr.heap.size from HP.out.ss.size rfl))))).mono ?_; rintro e w16 ⟨rfl, hd, ht⟩; have HS16 := Aside0.mk (HP.out.ss.turn rfl hd ht); clear hd ht)
        | (go_at_call 25; refine (read_ok (h := HS16.out.disk) (hE := HS16.out.errs.disk) (hk := HOkc.out) (hst := HStc.out) (s := nS) (hs := by decide) (hq := HEnd.out.1)).mono ?_; rintro e w17 ⟨v, rfl, hR, hb⟩; rw [HEnd.out.2.1] at hR; obtain ⟨A9, c9, rfl, hc9, hC9⟩ := Kd.R_reads hR; have HS17 := Aside0.mk (HS16.out.below rfl hb); have HC9 := Aside0.mk (And.intro hc9 hC9); clear hR hb hc9 hC9)
        | (go_at_call 26; refine (postbagnum_SameBytes.calls A9 c9 b A0 c0 b true w17 HC9.out.2 HC9.out.1 (Kd.C_below HR0.out HS17.out.bel) HC0.out (by unfold postbagnum_SameBytes.f; simp)).mono ?_; rintro e w18 ⟨rfl, hd⟩; have HS18 := Aside0.mk (HS17.out.below rfl hd.below); clear hd)
        | (go_at_call 27; refine (off_calls (h := HS18.out.disk)).mono ?_; rw [HEnd.out.2.2.1]; rintro e w19 ⟨rfl, rfl⟩)
        | (go_at_call 28; refine (opens_calls ⟨w.heap.size, q⟩ p (crashD D l) _ HS18.out.disk HOkc.out HStc.out).mono ?_; rw [HEnd.out.2.2.2]; rintro e w20 ⟨rfl, rfl⟩))
      all_goals try go_ret
      exact ⟨rfl, HS18.out.bel⟩
end Go.Proofs.YtpcfnkmljchiiaaDoor.DRsw
