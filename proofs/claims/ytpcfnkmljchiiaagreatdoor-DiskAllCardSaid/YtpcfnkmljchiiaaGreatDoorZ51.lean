/- Steps towards RDiskAll: DAll. -/
import Derived.Test.YtpcfnkmljchiiaaGreatDoorZ49
import Derived.Test.YtpcfnkmljchiiaaGreatDoorZ50
set_option linter.unusedVariables false
set_option linter.unusedSimpArgs false
/- DiskAll walked. -/
namespace Go.Proofs.YtpcfnkmljchiiaaGreatDoor.DAll
open Go Go.RowKit Go.Maps Go.Proofs.YtpcfnkmljchiiaaGreatDoorW.PrintWords Go.Proofs.YtpcfnkmljchiiaaGreatDoorW.PrintLast Go.Proofs.YtpcfnkmljchiiaaGreatDoorW.PrintMore DPl DAt Go.Proofs.YtpcfnkmljchiiaaGreatDoor.Is DNw DRn DRd DRl DRt DDo DRel DRak DRau DRlm DRnb DRnc DRnd DRne DRpa DRpl DRnu DRsu DRow DOk DOk2 DAlv DFil DUsd DCh2 DOps DSyn DSd DCr DCra DCrc DRen DOpn GPl Right DRss DRdo DAk DRgt DAlp DLst DRdp DRnw
/-- What the files of some names hold, as texts. -/
def rdT (D : Dsk) (N : Nms) : List ByteArray := N.map fun p => strOfNums (readD D (nmS p.1))
theorem rdT_next (D : Dsk) (N : Nms) (k : Nat) (q : List UInt8 × Int) (h : N[k]? = some q) : rdT D (N.take (k + 1)) = rdT D (N.take k) ++ [strOfNums (readD D (nmS q.1))] := by
  unfold rdT
  rw [List.take_add_one, h, List.map_append]
  rfl
theorem same_l0 (l : List ByteArray) (hl : l.length ≤ 1000000000) : ∀ (m i : Nat), i + m = l.length → GSam.postbagref02_Same.l0 (m + 1) l l (l.length : Int) (i : Int) = some true
  | 0, i, h => by
    unfold GSam.postbagref02_Same.l0
    rw [if_neg (by omega)]
  | m + 1, i, h => by
    have ih := same_l0 l hl m (i + 1) (by omega)
    unfold GSam.postbagref02_Same.l0
    rw [if_pos (by omega), if_pos (by omega), if_pos (by omega), if_pos (by omega), if_pos rfl, show wrap64 ((i : Int) + 1) = ((i + 1 : Nat) : Int) by rw [wid _ (by omega) (by omega)]; rfl]
    exact ih
theorem same_f (l : List ByteArray) (hl : l.length ≤ 1000000000) : GSam.postbagref02_Same.f (l.length + 1) l l = some true := by
  unfold GSam.postbagref02_Same.f
  rw [if_pos rfl]
  exact same_l0 l hl l.length 0 (by omega)
theorem same_names (A0 : Option Addr) (c0 : Nat) (A1 : Option Addr) (c1 : Nat) (N : Nms) (w : World) (hN : N.length ≤ 1000000000) (hr0 : Kd.C Kd.string w A0 N.length (namesL N)) (hc0 : N.length ≤ c0) (hr1 : Kd.C Kd.string w A1 N.length (namesL N)) (hc1 : N.length ≤ c1) :
    Calls Tryz.prog 15 #[.slice A0 N.length c0, .slice A1 N.length c1] w fun e w' => e = .returned (.bool true) ∧ Below w.heap.size w w' := by
  have h := GSam.postbagref02_Same.calls ((namesL N).length + 1) A0 c0 (namesL N) A1 c1 (namesL N) true w
  rw [names_len] at h
  refine (h hr0 hc0 hr1 hc1 (by rw [← names_len N]; exact same_f _ (by rw [names_len]; exact hN))).mono ?_
  rintro e w' ⟨rfl, hd⟩
  exact ⟨rfl, hd.below⟩
theorem row_C {α : Type} {d : Kd α} {t n base c : Nat} {ok : Nat → Prop} {w : World} {A : Option Addr} {l : List α} (h : d.R t w base ok (.slice A n c) l) (hn : n = l.length) : n ≤ c ∧ Kd.C d w A n l := by
  obtain ⟨A2, c2, e, hc, hC⟩ := Kd.R_reads h
  simp only [Value.slice.injEq] at e
  obtain ⟨rfl, rfl, rfl⟩ := e
  exact ⟨hc, hC⟩
theorem crash_file {D : Dsk} (hr : Rights D) (hk : D.Ok) {K : List Int} (hn : (crashD D K).now = D.now) {q : List UInt8 × Int} (hq : q ∈ D.now) : fileE (crashD D K) (nmS q.1) = none ∧ hasN D.now (nmS q.1).data.toList = true := by
  have h1 : hasN D.now (nmS q.1).data.toList = true := by
    unfold hasN
    exact List.any_eq_true.2 ⟨q, hq, by show (q.1 == q.1) = true; simp⟩
  refine ⟨?_, h1⟩
  unfold fileE askD
  rw [show (crashD D K).off = false from rfl, show rightB (nmS q.1) = true from hr.now hk q hq, hn, h1]
  rfl
theorem rdT_at (D : Dsk) {k : Nat} {q : List UInt8 × Int} (h : D.now[k]? = some q) : (rdT D D.now)[k]? = some (strOfNums (readD D (nmS q.1))) := by
  unfold rdT
  rw [List.getElem?_map, h]
  rfl
theorem keeps_next0 {G : List Fil} {i : Nat} {f : Fil} (h : G[i]? = some f) (ho : f.opn.length = 0) : keepsL (G.take (i + 1)) = keepsL (G.take i) := by
  have e : f.opn = [] := List.eq_nil_of_length_eq_zero ho
  unfold keepsL
  rw [List.take_add_one, h, List.filter_append, List.map_append]
  simp [e]
theorem keeps_next1 {G : List Fil} {i : Nat} {f : Fil} (h : G[i]? = some f) (ho : ¬ f.opn.length = 0) : keepsL (G.take (i + 1)) = keepsL (G.take i) ++ [(f.opn.length : Int)] := by
  have e : f.opn ≠ [] := fun e => ho (by rw [e]; rfl)
  unfold keepsL
  rw [List.take_add_one, h, List.filter_append, List.map_append]
  simp [e]
theorem keeps_len (l : List Fil) : (keepsL l).length ≤ l.length := by
  unfold keepsL
  rw [List.length_map]
  exact List.length_filter_le _ _
set_option maxRecDepth 100000 in
set_option maxHeartbeats 32000000 in
theorem all_calls (L : List S35) (A1 : Option Addr) (c1 : Nat) (E : Int → Addr) (w : World) (hE : Errs All w E)
    (hr1 : Kd.C k35 w A1 L.length L) (hc1 : L.length ≤ c1) (hm1 : L.length ≤ maxLen) (hs1 : ∀ o ∈ L, Sm o) :
    Calls Tryz.prog 3 #[.slice A1 L.length c1] w fun e w' => e = .returned (.bool true) ∧ Below w.heap.size w w' := by
  have HE := Aside0.mk (AllAt.of hE)
  have HAl := Aside0.mk (alive_calls w.heap.size E w (Nat.le_refl _) HE.out.disk)
  have HQ := Aside0.mk (show 0 < w.heap.size by have := World.block_lt_of_cell? w _ (HE.out.disk.errs.var 8 (by simp [dErr])); omega)
  obtain ⟨r, hlf, hfew⟩ := light_f L hm1 hs1
  have HLi := Aside0.mk (fun (V : World) (hV : Below w.heap.size w V) => postbaglaw05_light.calls (L.length + 1) A1 c1 L r V (Kd.C_below hr1 hV) hc1 hlf)
  have HF := Aside0.mk hfew
  have HR1 := Aside0.mk hr1
  have HSm := Aside0.mk hs1
  have hm1' : L.length ≤ 9223372036854775807 := hm1
  clear hE hlf hfew hr1 hs1 hc1 hm1
  go_enter Tryz.func3, Tryz.ntmps3
  by_cases hlt : r = false
  · subst hlt
    go_wp2_with (first
      | (go_at_call 7; refine HAl.out.mono ?_; rintro e w1 ⟨rfl, ht⟩; have HT1 := Aside0.mk ht; clear ht)
      | (go_at_call 8; refine (HLi.out _ (HT1.out.toBelow (Nat.le_refl _))).mono ?_; rintro e w2 ⟨rfl, hb⟩; have HT2 := Aside0.mk (HT1.out.below hb); clear hb))
    all_goals try go_ret
    exact ⟨rfl, HT2.out.toBelow (Nat.le_refl _)⟩
  obtain rfl : r = true := by simpa using hlt
  clear hlt
  have HFew := Aside0.mk (HF.out rfl)
  clear HF
  go_upto_region 9 with (first
    | (go_at_call 7; refine HAl.out.mono ?_; rintro e w1 ⟨rfl, ht⟩; have HT1 := Aside0.mk ht; clear ht)
    | (go_at_call 8; refine (HLi.out _ (HT1.out.toBelow (Nat.le_refl _))).mono ?_; rintro e w2 ⟨rfl, hb⟩; have HT2 := Aside0.mk (HT1.out.below hb); clear hb)
    | (go_at_call 9; refine (newD_calls 10000 (by decide) (by decide) ⟨w.heap.size, 0⟩ w2 HT2.out.size (Nat.lt_of_lt_of_le HQ.out HT2.out.size)).mono ?_; rintro e w3 ⟨p, rfl, hd, ht⟩; have HD3 := Aside0.mk hd; have HT3 := Aside0.mk (HT2.out.trans ht); clear hd ht HT1 HT2)
    | (go_at_call 10; refine (rnew_calls 10000 w.heap.size w3 HT3.out.size).mono ?_; rintro e w4 ⟨m, rfl, hm, hb⟩; have HS4 := Aside0.mk (show SS w.heap.size w E 0 p m (newD 10000) (newD 10000) w4 from ⟨(HT3.out.toBelow (Nat.le_refl _)).trans (hb.mono HT3.out.size), (HE.out.turn HT3.out).low hb HT3.out.size, HD3.out.below hb, hm⟩); clear hm hb HT3 HD3))
  go_wp2
  have HL0 := Aside0.mk (show LA w E p m 0 (newD 10000) (newD 10000).files 0 w4 from ⟨by show (0 : Int) ≤ _; decide, newD_ok 10000 (by decide) (by decide), ⟨rfl, rfl⟩, FRel.refl _, List.Pairwise.nil, ⟨fun p hp => (by cases hp), fun e he => (by cases he)⟩, HS4.out⟩)
  go_loopw [40] (fun ix wr => ∃ (j : Nat) (D : Dsk) (G : List Fil) (q : Nat), j ≤ L.length ∧ ix = .int .i64 j ∧ Aside0 (LA w E p m j D G q wr)) (fun ix _ => L.length - (Go.RowKit.intOf ix).toNat)
  case atStart => exact ⟨0, _, _, 0, Nat.zero_le _, rfl, HL0⟩
  case round =>
    obtain ⟨j, D, G, q, hj, rfl, HP⟩ := hrel
    clear HS4 HL0
    by_cases hlt : j < L.length
    · have t3 : decide (j < L.length) = true := decide_eq_true hlt
      have t3' : decide ((j : Int) < (L.length : Int)) = true := decide_eq_true (by omega)
      obtain ⟨ad, A4, c4, A5, c5, e103, hx0, hx1, hx2, hx3, hx4, hx5, hl4, hi4, hl5, hi5⟩ := at_T35 HR1.out (j : Int) (by omega) (by omega)
      cases e103
      rw [Int.toNat_natCast] at hx0 hx1 hx2 hx3 hx4 hx5
      have hmem : rd_T35 L (j : Int) ∈ L := by
        unfold rd_T35
        rw [Int.toNat_natCast, List.getD_eq_getElem?_getD, List.getElem?_eq_getElem hlt]
        exact List.getElem_mem hlt
      generalize rd_T35 L (j : Int) = o at *
      have HBw := Aside0.mk HP.out.ss.bel
      replace hx0 := (HBw.out.cell (World.block_lt_of_cell? w _ hx0)).trans hx0
      replace hx1 := (HBw.out.cell (World.block_lt_of_cell? w _ hx1)).trans hx1
      replace hx2 := (HBw.out.cell (World.block_lt_of_cell? w _ hx2)).trans hx2
      replace hx3 := (HBw.out.cell (World.block_lt_of_cell? w _ hx3)).trans hx3
      replace hx4 := (HBw.out.cell (World.block_lt_of_cell? w _ hx4)).trans hx4
      replace hx5 := (HBw.out.cell (World.block_lt_of_cell? w _ hx5)).trans hx5
      have HX := Aside0.mk (HSm.out o hmem)
      have HX2 := Aside0.mk (HFew.out.2 o hmem)
      have HI := Aside0.mk (And.intro (And.intro hl4 hi4) (And.intro hl5 hi5))
      clear hmem hl4 hi4 hl5 hi5
      have a0 : (0 : Int) ≤ (j : Int) := by omega
      have a1 : (j : Int) < (L.length : Int) := by omega
      go_upto_region 12 with (first | ((with_reducible refine gate_dst (N := 7) rfl ?_); refine box_event ?hg (N := 7) ?hd (cs := #[.int .i64 0, .int .i64 0, .string (⟨#[]⟩ : ByteArray), .string (⟨#[]⟩ : ByteArray), .slice none 0 0, .slice none 0 0]) (t := 35) ?hr ?_; (case hd => rfl); (case hg => rfl); (case hr => first | (go_simp; done) | (go_simp; rfl)); intro gb hg w13 hbox hb; have HS13 := Aside0.mk (HP.out.ss.below rfl hb); have HBk := Aside0.mk hbox; have HGb := Aside0.mk (show wr.heap.size ≤ gb by rw [hg]; exact Nat.le_refl _); have HB13 := Aside0.mk hb; clear hb hbox hg; have hcz0 : w13.cell? ⟨gb, 0, none⟩ = some (.int .i64 0) := (blk_cell HBk.out 0).trans rfl; have hcz1 : w13.cell? ⟨gb, 1, none⟩ = some (.int .i64 0) := (blk_cell HBk.out 1).trans rfl; have hcz2 : w13.cell? ⟨gb, 2, none⟩ = some (.string (⟨#[]⟩ : ByteArray)) := (blk_cell HBk.out 2).trans rfl; have hcz3 : w13.cell? ⟨gb, 3, none⟩ = some (.string (⟨#[]⟩ : ByteArray)) := (blk_cell HBk.out 3).trans rfl; have hcz4 : w13.cell? ⟨gb, 4, none⟩ = some (.slice none 0 0) := (blk_cell HBk.out 4).trans rfl; have hcz5 : w13.cell? ⟨gb, 5, none⟩ = some (.slice none 0 0) := (blk_cell HBk.out 5).trans rfl; have hfz0 := blk_frozen HBk.out 0; have hfz1 := blk_frozen HBk.out 1; have hfz2 := blk_frozen HBk.out 2; have hfz3 := blk_frozen HBk.out 3; have hfz4 := blk_frozen HBk.out 4; have hfz5 := blk_frozen HBk.out 5))
      have HB14 := Aside0.mk (show Below wr.heap.size wr ((((((w13.setCell ⟨gb, 0, none⟩ (.int .i64 o.f0)).setCell ⟨gb, 1, none⟩ (.int .i64 o.f1)).setCell ⟨gb, 2, none⟩ (.string o.f2)).setCell ⟨gb, 3, none⟩ (.string o.f3)).setCell ⟨gb, 4, none⟩ (.slice A4 o.f4.length c4)).setCell ⟨gb, 5, none⟩ (.slice A5 o.f5.length c5)) from (((((HB13.out.setCell HGb.out _).setCell HGb.out _).setCell HGb.out _).setCell HGb.out _).setCell HGb.out _).setCell HGb.out _)
      have HK14 := Aside0.mk (show ((((((w13.setCell ⟨gb, 0, none⟩ (.int .i64 o.f0)).setCell ⟨gb, 1, none⟩ (.int .i64 o.f1)).setCell ⟨gb, 2, none⟩ (.string o.f2)).setCell ⟨gb, 3, none⟩ (.string o.f3)).setCell ⟨gb, 4, none⟩ (.slice A4 o.f4.length c4)).setCell ⟨gb, 5, none⟩ (.slice A5 o.f5.length c5)).heap[gb]? = some (.cells #[.int .i64 o.f0, .int .i64 o.f1, .string o.f2, .string o.f3, .slice A4 o.f4.length c4, .slice A5 o.f5.length c5] 35 (0, 0)) from
        blk_put (blk_put (blk_put (blk_put (blk_put (blk_put HBk.out 0 _ rfl) 1 _ rfl) 2 _ rfl) 3 _ rfl) 4 _ rfl) 5 _ rfl)
      clear hcz0 hcz1 hcz2 hcz3 hcz4 hcz5 hfz0 hfz1 hfz2 hfz3 hfz4 hfz5 HBk HB13 HS13 hx0 hx1 hx2 hx3 hx4 hx5
      generalize ((((((w13.setCell ⟨gb, 0, none⟩ (.int .i64 o.f0)).setCell ⟨gb, 1, none⟩ (.int .i64 o.f1)).setCell ⟨gb, 2, none⟩ (.string o.f2)).setCell ⟨gb, 3, none⟩ (.string o.f3)).setCell ⟨gb, 4, none⟩ (.slice A4 o.f4.length c4)).setCell ⟨gb, 5, none⟩ (.slice A5 o.f5.length c5)) = w14 at HB14 HK14 ⊢
      have HS14 := Aside0.mk (HP.out.ss.below rfl HB14.out)
      have d0 := (blk_cell HK14.out 0).trans (rfl : _ = some (Value.int .i64 o.f0))
      have d1 := (blk_cell HK14.out 1).trans (rfl : _ = some (Value.int .i64 o.f1))
      have d2 := (blk_cell HK14.out 2).trans (rfl : _ = some (Value.string o.f2))
      have d3 := (blk_cell HK14.out 3).trans (rfl : _ = some (Value.string o.f3))
      have d4 := (blk_cell HK14.out 4).trans (rfl : _ = some (Value.slice A4 o.f4.length c4))
      have d5 := (blk_cell HK14.out 5).trans (rfl : _ = some (Value.slice A5 o.f5.length c5))
      by_cases k10 : o.f0 = 10
      · have e10 : (o.f0 == 10) = true := by simp [k10]
        have e10' : (o.f0 != 10) = false := by simp [k10]
        clear k10
        go_wp2
        exact ⟨⟨j + 1, D, G, q, by omega, by simp, ⟨HP.out.next HB14.out⟩⟩, by simp [Go.RowKit.intOf]; omega⟩
      · have e10 : (o.f0 == 10) = false := by simpa using k10
        have e10' : (o.f0 != 10) = true := by simpa using k10
        have HG := Aside0.mk (kp_act HP.out.ok o k10)
        clear k10
        have HStp := Aside0.mk (show D.steps ≤ 154 by have := HP.out.steps; have := HFew.out.1; omega)
        go_wp2_with (go_at_call 11; refine (played_calls w.heap.size q p m w rfl E o D G A4 c4 A5 c5 w14 HS14.out.bel HS14.out.disk HS14.out.doc HS14.out.errs HP.out.ok HP.out.rel HP.out.rise (by have := HStp.out; omega) HG.out.ok (by have := HStp.out; have := HG.out.steps; omega) (by have := HX.out.a2; unfold reachBytes at this; omega) (by have := HX.out.a3; unfold reachBytes at this; omega) HI.out.1.2 HI.out.1.1 (by have := HX2.out.1; omega) HI.out.2.2 HI.out.2.1 (by have := HX2.out.2; omega)).mono ?_; rintro e w15 ⟨rfl, q2, G2, hd, hm, hr, hb⟩; have HP15 := Aside0.mk (show LA w E p m (j + 1) (actD o D) G2 q2 w15 from ⟨by have := HG.out.steps; have := HP.out.steps; omega, HG.out.ok, HG.out.live HP.out.live, hr, rise_act HP.out.ok HP.out.rise o, rights_act HP.out.ok HP.out.rights o, ⟨hb, HE.out.low hb (Nat.le_refl _), hd, hm⟩⟩); clear hd hm hr hb)
        exact ⟨⟨j + 1, _, G2, q2, by omega, by simp, HP15⟩, by simp [Go.RowKit.intOf]; omega⟩
    · have t3 : decide (j < L.length) = false := decide_eq_false hlt
      have t3' : decide ((j : Int) < (L.length : Int)) = false := decide_eq_false (by omega)
      have HStp := Aside0.mk (show D.steps ≤ 154 by have := HP.out.steps; have := HFew.out.1; omega)
      have HRn := Aside0.mk (rise_now HP.out.ok HP.out.rise)
      have HNl := Aside0.mk (show D.now.length ≤ 1000000000 by have h9 := goAll_len HP.out.ok (by have := HStp.out; omega) D.opn.length; rw [List.take_length, ← HP.out.ok.nowE] at h9; exact h9)
      go_upto_region 18 with (go_at_call 12; refine (list_calls (h := HP.out.ss.disk) (hE := HP.out.ss.errs.disk) (hk := HP.out.ok) (hst := by have := HStp.out; omega) (ho := HP.out.live.2) (hri := HRn.out) (hn := HNl.out)).mono ?_; rintro e w5 ⟨A2, c2, rfl, hc2, hR2, hb⟩; have HS5 := Aside0.mk (HP.out.ss.below rfl hb); have HN5 := Aside0.mk hR2; have HC2 := Aside0.mk (row_C hR2 (names_len _).symm).2; have HCc := Aside0.mk hc2; clear hb hR2 hc2)
      have HS5b := Aside0.mk (Below.refl w5.heap.size w5)
      go_wp2
      have HR0 := Aside0.mk (show Kd.R Kd.string 9 (w5.alloc (.cells #[] 9)) w5.heap.size (fun _ => True) (.slice (some ⟨w5.heap.size, 0, none⟩) 0 0) (rdT D (D.now.take 0)) from ⟨fun _ _ => trivial, OwnRow.lit (ps := ([] : List ByteArray)) (inner := []) w5 w5.heap.size ⟨rfl, fun j p hj => by simp at hj⟩ (Nat.le_refl _) (Nat.zero_le _)⟩)
      go_loopw [65, 9] (fun ix was wx => ∃ k : Nat, k ≤ D.now.length ∧ ix = .int .i64 k ∧ Aside0 (Kd.R Kd.string 9 wx w5.heap.size (fun _ => True) was (rdT D (D.now.take k))) ∧ Aside0 (Below w5.heap.size w5 wx)) (fun ix _ _ => D.now.length - (Go.RowKit.intOf ix).toNat)
      case atStart => exact ⟨0, Nat.zero_le _, rfl, HR0, ⟨(Below.refl _ _).alloc (Nat.le_refl _) _⟩⟩
      case round =>
        obtain ⟨k, hk, rfl, HRw, HB⟩ := hrel
        clear HR0 HS5b
        by_cases hlk : k < D.now.length
        · have t6 : decide (k < D.now.length) = true := decide_eq_true hlk
          have t6' : decide ((k : Int) < (D.now.length : Int)) = true := decide_eq_true (by omega)
          obtain ⟨q1, hq1⟩ : ∃ q1, D.now[k]? = some q1 := ⟨_, List.getElem?_eq_getElem hlk⟩
          obtain ⟨ad2, ea2, hca⟩ := str_cell (l := namesL D.now) (by rw [names_len]; exact HC2.out) k (nmS q1.1) (names_at hq1).1
          subst ea2
          have hc := (HB.out.cell (World.block_lt_of_cell? w5 _ hca)).trans hca
          have HSx := Aside0.mk (HS5.out.below rfl (show Below w5.heap.size w5 wr from HB.out))
          have HFl := Aside0.mk (HP.out.rights.file HP.out.ok HP.out.live.2 (List.mem_of_getElem? hq1)).1
          have HQ1 := Aside0.mk hq1
          have k0 : (0 : Int) ≤ (k : Int) := by omega
          have k1 : (k : Int) < (D.now.length : Int) := by omega
          clear hca hq1
          go_wp2_with (first
            | (go_at_call 13; refine (read_ok (h := HSx.out.disk) (hE := HSx.out.errs.disk) (hk := HP.out.ok) (hst := by have := HStp.out; omega) (s := nmS q1.1) (hs := by have := (askD_none (fileE_none HFl.out).1).1; omega) (hq := HFl.out)).mono ?_; rintro e w6 ⟨v6, rfl, hR6, hb6⟩; obtain ⟨A6, c6, rfl, hc6, hC6⟩ := Kd.R_reads hR6; have HB6 := Aside0.mk (HB.out.trans (hb6.mono HB.out.size)); have HRw6 := Aside0.mk (Kd.R_below HRw.out hb6); have cv6 := Kd.C_string (P := Tryz.prog) (w := w6) (A := A6) (c := c6) Tryz.underlying32 Tryz.underlying5 Tryz.underlying9 hC6; clear hR6 hb6 hc6 hC6)
            | (at_builtin; refine Kd.R_append Kd.string (w0 := w5) (W := w6) w5.heap.size rfl _ _ 37 9 (.string ⟨#[]⟩) 16 rfl Tryz.underlying37 infoS rfl (by decide) (by omega) u9 (rdT D (D.now.take k)) (strOfNums (readD D (nmS q1.1))) [.string (strOfNums (readD D (nmS q1.1)))] (fun _ => True) (fun _ => False) rfl ?aX rfl (fun _ h => h.elim) (fun _ _ => trivial) ?aO ?aB ?aS ?aL ?_; (case aX => first | rfl | (show Value.slice (some ⟨w6.heap.size, 0, none⟩) 1 1 = _; simp)); (case aO => exact HRw6.out); (case aB => exact HB6.out); (case aS => exact HB6.out.size); (case aL => have := HNl.out; simp [rdT]; omega); intro v7 w7 ho7 hb7 hg7 hat7; have HR7 := Aside0.mk ho7; have HB7 := Aside0.mk hb7; clear ho7 hb7 hg7 hat7))
          have e1 : wrap64 ((k : Int) + 1) = ((k + 1 : Nat) : Int) := by rw [wid _ (by omega) (by have := HNl.out; omega)]; rfl
          rw [e1]
          exact ⟨⟨k + 1, by omega, rfl, ⟨by rw [rdT_next D D.now k q1 HQ1.out]; exact HR7.out⟩, HB7⟩, by simp only [Go.RowKit.intOf, Int.toNat_natCast]; omega⟩
        · have t6 : decide (k < D.now.length) = false := decide_eq_false hlk
          have t6' : decide ((k : Int) < (D.now.length : Int)) = false := decide_eq_false (by omega)
          obtain rfl : k = D.now.length := by omega
          rw [List.take_length] at HRw
          have HSx := Aside0.mk (HS5.out.below rfl (show Below w5.heap.size w5 wr from HB.out))
          obtain ⟨LL, fv, nv, iv, ov, hl⟩ := HSx.out.doc
          obtain ⟨Ao, co, eo⟩ := Kd.R_slice hl.opn
          obtain ⟨Af, cf, ef⟩ := Kd.R_slice hl.ptrs
          have o3 : wr.cell? ⟨m, 3, none⟩ = some (.slice Ao D.opn.length co) := by rw [show D.opn.length = (withF D G).opn.length from rfl, ← eo]; exact (blk_cell hl.obj 3).trans rfl
          obtain ⟨nF, hnF⟩ : ∃ nF, nF = (LL.map Prod.fst).length := ⟨_, rfl⟩
          have HNF := Aside0.mk (show nF = G.length by rw [hnF, List.length_map]; exact hl.files.len)
          have f0 : wr.cell? ⟨m, 0, none⟩ = some (.slice Af nF cf) := by rw [hnF, ← ef]; exact (blk_cell hl.obj 0).trans rfl
          clear hnF
          have HL := Aside0.mk hl
          clear hl
          go_upto_region 28 with (fail)
          obtain ⟨wk, hwk⟩ : ∃ wk, wk = wr := ⟨_, rfl⟩
          subst hwk
          have HK0 := Aside0.mk (show Kd.R (Kd.int .i64) 3 (wk.alloc (.cells #[.int .i64 (D.opn.length : Int)] 3)) wk.heap.size (fun _ => True) (.slice (some ⟨wk.heap.size, 0, none⟩) 1 1) ((D.opn.length : Int) :: keepsL (G.take 0)) from ⟨fun _ _ => trivial, OwnRow.lit (ps := [(D.opn.length : Int)]) (inner := [.int .i64 (D.opn.length : Int)]) wk wk.heap.size ⟨rfl, fun j p hj => by
            cases j with
            | zero =>
              obtain rfl : (D.opn.length : Int) = p := by simpa using hj
              exact rfl
            | succ j => simp at hj⟩ (Nat.le_refl _) (show 1 ≤ 9223372036854775807 by decide)⟩)
          have HLn := Aside0.mk (show LL.length = G.length from HL.out.files.len)
          have HLg := Aside0.mk (show G.length ≤ 1000000000 by have h1 := HP.out.rel.len; have h2 := HP.out.ok.cntF; have := HStp.out; omega)
          have HBk := Aside0.mk (show Below wk.heap.size wk (wk.alloc (.cells #[.int .i64 (D.opn.length : Int)] 3)) from (Below.refl _ _).alloc (Nat.le_refl _) _)
          have f0' := (HBk.out.cell (World.block_lt_of_cell? wk _ f0)).trans f0
          go_wp2
          go_loopw [94, 14] (fun ix kp wx => ∃ i : Nat, i ≤ nF ∧ ix = .int .i64 i ∧ Aside0 (Kd.R (Kd.int .i64) 3 wx wk.heap.size (fun _ => True) kp ((D.opn.length : Int) :: keepsL (G.take i))) ∧ Aside0 (Below wk.heap.size wk wx)) (fun ix _ _ => nF - (Go.RowKit.intOf ix).toNat)
          case atStart => exact ⟨0, Nat.zero_le _, rfl, HK0, HBk⟩
          case round =>
            obtain ⟨i, hi, rfl, HKr, HBr⟩ := hrel
            clear HK0
            by_cases hlf : i < nF
            · have t7 : decide (i < nF) = true := decide_eq_true hlf
              have t7' : decide ((i : Int) < (nF : Int)) = true := decide_eq_true (by omega)
              obtain ⟨f, hf⟩ : ∃ f, G[i]? = some f := ⟨_, List.getElem?_eq_getElem (by rw [← HNF.out]; exact hlf)⟩
              obtain ⟨x, hx⟩ : ∃ x, LL[i]? = some x := ⟨_, List.getElem?_eq_getElem (by rw [HLn.out, ← HNF.out]; exact hlf)⟩
              obtain ⟨g, cp3, ef3, _, hg⟩ := rptr_at HL.out.ptrs i x.1 (by rw [List.getElem?_map, hx]; rfl)
              rw [ef] at ef3
              simp only [Value.slice.injEq] at ef3
              obtain ⟨rfl, _, rfl⟩ := ef3
              have hgc := (HBr.out.cell (World.block_lt_of_cell? wk _ hg)).trans hg
              obtain ⟨ho, hop⟩ := HL.out.files.each i x f hx hf
              obtain ⟨Ar, cr, er⟩ := Kd.R_slice hop
              have q2 : wk.cell? ⟨x.1, 1, none⟩ = some (.slice Ar f.opn.length cr) := by rw [← er]; exact (blk_cell ho 1).trans rfl
              have q2' := (HBr.out.cell (World.block_lt_of_cell? wk _ q2)).trans q2
              have u0 : (0 : Int) ≤ (i : Int) := by omega
              have u1 : (i : Int) < (nF : Int) := by omega
              have HF := Aside0.mk hf
              have e1 : wrap64 ((i : Int) + 1) = ((i + 1 : Nat) : Int) := by rw [wid _ (by omega) (by have := HLg.out; have := HNF.out; omega)]; rfl
              clear hx ho hop er hf
              by_cases ho : f.opn.length = 0
              · have t8 : decide ((0 : Int) < (f.opn.length : Int)) = false := decide_eq_false (by omega)
                have t8' : decide (0 < f.opn.length) = false := decide_eq_false (by omega)
                have HO := Aside0.mk ho
                clear ho
                go_wp2
                rw [e1]
                exact ⟨⟨i + 1, by omega, rfl, ⟨by rw [keeps_next0 HF.out HO.out]; exact HKr.out⟩, HBr⟩, by simp only [Go.RowKit.intOf, Int.toNat_natCast]; omega⟩
              · have t8 : decide ((0 : Int) < (f.opn.length : Int)) = true := decide_eq_true (by omega)
                have t8' : decide (0 < f.opn.length) = true := decide_eq_true (by omega)
                have HO := Aside0.mk ho
                clear ho
                go_wp2_with (at_builtin; refine Kd.R_append (Kd.int .i64) (w0 := wk) (W := wr) wk.heap.size rfl _ _ 33 3 (.int .i64 0) 8 rfl Tryz.underlying33 infoN rfl (by decide) (by omega) u14 ((D.opn.length : Int) :: keepsL (G.take i)) (f.opn.length : Int) [.int .i64 (f.opn.length : Int)] (fun _ => True) (fun _ => False) rfl ?aX rfl (fun _ h => h.elim) (fun _ _ => trivial) ?aO ?aB ?aS ?aL ?_; (case aX => first | rfl | (show Value.slice (some ⟨wr.heap.size, 0, none⟩) 1 1 = _; simp)); (case aO => exact HKr.out); (case aB => exact HBr.out); (case aS => exact HBr.out.size); (case aL => have h8 := keeps_len (G.take i); rw [List.length_take] at h8; have := HLg.out; simp only [List.length_cons]; omega); intro v7 w7 ho7 hb7 hg7 hat7; have HK7 := Aside0.mk ho7; have HB7 := Aside0.mk hb7; clear ho7 hb7 hg7 hat7)
                rw [e1]
                exact ⟨⟨i + 1, by omega, rfl, ⟨by rw [keeps_next1 HF.out HO.out]; exact HK7.out⟩, HB7⟩, by simp only [Go.RowKit.intOf, Int.toNat_natCast]; omega⟩
            · have t7 : decide (i < nF) = false := decide_eq_false hlf
              have t7' : decide ((i : Int) < (nF : Int)) = false := decide_eq_false (by omega)
              obtain rfl : i = nF := by omega
              have HKf := Aside0.mk (show Kd.R (Kd.int .i64) 3 wr wk.heap.size (fun _ => True) u14 ((D.opn.length : Int) :: keepsL D.files) from by have h9 := HKr.out; rw [HNF.out, List.take_length, keeps_rel HP.out.rel] at h9; exact h9)
              have HAc := Aside0.mk (crash_all HP.out.ok)
              obtain ⟨K, hK⟩ : ∃ K, K = (D.opn.length : Int) :: keepsL D.files := ⟨_, rfl⟩
              rw [← hK] at HKf HAc
              clear hK
              obtain ⟨Ak, ck, rfl⟩ := Kd.R_slice HKf.out
              have HKc := Aside0.mk (row_C HKf.out rfl).1
              have HSw := Aside0.mk (HSx.out.below rfl HBr.out)
              have HWs := Aside0.mk (Kd.R_below HRw.out HBr.out)
              have HNw := Aside0.mk (Kd.R_below (Kd.R_below HN5.out HB.out) HBr.out)
              have HOc := Aside0.mk (crashD_ok HP.out.ok K)
              have HStc := Aside0.mk (show (crashD D K).steps ≤ 1000000000 from (show D.steps ≤ 1000000000 by have := HStp.out; omega))
              obtain ⟨Aw, cw, ew⟩ := Kd.R_slice HWs.out
              rw [show (rdT D D.now).length = D.now.length by simp [rdT]] at ew
              subst ew
              clear HC2 HL HKr HRw HB HN5 HSx
              go_upto_region 38 with (first
                | (go_at_call 14; refine (crash_calls ⟨w.heap.size, q⟩ p D Ak ck K wr HSw.out.disk HP.out.ok (by have := HStp.out; omega) HKc.out (fun V hV => readsInt_of.2 (Kd.reads_of_C (d := (0 : Int)) (h1 := fun _ => rfl) (row_C (R_turn HKf.out hV.kind (by decide)) rfl).2))).mono ?_; rintro e u1 ⟨rfl, hd, ht⟩; have HSc := Aside0.mk (HSw.out.turn rfl hd ht); have HWc := Aside0.mk (R_turn HWs.out ht.kind (by decide)); have HNc := Aside0.mk (R_turn HNw.out ht.kind (by decide)); clear hd ht HSw HWs HNw HKf)
                | (go_at_call 12; refine (list_calls (h := HSc.out.disk) (hE := HSc.out.errs.disk) (hk := HOc.out) (hst := HStc.out) (ho := rfl) (hri := by rw [HAc.out.1]; exact HRn.out) (hn := by rw [HAc.out.1]; exact HNl.out)).mono ?_; rw [HAc.out.1]; rintro e u2 ⟨A3, c3, rfl, hc3, hR3, hb⟩; have HS2 := Aside0.mk (HSc.out.below rfl hb); have HW2 := Aside0.mk (Kd.R_below HWc.out hb); have HN2 := Aside0.mk (Kd.R_below HNc.out hb); have HL2 := Aside0.mk (row_C hR3 (names_len _).symm); clear hb hR3 hc3 HSc HWc HNc)
                | (go_at_call 15; refine (same_names A3 c3 A2 c2 D.now u2 HNl.out HL2.out.2 HL2.out.1 (row_C HN2.out (names_len _).symm).2 HCc.out).mono ?_; rintro e u3 ⟨rfl, hb⟩; have HS3 := Aside0.mk (HS2.out.below rfl hb); have HW3 := Aside0.mk (Kd.R_below HW2.out hb); have HL3 := Aside0.mk (Kd.C_below HL2.out.2 hb); clear hb HS2 HW2 HN2))
              have HBe := Aside0.mk (Below.refl u3.heap.size u3)
              go_wp2
              go_loopw [131] (fun ix wx => ∃ k : Nat, k ≤ D.now.length ∧ ix = .int .i64 k ∧ Aside0 (Below u3.heap.size u3 wx)) (fun ix _ => D.now.length - (Go.RowKit.intOf ix).toNat)
              case atStart => exact ⟨0, Nat.zero_le _, rfl, HBe⟩
              case round =>
                obtain ⟨k, hkz, rfl, HBz⟩ := hrel
                clear HBe
                by_cases hlz : k < D.now.length
                · have t9 : decide (k < D.now.length) = true := decide_eq_true hlz
                  have t9' : decide ((k : Int) < (D.now.length : Int)) = true := decide_eq_true (by omega)
                  obtain ⟨q1, hq1⟩ : ∃ q1, D.now[k]? = some q1 := ⟨_, List.getElem?_eq_getElem hlz⟩
                  obtain ⟨ad3, ea3, hca⟩ := str_cell (l := namesL D.now) (by rw [names_len]; exact HL3.out) k (nmS q1.1) (names_at hq1).1
                  subst ea3
                  obtain ⟨adw, eaw, hcw⟩ := str_cell (l := rdT D D.now) (row_C (n := (rdT D D.now).length) (by rw [show (rdT D D.now).length = D.now.length by simp [rdT]]; exact HW3.out) rfl).2 k _ (rdT_at D hq1)
                  subst eaw
                  have hc := (HBz.out.cell (World.block_lt_of_cell? u3 _ hca)).trans hca
                  have hcv := (HBz.out.cell (World.block_lt_of_cell? u3 _ hcw)).trans hcw
                  have HSz := Aside0.mk (HS3.out.below rfl (show Below u3.heap.size u3 wr from HBz.out))
                  have HFl := Aside0.mk (crash_file HP.out.rights HP.out.ok HAc.out.1 (List.mem_of_getElem? hq1))
                  have HRd := Aside0.mk (HAc.out.2 _ HFl.out.2)
                  have k0 : (0 : Int) ≤ (k : Int) := by omega
                  have k1 : (k : Int) < (D.now.length : Int) := by omega
                  have HKb := Aside0.mk HNl.out
                  clear hca hcw hq1
                  go_upto_region 42 with (go_at_call 13; refine (read_ok (h := HSz.out.disk) (hE := HSz.out.errs.disk) (hk := HOc.out) (hst := HStc.out) (s := nmS q1.1) (hs := by have := (askD_none (fileE_none HFl.out.1).1).1; omega) (hq := HFl.out.1)).mono ?_; rw [HRd.out]; rintro e w6 ⟨v6, rfl, hR6, hb6⟩; obtain ⟨A6, c6, rfl, hc6, hC6⟩ := Kd.R_reads hR6; have HB6 := Aside0.mk (HBz.out.trans (hb6.mono HBz.out.size)); have hcw6 := (hb6.cell (World.block_lt_of_cell? _ _ hcv)).trans hcv; have cv6 := Kd.C_string (P := Tryz.prog) (w := w6.drew) (A := A6) (c := c6) Tryz.underlying32 Tryz.underlying5 Tryz.underlying9 (Kd.C_below hC6 (Below.refl _ w6).drew); have hcw7 := ((Below.refl w6.heap.size w6).drew.cell (World.block_lt_of_cell? _ _ hcw6)).trans hcw6; clear hR6 hb6 hc6 hC6 hc hcv hcw6)
                  refine start_ (n := 11) (S := fun w' => w'.cell? (adw.add k) = some (.string (strOfNums (readD D (nmS q1.1)))) ∧ (convert 32 9 (.slice A6 (readD D (nmS q1.1)).length c6)).run Tryz.prog w' = .ok (.string (strOfNums (readD D (nmS q1.1)))) w') (ds := []) #[ff,ff,ff,ff,ff,ff,ff,ff,ff,ff,ff] (by kernel_rfl) rfl rfl ⟨hcw7, cv6⟩ (fun hHeld => ?_)
                  have HB7 := Aside0.mk (show Below u3.heap.size u3 w6.drew from HB6.out.drew)
                  generalize w6.drew = w8 at HB7 cv6 hcw7 hHeld ⊢
                  refine pure_ (i := 0) (N := some 142) (v := ?_) (a' := ?_) #[tt,ff,ff,ff,ff,ff,ff,ff,ff,ff,ff] rfl rfl (by kernel_rfl) (fun _ _ _ h => h) (Or.inl ⟨by rfl, ?_⟩) ?_ ?_
                  rotate_left
                  · intro w'
                    go_simp
                    with_reducible rfl
                  rotate_left
                  · simp only [Act.put, pkA, pkB, pkC, i64_w, i32_w]
                    rfl
                  refine pure_ (i := 1) (N := some 143) (v := ?_) (a' := ?_) #[tt,tt,ff,ff,ff,ff,ff,ff,ff,ff,ff] rfl rfl (by kernel_rfl) (fun _ _ _ h => h) (Or.inl ⟨by rfl, ?_⟩) ?_ ?_
                  rotate_left
                  · intro w'
                    go_simp
                    with_reducible rfl
                  rotate_left
                  · simp only [Act.put, pkA, pkB, pkC, i64_w, i32_w]
                    rfl
                  refine pure_ (i := 2) (N := some 144) (v := ?_) (a' := ?_) #[tt,tt,tt,ff,ff,ff,ff,ff,ff,ff,ff] rfl rfl (by kernel_rfl) (fun _ _ _ h => h) (Or.inl ⟨by rfl, ?_⟩) ?_ ?_
                  rotate_left
                  · intro w'
                    go_simp
                    with_reducible rfl
                  rotate_left
                  · simp only [Act.put, pkA, pkB, pkC, i64_w, i32_w]
                    rfl
                  refine pure_ (i := 3) (N := some 145) (v := ?_) (a' := ?_) #[tt,tt,tt,tt,ff,ff,ff,ff,ff,ff,ff] rfl rfl (by kernel_rfl) (fun _ _ _ h => h) (Or.inl ⟨by rfl, ?_⟩) ?_ ?_
                  rotate_left
                  · intro w'
                    go_simp
                    with_reducible rfl
                  rotate_left
                  · simp only [Act.put, pkA, pkB, pkC, i64_w, i32_w]
                    rfl
                  refine pure_ (i := 5) (N := some 147) (v := ?_) (a' := ?_) #[tt,tt,tt,tt,ff,tt,ff,ff,ff,ff,ff] rfl rfl (by kernel_rfl) (fun _ _ _ h => h) (Or.inl ⟨by rfl, ?_⟩) ?_ ?_
                  rotate_left
                  · intro w'
                    go_simp
                    with_reducible rfl
                  rotate_left
                  · simp only [Act.put, pkA, pkB, pkC, i64_w, i32_w]
                    rfl
                  refine pure_ (i := 6) (N := some 148) (v := ?_) (a' := ?_) #[tt,tt,tt,tt,ff,tt,tt,ff,ff,ff,ff] rfl rfl (by kernel_rfl) (fun _ _ _ h => h) (Or.inl ⟨by rfl, ?_⟩) ?_ ?_
                  rotate_left
                  · intro w'
                    go_simp
                    with_reducible rfl
                  rotate_left
                  · simp only [Act.put, pkA, pkB, pkC, i64_w, i32_w]
                    rfl
                  refine pure_ (i := 7) (N := some 149) (v := ?_) (a' := ?_) #[tt,tt,tt,tt,ff,tt,tt,tt,ff,ff,ff] rfl rfl (by kernel_rfl) (fun _ _ _ h => h) (Or.inl ⟨by rfl, ?_⟩) ?_ ?_
                  rotate_left
                  · intro w'
                    go_simp
                    with_reducible rfl
                  rotate_left
                  · simp only [Act.put, pkA, pkB, pkC, i64_w, i32_w]
                    rfl
                  refine take_ (i := 4) (N := some 146) (v := ?_) (a' := ?_) #[tt,tt,tt,tt,tt,tt,tt,tt,ff,ff,ff] rfl rfl (by kernel_rfl) (fun _ _ _ h => h) (Or.inl ⟨by rfl, ?_⟩) hHeld ?_ ?_
                  rotate_left
                  · rintro w' ⟨s0, s1⟩
                    go_simp
                    with_reducible rfl
                  rotate_left
                  · simp only [Act.put, pkA, pkB, pkC, i64_w, i32_w]
                    rfl
                  refine take_ (i := 8) (N := some 150) (v := ?_) (a' := ?_) #[tt,tt,tt,tt,tt,tt,tt,tt,tt,ff,ff] rfl rfl (by kernel_rfl) (fun _ _ _ h => h) (Or.inl ⟨by rfl, ?_⟩) hHeld ?_ ?_
                  rotate_left
                  · rintro w' ⟨s0, s1⟩
                    go_simp
                    with_reducible rfl
                  rotate_left
                  · simp only [Act.put, pkA, pkB, pkC, i64_w, i32_w]
                    rfl
                  refine pure_ (i := 9) (N := some 151) (v := ?_) (a' := ?_) #[tt,tt,tt,tt,tt,tt,tt,tt,tt,tt,ff] rfl rfl (by kernel_rfl) (fun _ _ _ h => h) (Or.inl ⟨by rfl, ?_⟩) ?_ ?_
                  rotate_left
                  · intro w'
                    go_simp
                    with_reducible rfl
                  rotate_left
                  · simp only [Act.put, pkA, pkB, pkC, i64_w, i32_w]
                    rfl
                  refine pure_ (i := 10) (N := some 152) (v := ?_) (a' := ?_) #[tt,tt,tt,tt,tt,tt,tt,tt,tt,tt,tt] rfl rfl (by kernel_rfl) (fun _ _ _ h => h) (Or.inl ⟨by rfl, ?_⟩) ?_ ?_
                  rotate_left
                  · intro w'
                    go_simp
                    with_reducible rfl
                  rotate_left
                  · simp only [Act.put, pkA, pkB, pkC, i64_w, i32_w]
                    rfl
                  refine done_ (by kernel_rfl) ?_
                  go_wp2
                  have e1 : wrap64 ((k : Int) + 1) = ((k + 1 : Nat) : Int) := by rw [wid _ (by omega) (by have := HKb.out; omega)]; rfl
                  rw [e1]
                  exact ⟨⟨k + 1, by omega, rfl, HB7⟩, by simp only [Go.RowKit.intOf, Int.toNat_natCast]; omega⟩
                · have t9 : decide (k < D.now.length) = false := decide_eq_false hlz
                  have t9' : decide ((k : Int) < (D.now.length : Int)) = false := decide_eq_false (by omega)
                  go_wp2
                  go_ret
                  exact ⟨rfl, HS3.out.bel.trans (HBz.out.mono (by have := HS3.out.size rfl; omega))⟩
end Go.Proofs.YtpcfnkmljchiiaaGreatDoor.DAll
