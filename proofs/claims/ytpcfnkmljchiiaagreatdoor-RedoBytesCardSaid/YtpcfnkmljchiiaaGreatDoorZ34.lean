/- Steps towards RBoth: ONeed. -/
import Derived.Test.YtpcfnkmljchiiaaGreatDoorZ25
set_option linter.unusedVariables false
set_option linter.unusedSimpArgs false
/- Log.need: how much room a change needs. Written by a small program (the ways of its loop). -/
namespace Go.Proofs.YtpcfnkmljchiiaaGreatDoor.ONeed
open Go Go.RowKit Go.Maps Go.WideMaps Go.Proofs.YtpcfnkmljchiiaaGreatDoorW.PrintWords Go.Proofs.YtpcfnkmljchiiaaGreatDoorW.PrintLast Go.Proofs.YtpcfnkmljchiiaaGreatDoorW.PrintMore DPl DAt DNw Go.Proofs.YtpcfnkmljchiiaaGreatDoor.Is DFil DOps DSyn Go.Proofs.YtpcfnkmljchiiaaGreatDoor.OPl Go.Proofs.YtpcfnkmljchiiaaGreatDoor.OSz Go.Proofs.YtpcfnkmljchiiaaGreatDoor.OAll Go.Proofs.YtpcfnkmljchiiaaGreatDoor.OChk Go.Proofs.YtpcfnkmljchiiaaGreatDoor.OEnc
attribute [local go_sem] max2_int min2_int max_two min_two
/-- What a change needs: room; whether its places are the files' ends; how many more files there are at most; how many there are. -/
structure Nd where
  room : Int
  sizes : Bool
  most : Int
  more : Int
def needStep (D : Dsk) (n : Nd) (o : Rop) : Nd :=
  let room := n.room + (10 + o.f1.size + o.f3.length)
  if o.f0 = 3 then ⟨room, n.sizes, n.most, if fileE D o.f1 = none then n.more - 1 else n.more⟩ else
  ⟨room + max (o.f2 + o.f3.length - sizeL D o.f1) 0, n.sizes && (o.f0 == 2 || o.f2 == sizeL D o.f1), if fileE D o.f1 = none then n.most else max n.most (n.more + 1), if fileE D o.f1 = none then n.more else n.more + 1⟩
def needL (D : Dsk) (L : List Rop) : Nd := L.foldl (needStep D) ⟨9, true, 0, 0⟩
theorem sizeL_le {D : Dsk} (hk : D.Ok) (s : ByteArray) : 0 ≤ sizeL D s ∧ sizeL D s ≤ 1073741824 := by
  unfold sizeL
  split
  · rename_i hq
    obtain ⟨i, f, hi, hf⟩ := file_at hk hq
    have hr : readD D s = f.now := by unfold readD; rw [hi]; simp only [Int.toNat_natCast, hf]
    rw [hr]
    have := (hk.fil f (List.mem_of_getElem? hf)).nowL
    omega
  · omega
theorem needL_snoc (D : Dsk) (l : List Rop) (o : Rop) : needL D (l ++ [o]) = needStep D (needL D l) o := by simp [needL, List.foldl_append]
/-- What the loop carries. -/
structure NW (w : World) (D : Dsk) (L : List Rop) (j : Nat) (n : Nd) (W : World) : Prop where
  bel : Below w.heap.size w W
  eq : n = needL D (L.take j)
  r0 : 0 ≤ n.room
  r1 : n.room ≤ 9 + 2000000000 * j
  m0 : -(j : Int) ≤ n.more
  m1 : n.more ≤ j
  t0 : 0 ≤ n.most
  t1 : n.most ≤ j
variable {B : Bx} {p l : Nat} {dead : Bool} {D : Dsk} {E : Int → Addr} {w : World}
set_option maxRecDepth 100000 in
set_option maxHeartbeats 16000000 in
theorem need_calls (L : List Rop) (A : Option Addr) (c : Nat) (hlg : LogAt w l p dead) (h : DiskAt B w p D) (hE : ErrAt B w E) (hk : D.Ok) (hst : D.steps ≤ 900000000) (hr : Kd.C GSix.k62 w A L.length L) (hc : L.length ≤ c) (hL : L.length ≤ 16) (hF : ∀ o ∈ L, Fm o) :
    Calls Tryz.prog 82 #[.pointer (some ⟨l, 0, none⟩), .slice A L.length c] w fun e w' => e = .returned (.tuple #[.int .i64 (needL D L).room, .bool (needL D L).sizes, .int .i64 (needL D L).most]) ∧ Below w.heap.size w w' ∧ (0 ≤ (needL D L).room ∧ (needL D L).room ≤ 40000000000 ∧ 0 ≤ (needL D L).most ∧ (needL D L).most ≤ 16) := by
  have HSz := Aside0.mk (fun (U : World) (hb : Below w.heap.size w U) (s : ByteArray) (hs : s.size < 9223372036854775807) => size_calls B p D E U (h.below hb) (hE.turn (Turn.of_below hb)) hk (by omega) s hs)
  have HSl := Aside0.mk (fun s => sizeL_le (D := D) hk s)
  have HLg := Aside0.mk hlg
  have HR := Aside0.mk hr
  have HF := Aside0.mk hF
  have HL0 := Aside0.mk (show NW w D L 0 ⟨9, true, 0, 0⟩ w from ⟨Below.refl _ _, rfl, by decide, by decide, by decide, by decide, by decide, by decide⟩)
  obtain ⟨R, hR⟩ : ∃ R, R = needL D L := ⟨_, rfl⟩
  rw [← hR]
  have HRR := Aside0.mk hR
  clear h hE hk hlg hr hF hR
  go_enter Tryz.func82, Tryz.ntmps82
  go_wp2
  go_loopw [15, 4, 5, 6, 7] (fun ix rv sv mv ov wx => ∃ (j : Nat) (rm : Int) (sz : Bool) (ms mr : Int), j ≤ L.length ∧ ix = .int .i64 j ∧ rv = .int .i64 rm ∧ sv = .bool sz ∧ mv = .int .i64 ms ∧ ov = .int .i64 mr ∧ Aside0 (NW w D L j ⟨rm, sz, ms, mr⟩ wx)) (fun ix _ _ _ _ _ => L.length - (Go.RowKit.intOf ix).toNat)
  case atStart => exact ⟨0, 9, true, 0, 0, Nat.zero_le _, rfl, rfl, rfl, rfl, rfl, HL0⟩
  case round =>
    obtain ⟨j, rm, sz, ms, mr, hj, rfl, rfl, rfl, rfl, rfl, HA⟩ := hrel
    clear HL0
    have z0 : 0 ≤ rm := HA.out.r0
    have z1 : rm ≤ 9 + 2000000000 * j := HA.out.r1
    have z2 : -(j : Int) ≤ mr := HA.out.m0
    have z3 : mr ≤ j := HA.out.m1
    have z4 : 0 ≤ ms := HA.out.t0
    have z5 : ms ≤ j := HA.out.t1
    by_cases hlt : j < L.length
    · have t3 : decide (j < L.length) = true := decide_eq_true hlt
      have t3' : decide ((j : Int) < (L.length : Int)) = true := decide_eq_true (by omega)
      obtain ⟨o, ho⟩ : ∃ o, L[j]? = some o := ⟨_, List.getElem?_eq_getElem hlt⟩
      obtain ⟨ad, A3, c3, rfl, x0, x1, x2, x3, hl3, hi3⟩ := GSix.at_T62 HR.out (j : Int) (by omega) (by omega)
      rw [show GSix.rd_T62 L (j : Int) = o by unfold GSix.rd_T62; rw [Int.toNat_natCast, List.getD_eq_getElem?_getD, ho]; rfl] at x0 x1 x2 x3
      rw [Int.toNat_natCast] at x0 x1 x2 x3
      replace x0 := (HA.out.bel.cell (World.block_lt_of_cell? w _ x0)).trans x0
      replace x1 := (HA.out.bel.cell (World.block_lt_of_cell? w _ x1)).trans x1
      replace x2 := (HA.out.bel.cell (World.block_lt_of_cell? w _ x2)).trans x2
      replace x3 := (HA.out.bel.cell (World.block_lt_of_cell? w _ x3)).trans x3
      have HFm := Aside0.mk (HF.out o (List.mem_of_getElem? ho))
      have hk0 : 1 ≤ o.f0 := HFm.out.k0
      have hk1 : o.f0 ≤ 3 := HFm.out.k1
      have hsz : o.f1.size ≤ 24 := HFm.out.size
      have hbs : o.f3.length ≤ 400000 := HFm.out.len
      have ha0 : 0 ≤ o.f2 := HFm.out.a0
      have ha1 : o.f2 ≤ 1073741824 := HFm.out.a1
      have HTk := Aside0.mk (show needL D (L.take (j + 1)) = needStep D (needL D (L.take j)) o by rw [List.take_add_one, ho]; exact needL_snoc _ _ _)
      obtain ⟨q, hq⟩ : ∃ q, q = sizeL D o.f1 := ⟨_, rfl⟩
      have hq0 : 0 ≤ q := by rw [hq]; exact (HSl.out _).1
      have hq1 : q ≤ 1073741824 := by rw [hq]; exact (HSl.out _).2
      have HCl := Aside0.mk (HSz.out)
      have HQ := Aside0.mk hq
      clear ho hl3 hi3 hq
      have a0 : (0 : Int) ≤ (j : Int) := by omega
      have a1 : (j : Int) < (L.length : Int) := by omega
      go_upto_region 6 with (first | ((with_reducible refine gate_dst (N := 9) rfl ?_); refine box_event ?hg (N := 9) ?hd (cs := #[.int .i64 0, .string (⟨#[]⟩ : ByteArray), .int .i64 0, .slice none 0 0]) (t := 62) ?hr ?_; (case hd => rfl); (case hg => rfl); (case hr => first | (go_simp; done) | (go_simp; rfl)); intro gb hg w13 hbox hb; have HBk := Aside0.mk hbox; have HGb := Aside0.mk (show wr.heap.size ≤ gb by rw [hg]; exact Nat.le_refl _); have HB13 := Aside0.mk hb; clear hb hbox hg; have hcz0 : w13.cell? ⟨gb, 0, none⟩ = some (.int .i64 0) := (blk_cell HBk.out 0).trans rfl; have hcz1 : w13.cell? ⟨gb, 1, none⟩ = some (.string (⟨#[]⟩ : ByteArray)) := (blk_cell HBk.out 1).trans rfl; have hcz2 : w13.cell? ⟨gb, 2, none⟩ = some (.int .i64 0) := (blk_cell HBk.out 2).trans rfl; have hcz3 : w13.cell? ⟨gb, 3, none⟩ = some (.slice none 0 0) := (blk_cell HBk.out 3).trans rfl; have hfz0 := blk_frozen HBk.out 0; have hfz1 := blk_frozen HBk.out 1; have hfz2 := blk_frozen HBk.out 2; have hfz3 := blk_frozen HBk.out 3))
      have HB14 := Aside0.mk (show Below wr.heap.size wr ((((w13.setCell ⟨gb, 0, none⟩ (.int .i64 o.f0)).setCell ⟨gb, 1, none⟩ (.string o.f1)).setCell ⟨gb, 2, none⟩ (.int .i64 o.f2)).setCell ⟨gb, 3, none⟩ (.slice A3 o.f3.length c3)) from (((HB13.out.setCell HGb.out _).setCell HGb.out _).setCell HGb.out _).setCell HGb.out _)
      have HK14 := Aside0.mk (show ((((w13.setCell ⟨gb, 0, none⟩ (.int .i64 o.f0)).setCell ⟨gb, 1, none⟩ (.string o.f1)).setCell ⟨gb, 2, none⟩ (.int .i64 o.f2)).setCell ⟨gb, 3, none⟩ (.slice A3 o.f3.length c3)).heap[gb]? = some (.cells #[.int .i64 o.f0, .string o.f1, .int .i64 o.f2, .slice A3 o.f3.length c3] 62 (0, 0)) from blk_put (blk_put (blk_put (blk_put HBk.out 0 _ rfl) 1 _ rfl) 2 _ rfl) 3 _ rfl)
      clear hcz0 hcz1 hcz2 hcz3 hfz0 hfz1 hfz2 hfz3 HBk HB13 x0 x1 x2 x3
      generalize ((((w13.setCell ⟨gb, 0, none⟩ (.int .i64 o.f0)).setCell ⟨gb, 1, none⟩ (.string o.f1)).setCell ⟨gb, 2, none⟩ (.int .i64 o.f2)).setCell ⟨gb, 3, none⟩ (.slice A3 o.f3.length c3)) = w14 at HB14 HK14 ⊢
      have d0 := (blk_cell HK14.out 0).trans (rfl : _ = some (Value.int .i64 o.f0))
      have d1 := (blk_cell HK14.out 1).trans (rfl : _ = some (Value.string o.f1))
      have d2 := (blk_cell HK14.out 2).trans (rfl : _ = some (Value.int .i64 o.f2))
      have d3 := (blk_cell HK14.out 3).trans (rfl : _ = some (Value.slice A3 o.f3.length c3))
      have HBw := Aside0.mk (HA.out.bel.trans (HB14.out.mono HA.out.bel.size))
      have HLg14 := Aside0.mk (HLg.out.below HBw.out)
      go_upto_region 7 with (fail)
      refine start_ (n := 12) (S := fun w' => w'.cell? ⟨l, 0, none⟩ = some (.pointer (some ⟨p, 0, none⟩)) ∧ w'.cell? ⟨gb, 1, none⟩ = some (.string o.f1)) (ds := [6]) #[ff,ff,ff,ff,ff,ff,ff,ff,ff,ff,ff,ff] (by kernel_rfl) rfl rfl ⟨(HLg14.out.disk), ((blk_cell HK14.out 1).trans rfl)⟩ (fun hHeld => ?_)
      have HB0 := Aside0.mk (show Below w.heap.size w w14.drew from HBw.out.drew)
      have HK0 := Aside0.mk (show w14.drew.heap[gb]? = _ from HK14.out)
      generalize w14.drew = w15 at HB0 HK0 hHeld ⊢
      refine pure_ (i := 0) (N := some 30) (v := ?_) (a' := ?_) #[tt,ff,ff,ff,ff,ff,ff,ff,ff,ff,ff,ff] rfl rfl (by kernel_rfl) (fun _ _ _ h => h) (Or.inl ⟨by rfl, ?_⟩) ?_ ?_
      rotate_left
      · intro w'
        go_simp
        with_reducible rfl
      rotate_left
      · simp only [Act.put, pkA, pkB, pkC, i64_w, i32_w]
        rfl
      refine pure_ (i := 1) (N := some 31) (v := ?_) (a' := ?_) #[tt,tt,ff,ff,ff,ff,ff,ff,ff,ff,ff,ff] rfl rfl (by kernel_rfl) (fun _ _ _ h => h) (Or.inl ⟨by rfl, ?_⟩) ?_ ?_
      rotate_left
      · intro w'
        go_simp
        with_reducible rfl
      rotate_left
      · simp only [Act.put, pkA, pkB, pkC, i64_w, i32_w]
        rfl
      refine pure_ (i := 2) (N := some 32) (v := ?_) (a' := ?_) #[tt,tt,tt,ff,ff,ff,ff,ff,ff,ff,ff,ff] rfl rfl (by kernel_rfl) (fun _ _ _ h => h) (Or.inl ⟨by rfl, ?_⟩) ?_ ?_
      rotate_left
      · intro w'
        go_simp
        with_reducible rfl
      rotate_left
      · simp only [Act.put, pkA, pkB, pkC, i64_w, i32_w]
        rfl
      refine pure_ (i := 4) (N := some 34) (v := ?_) (a' := ?_) #[tt,tt,tt,ff,tt,ff,ff,ff,ff,ff,ff,ff] rfl rfl (by kernel_rfl) (fun _ _ _ h => h) (Or.inl ⟨by rfl, ?_⟩) ?_ ?_
      rotate_left
      · intro w'
        go_simp
        with_reducible rfl
      rotate_left
      · simp only [Act.put, pkA, pkB, pkC, i64_w, i32_w]
        rfl
      refine take_ (i := 3) (N := some 33) (v := ?_) (a' := ?_) #[tt,tt,tt,tt,tt,ff,ff,ff,ff,ff,ff,ff] rfl rfl (by kernel_rfl) (fun _ _ _ h => h) (Or.inl ⟨by rfl, ?_⟩) hHeld ?_ ?_
      rotate_left
      · rintro w' ⟨s0, s1⟩
        go_simp
        with_reducible rfl
      rotate_left
      · simp only [Act.put, pkA, pkB, pkC, i64_w, i32_w]
        rfl
      refine take_ (i := 5) (N := some 35) (v := ?_) (a' := ?_) #[tt,tt,tt,tt,tt,tt,ff,ff,ff,ff,ff,ff] rfl rfl (by kernel_rfl) (fun _ _ _ h => h) (Or.inl ⟨by rfl, ?_⟩) hHeld ?_ ?_
      rotate_left
      · rintro w' ⟨s0, s1⟩
        go_simp
        with_reducible rfl
      rotate_left
      · simp only [Act.put, pkA, pkB, pkC, i64_w, i32_w]
        rfl
      refine last_ (i := 6) (N := some 36) #[tt,tt,tt,tt,tt,tt,tt,ff,ff,ff,ff,ff] rfl rfl (by kernel_rfl) (by decide) (fun K hK => ?_)
      refine goes_ Tryz.func119 (by kernel_rfl) rfl #[.pointer (some ⟨p, 0, none⟩), .string o.f1] (by rfl) rfl rfl (by simp only [List.map_toArray, List.map_cons, List.map_nil]; rfl) ?_
      with_reducible refine (HSz.out w15 HB0.out o.f1 (by omega)).mono ?_
      rintro e w16 ⟨rfl, hb⟩
      refine ⟨_, rfl, ?_⟩
      have HB6 := Aside0.mk (HB0.out.trans (hb.mono HB0.out.size))
      have HK6 := Aside0.mk ((hb.block _ (blk_lt HK0.out)).trans HK0.out)
      clear hb
      refine hK.out _ _ ?_
      clear hK K
      refine norm_ (a' := ?_) ?_ ?_
      rotate_left
      · show Act.put _ (some 36) _ = _
        simp only [Act.put, pkA, pkB, pkC, i64_w, i32_w]
        rfl
      refine pure_ (i := 7) (N := some 29) (v := ?_) (a' := ?_) #[tt,tt,tt,tt,tt,tt,tt,tt,ff,ff,ff,ff] rfl rfl (by kernel_rfl) (fun _ _ _ h => h) (Or.inl ⟨by rfl, ?_⟩) ?_ ?_
      rotate_left
      · intro w'
        go_simp
        with_reducible rfl
      rotate_left
      · simp only [Act.put, pkA, pkB, pkC, i64_w, i32_w]
        rfl
      refine pure_ (i := 8) (N := some 37) (v := ?_) (a' := ?_) #[tt,tt,tt,tt,tt,tt,tt,tt,tt,ff,ff,ff] rfl rfl (by kernel_rfl) (fun _ _ _ h => h) (Or.inl ⟨by rfl, ?_⟩) ?_ ?_
      rotate_left
      · intro w'
        go_simp
        with_reducible rfl
      rotate_left
      · simp only [Act.put, pkA, pkB, pkC, i64_w, i32_w]
        rfl
      refine pure_ (i := 9) (N := some 38) (v := ?_) (a' := ?_) #[tt,tt,tt,tt,tt,tt,tt,tt,tt,tt,ff,ff] rfl rfl (by kernel_rfl) (fun _ _ _ h => h) (Or.inl ⟨by rfl, ?_⟩) ?_ ?_
      rotate_left
      · intro w'
        go_simp
        with_reducible rfl
      rotate_left
      · simp only [Act.put, pkA, pkB, pkC, i64_w, i32_w]
        rfl
      refine pure_ (i := 10) (N := some 10) (v := ?_) (a' := ?_) #[tt,tt,tt,tt,tt,tt,tt,tt,tt,tt,tt,ff] rfl rfl (by kernel_rfl) (fun _ _ _ h => h) (Or.inl ⟨by rfl, ?_⟩) ?_ ?_
      rotate_left
      · intro w'
        go_simp
        with_reducible rfl
      rotate_left
      · simp only [Act.put, pkA, pkB, pkC, i64_w, i32_w]
        rfl
      refine pure_ (i := 11) (N := some 11) (v := ?_) (a' := ?_) #[tt,tt,tt,tt,tt,tt,tt,tt,tt,tt,tt,tt] rfl rfl (by kernel_rfl) (fun _ _ _ h => h) (Or.inl ⟨by rfl, ?_⟩) ?_ ?_
      rotate_left
      · intro w'
        go_simp
        with_reducible rfl
      rotate_left
      · simp only [Act.put, pkA, pkB, pkC, i64_w, i32_w]
        rfl
      refine done_ (by kernel_rfl) ?_
      rw [← HQ.out]
      clear d0 d1 d2 d3
      have g0 := (blk_cell HK6.out 0).trans (rfl : _ = some (Value.int .i64 o.f0))
      have g2 := (blk_cell HK6.out 2).trans (rfl : _ = some (Value.int .i64 o.f2))
      have g3 := (blk_cell HK6.out 3).trans (rfl : _ = some (Value.slice A3 o.f3.length c3))
      rcases (show o.f0 = 3 ∨ o.f0 = 2 ∨ o.f0 = 1 by omega) with ek | ek | ek
      · rw [ek] at g0
        cases hf : fileE D o.f1 with
        | some y =>
          rw [errV_some]
          have HN := Aside0.mk (show NW w D L (j + 1) ⟨rm + (10 + o.f1.size + o.f3.length), sz, ms, mr⟩ w16 from ⟨HB6.out, by rw [HTk.out, ← HA.out.eq]; unfold needStep; rw [ek, hf, ← HQ.out]; simp, by first | omega | (simp only []; omega), by first | omega | (simp only []; omega), by first | omega | (simp only []; omega), by first | omega | (simp only []; omega), by first | omega | (simp only []; omega), by first | omega | (simp only []; omega)⟩)
          go_wp2
          exact ⟨⟨j + 1, _, _, _, _, by omega, by simp, by first | rfl | go_num, by first | rfl | simp, by first | rfl | go_num, by first | rfl | go_num, HN⟩, by simp [Go.RowKit.intOf]; omega⟩
        | none =>
          rw [errV_none]
          have HN := Aside0.mk (show NW w D L (j + 1) ⟨rm + (10 + o.f1.size + o.f3.length), sz, ms, mr - 1⟩ w16 from ⟨HB6.out, by rw [HTk.out, ← HA.out.eq]; unfold needStep; rw [ek, hf, ← HQ.out]; simp, by first | omega | (simp only []; omega), by first | omega | (simp only []; omega), by first | omega | (simp only []; omega), by first | omega | (simp only []; omega), by first | omega | (simp only []; omega), by first | omega | (simp only []; omega)⟩)
          go_wp2
          exact ⟨⟨j + 1, _, _, _, _, by omega, by simp, by first | rfl | go_num, by first | rfl | simp, by first | rfl | go_num, by first | rfl | go_num, HN⟩, by simp [Go.RowKit.intOf]; omega⟩
      · rw [ek] at g0
        cases hf : fileE D o.f1 with
        | some y =>
          rw [errV_some]
          cases sz with
          | false =>
            have HN := Aside0.mk (show NW w D L (j + 1) ⟨rm + (10 + o.f1.size + o.f3.length) + max (o.f2 + o.f3.length - q) 0, false, max ms (mr + 1), mr + 1⟩ w16 from ⟨HB6.out, by rw [HTk.out, ← HA.out.eq]; unfold needStep; rw [ek, hf, ← HQ.out]; simp, by first | omega | (simp only []; omega), by first | omega | (simp only []; omega), by first | omega | (simp only []; omega), by first | omega | (simp only []; omega), by first | omega | (simp only []; omega), by first | omega | (simp only []; omega)⟩)
            go_wp2
            exact ⟨⟨j + 1, _, _, _, _, by omega, by simp, by first | rfl | go_num, by first | rfl | simp, by first | rfl | go_num, by first | rfl | go_num, HN⟩, by simp [Go.RowKit.intOf]; omega⟩
          | true =>
            have HN := Aside0.mk (show NW w D L (j + 1) ⟨rm + (10 + o.f1.size + o.f3.length) + max (o.f2 + o.f3.length - q) 0, true, max ms (mr + 1), mr + 1⟩ w16 from ⟨HB6.out, by rw [HTk.out, ← HA.out.eq]; unfold needStep; rw [ek, hf, ← HQ.out]; simp, by first | omega | (simp only []; omega), by first | omega | (simp only []; omega), by first | omega | (simp only []; omega), by first | omega | (simp only []; omega), by first | omega | (simp only []; omega), by first | omega | (simp only []; omega)⟩)
            go_wp2
            exact ⟨⟨j + 1, _, _, _, _, by omega, by simp, by first | rfl | go_num, by first | rfl | simp, by first | rfl | go_num, by first | rfl | go_num, HN⟩, by simp [Go.RowKit.intOf]; omega⟩
        | none =>
          rw [errV_none]
          cases sz with
          | false =>
            have HN := Aside0.mk (show NW w D L (j + 1) ⟨rm + (10 + o.f1.size + o.f3.length) + max (o.f2 + o.f3.length - q) 0, false, ms, mr⟩ w16 from ⟨HB6.out, by rw [HTk.out, ← HA.out.eq]; unfold needStep; rw [ek, hf, ← HQ.out]; simp, by first | omega | (simp only []; omega), by first | omega | (simp only []; omega), by first | omega | (simp only []; omega), by first | omega | (simp only []; omega), by first | omega | (simp only []; omega), by first | omega | (simp only []; omega)⟩)
            go_wp2
            exact ⟨⟨j + 1, _, _, _, _, by omega, by simp, by first | rfl | go_num, by first | rfl | simp, by first | rfl | go_num, by first | rfl | go_num, HN⟩, by simp [Go.RowKit.intOf]; omega⟩
          | true =>
            have HN := Aside0.mk (show NW w D L (j + 1) ⟨rm + (10 + o.f1.size + o.f3.length) + max (o.f2 + o.f3.length - q) 0, true, ms, mr⟩ w16 from ⟨HB6.out, by rw [HTk.out, ← HA.out.eq]; unfold needStep; rw [ek, hf, ← HQ.out]; simp, by first | omega | (simp only []; omega), by first | omega | (simp only []; omega), by first | omega | (simp only []; omega), by first | omega | (simp only []; omega), by first | omega | (simp only []; omega), by first | omega | (simp only []; omega)⟩)
            go_wp2
            exact ⟨⟨j + 1, _, _, _, _, by omega, by simp, by first | rfl | go_num, by first | rfl | simp, by first | rfl | go_num, by first | rfl | go_num, HN⟩, by simp [Go.RowKit.intOf]; omega⟩
      · rw [ek] at g0
        cases hf : fileE D o.f1 with
        | some y =>
          rw [errV_some]
          cases sz with
          | false =>
            have HN := Aside0.mk (show NW w D L (j + 1) ⟨rm + (10 + o.f1.size + o.f3.length) + max (o.f2 + o.f3.length - q) 0, false, max ms (mr + 1), mr + 1⟩ w16 from ⟨HB6.out, by rw [HTk.out, ← HA.out.eq]; unfold needStep; rw [ek, hf, ← HQ.out]; simp, by first | omega | (simp only []; omega), by first | omega | (simp only []; omega), by first | omega | (simp only []; omega), by first | omega | (simp only []; omega), by first | omega | (simp only []; omega), by first | omega | (simp only []; omega)⟩)
            go_wp2
            exact ⟨⟨j + 1, _, _, _, _, by omega, by simp, by first | rfl | go_num, by first | rfl | simp, by first | rfl | go_num, by first | rfl | go_num, HN⟩, by simp [Go.RowKit.intOf]; omega⟩
          | true =>
            cases he : (o.f2 == q) with
            | true =>
              have HN := Aside0.mk (show NW w D L (j + 1) ⟨rm + (10 + o.f1.size + o.f3.length) + max (o.f2 + o.f3.length - q) 0, true, max ms (mr + 1), mr + 1⟩ w16 from ⟨HB6.out, by rw [HTk.out, ← HA.out.eq]; unfold needStep; rw [ek, hf, ← HQ.out, he]; simp, by first | omega | (simp only []; omega), by first | omega | (simp only []; omega), by first | omega | (simp only []; omega), by first | omega | (simp only []; omega), by first | omega | (simp only []; omega), by first | omega | (simp only []; omega)⟩)
              go_wp2
              exact ⟨⟨j + 1, _, _, _, _, by omega, by simp, by first | rfl | go_num, by first | rfl | simp, by first | rfl | go_num, by first | rfl | go_num, HN⟩, by simp [Go.RowKit.intOf]; omega⟩
            | false =>
              have HN := Aside0.mk (show NW w D L (j + 1) ⟨rm + (10 + o.f1.size + o.f3.length) + max (o.f2 + o.f3.length - q) 0, false, max ms (mr + 1), mr + 1⟩ w16 from ⟨HB6.out, by rw [HTk.out, ← HA.out.eq]; unfold needStep; rw [ek, hf, ← HQ.out, he]; simp, by first | omega | (simp only []; omega), by first | omega | (simp only []; omega), by first | omega | (simp only []; omega), by first | omega | (simp only []; omega), by first | omega | (simp only []; omega), by first | omega | (simp only []; omega)⟩)
              go_wp2
              exact ⟨⟨j + 1, _, _, _, _, by omega, by simp, by first | rfl | go_num, by first | rfl | simp, by first | rfl | go_num, by first | rfl | go_num, HN⟩, by simp [Go.RowKit.intOf]; omega⟩
        | none =>
          rw [errV_none]
          cases sz with
          | false =>
            have HN := Aside0.mk (show NW w D L (j + 1) ⟨rm + (10 + o.f1.size + o.f3.length) + max (o.f2 + o.f3.length - q) 0, false, ms, mr⟩ w16 from ⟨HB6.out, by rw [HTk.out, ← HA.out.eq]; unfold needStep; rw [ek, hf, ← HQ.out]; simp, by first | omega | (simp only []; omega), by first | omega | (simp only []; omega), by first | omega | (simp only []; omega), by first | omega | (simp only []; omega), by first | omega | (simp only []; omega), by first | omega | (simp only []; omega)⟩)
            go_wp2
            exact ⟨⟨j + 1, _, _, _, _, by omega, by simp, by first | rfl | go_num, by first | rfl | simp, by first | rfl | go_num, by first | rfl | go_num, HN⟩, by simp [Go.RowKit.intOf]; omega⟩
          | true =>
            cases he : (o.f2 == q) with
            | true =>
              have HN := Aside0.mk (show NW w D L (j + 1) ⟨rm + (10 + o.f1.size + o.f3.length) + max (o.f2 + o.f3.length - q) 0, true, ms, mr⟩ w16 from ⟨HB6.out, by rw [HTk.out, ← HA.out.eq]; unfold needStep; rw [ek, hf, ← HQ.out, he]; simp, by first | omega | (simp only []; omega), by first | omega | (simp only []; omega), by first | omega | (simp only []; omega), by first | omega | (simp only []; omega), by first | omega | (simp only []; omega), by first | omega | (simp only []; omega)⟩)
              go_wp2
              exact ⟨⟨j + 1, _, _, _, _, by omega, by simp, by first | rfl | go_num, by first | rfl | simp, by first | rfl | go_num, by first | rfl | go_num, HN⟩, by simp [Go.RowKit.intOf]; omega⟩
            | false =>
              have HN := Aside0.mk (show NW w D L (j + 1) ⟨rm + (10 + o.f1.size + o.f3.length) + max (o.f2 + o.f3.length - q) 0, false, ms, mr⟩ w16 from ⟨HB6.out, by rw [HTk.out, ← HA.out.eq]; unfold needStep; rw [ek, hf, ← HQ.out, he]; simp, by first | omega | (simp only []; omega), by first | omega | (simp only []; omega), by first | omega | (simp only []; omega), by first | omega | (simp only []; omega), by first | omega | (simp only []; omega), by first | omega | (simp only []; omega)⟩)
              go_wp2
              exact ⟨⟨j + 1, _, _, _, _, by omega, by simp, by first | rfl | go_num, by first | rfl | simp, by first | rfl | go_num, by first | rfl | go_num, HN⟩, by simp [Go.RowKit.intOf]; omega⟩
    · have t3 : decide (j < L.length) = false := decide_eq_false hlt
      have t3' : decide ((j : Int) < (L.length : Int)) = false := decide_eq_false (by omega)
      have HE := Aside0.mk (show R = ⟨rm, sz, ms, mr⟩ by rw [HRR.out, HA.out.eq, List.take_of_length_le (by omega)])
      go_wp2
      rw [HE.out]
      refine bodyPost_ret (v := .tuple #[.int .i64 rm, .bool sz, .int .i64 ms]) (by simp [results, Tryz.results82, go_sem]) rfl ⟨rfl, HA.out.bel, z0, by show rm ≤ _; omega, z4, by show ms ≤ _; omega⟩
end Go.Proofs.YtpcfnkmljchiiaaGreatDoor.ONeed
