/- Disk: Read, Sync, SyncDir. -/
import Derived.Test.YtpcfnkmljchiiaaDoorDOps
import Derived.Shelf.SlMaps.Clone
namespace Go.Proofs.YtpcfnkmljchiiaaDoor.DSyn
open Go Go.RowKit Go.Maps Go.WideMaps Go.Proofs.YtpcfnkmljchiiaaDoorW.PrintWords Go.Proofs.YtpcfnkmljchiiaaDoorW.PrintLast Go.Proofs.YtpcfnkmljchiiaaDoor.DBase Go.Proofs.YtpcfnkmljchiiaaDoor.DPl Go.Proofs.YtpcfnkmljchiiaaDoor.DAt Go.Proofs.YtpcfnkmljchiiaaDoor.DEnt Go.Proofs.YtpcfnkmljchiiaaDoor.DNam Go.Proofs.YtpcfnkmljchiiaaDoor.Is Go.Proofs.YtpcfnkmljchiiaaDoor.DFil Go.Proofs.YtpcfnkmljchiiaaDoor.DUsd Go.Proofs.YtpcfnkmljchiiaaDoor.DChg Go.Proofs.YtpcfnkmljchiiaaDoor.DCg Go.Proofs.YtpcfnkmljchiiaaDoor.DStp Go.Proofs.YtpcfnkmljchiiaaDoor.DCh2 Go.Proofs.YtpcfnkmljchiiaaDoor.DBy Go.Proofs.YtpcfnkmljchiiaaDoor.DOps
set_option linter.unusedVariables false
set_option linter.unusedSimpArgs false
section
variable (B p : Nat) (D : Dsk) (E : Int → Addr) (w : World)
/-- A file's bytes. -/
def readD (D : Dsk) (s : ByteArray) : List Int := match D.files[(atN D.now s.data.toList).toNat]? with | some f => f.now | none => []
set_option maxRecDepth 100000 in
set_option maxHeartbeats 4000000 in
theorem read_no (h : DiskAt B w p D) (hE : ErrAt B w E) (s : ByteArray) (hs : s.size < 9223372036854775807) (c : Int) (hq : fileE D s = some c) :
    Calls Tryd.prog 25 #[.pointer (some ⟨p, 0, none⟩), .string s] w fun e w' => e = .returned (.tuple #[.slice none 0 0, errV E (some c)]) ∧ Below w.heap.size w w' := by
  obtain ⟨L, m1, m2, fv, ov, hl⟩ := h
  have HF := Aside0.mk (file_no p D s hs E w hl hE c hq)
  rw [errV_some] at HF ⊢
  clear hl hE hq
  go_enter Tryd.func25, Tryd.ntmps25
  go_wp2_with (go_at_call 33; refine HF.out.mono ?_; rintro e w1 ⟨rfl, hb⟩; have HB1 := Aside0.mk hb; clear hb)
  go_ret2
  exact ⟨rfl, HB1.out⟩
set_option maxRecDepth 100000 in
set_option maxHeartbeats 4000000 in
theorem read_ok (h : DiskAt B w p D) (hE : ErrAt B w E) (hk : D.Ok) (hst : D.steps ≤ 1000000000) (s : ByteArray) (hs : s.size < 9223372036854775807) (hq : fileE D s = none) :
    Calls Tryd.prog 25 #[.pointer (some ⟨p, 0, none⟩), .string s] w fun e w' => ∃ v, e = .returned (.tuple #[v, .nilIface]) ∧ Kd.R kb 5 w' w.heap.size (fun _ => True) v (readD D s) ∧ Below w.heap.size w w' := by
  obtain ⟨L, m1, m2, fv, ov, hl⟩ := h
  obtain ⟨i, f, hi, hf⟩ := file_at hk hq
  have hr : readD D s = f.now := by unfold readD; rw [hi]; simp only [Int.toNat_natCast, hf]
  rw [hr]
  have hil : i < L.length := by have := hl.files.len; have := (List.getElem?_eq_some_iff.1 hf).1; omega
  obtain ⟨x, hx⟩ : ∃ x, L[i]? = some x := ⟨_, List.getElem?_eq_getElem hil⟩
  have HF := Aside0.mk (file_ok p D s hs E w hl hE hq i hi x hx (by have := hl.files.len; have := hk.cntF; omega))
  obtain ⟨⟨nv, sv, ho, hn, hsu⟩, lo, hop⟩ := hl.files.each i x f hx hf
  obtain ⟨A, cp, rfl, h1, h2⟩ := Kd.R_reads hn
  have HN0 := Aside0.mk ((blk_cell ho 0).trans rfl : w.cell? ⟨x.1, 0, none⟩ = some (.slice A f.now.length cp))
  have hkf := hk.fil f (List.mem_of_getElem? hf)
  have HCl := Aside0.mk (fun (U : World) (hb : Below w.heap.size w U) => slices_Clone_byte_byte.calls A cp f.now f.now U (Kd.C_below h2 hb) h1 (if_pos (by have := hkf.nowL; omega)))
  clear hl hE hq hi hf hx hil ho hn hsu lo hop hkf h1 h2 hr
  go_enter Tryd.func25, Tryd.ntmps25
  go_wp2_with (first
    | (go_at_call 33; refine HF.out.mono ?_; rintro e w1 ⟨rfl, hb⟩; have HB1 := Aside0.mk hb; clear hb; have n1 := (HB1.out.cell (p := ⟨x.1, 0, none⟩) (World.block_lt_of_cell? w _ HN0.out)).trans HN0.out)
    | (go_at_call 35; refine (HCl.out w1 HB1.out).mono ?_; rintro e w3 ⟨v, rfl, hr, hb⟩; have HB3 := Aside0.mk (HB1.out.trans (hb.mono HB1.out.size)); have HV3 := Aside0.mk (Kd.R_lower hr HB1.out.size); clear hr hb))
  go_ret2
  exact ⟨_, rfl, HV3.out, HB3.out⟩
/-! ### Sync -/
set_option maxRecDepth 100000 in
set_option maxHeartbeats 4000000 in
theorem sync1 (L : List (Nat × Value)) (m1 m2 : Nat) (fv ov : Value) (ga i : Nat) (x : Nat × Value) (f : Fil) (h : Lies B w p D L m1 m2 fv ov) (hx : L[i]? = some x) (hf : D.files[i]? = some f) (ca : w.cell? ⟨ga, 0, none⟩ = some (.pointer (some ⟨x.1, 0, none⟩))) (n1 : ga ≠ x.1) :
    Calls Tryd.prog 37 #[.pointer (some ⟨ga, 0, none⟩)] w fun en w' => en = .returned (.tuple #[]) ∧ ((∃ rv, Lies B w' p (setF D i ⟨f.now, f.now, []⟩) (L.set i (x.1, rv)) m1 m2 fv ov) ∧ Turn B w w') := by
  obtain ⟨⟨nv, sv, ho, hn, hsu⟩, lo, hop⟩ := h.files.each i x f hx hf
  obtain ⟨A, cp, rfl⟩ := Kd.R_slice hn
  have e0 : w.cell? ⟨x.1, 0, none⟩ = some (.slice A f.now.length cp) := (blk_cell ho 0).trans rfl
  have HL := Aside0.mk h
  have HO := Aside0.mk ho
  have HN := Aside0.mk hn
  clear h ho hn hsu hop
  go_enter Tryd.func37, Tryd.ntmps37
  go_wp2
  refine start_ (n := 12) (S := fun w' => w'.cell? ⟨ga, 0, none⟩ = some (.pointer (some ⟨x.1, 0, none⟩)) ∧ w'.cell? ⟨x.1, 0, none⟩ = some (.slice A f.now.length cp)) (ds := []) #[false, false, false, false, false, false, false, false, false, false, false, false] (by kernel_rfl) rfl rfl ⟨ca, e0⟩ (fun hHeld => ?_)
  have HO2 := Aside0.mk (show w.drew.heap[x.1]? = _ from HO.out)
  have HN2 := Aside0.mk (show BytesAt B w.drew _ _ from HN.out)
  have HT2 := Aside0.mk (Turn.refl B w).drew
  have HB2 := Aside0.mk (show But w w.drew none from ⟨Nat.le_refl _, fun _ _ _ => rfl⟩)
  generalize w.drew = w2 at HO2 HN2 HT2 HB2 hHeld ⊢
  have c1 : w2.cell? ⟨x.1, 1, none⟩ = some sv := (blk_cell HO2.out 1).trans rfl
  have f1 : w2.frozen? ⟨x.1, 1, none⟩ = false := blk_frozen HO2.out 1
  have c2 : (w2.setCell ⟨x.1, 1, none⟩ (.slice A f.now.length cp)).cell? ⟨x.1, 2, none⟩ = some x.2 := (blk_cell (blk_put HO2.out 1 (.slice A f.now.length cp) rfl) 2).trans rfl
  have f2 : (w2.setCell ⟨x.1, 1, none⟩ (.slice A f.now.length cp)).frozen? ⟨x.1, 2, none⟩ = false := blk_frozen (blk_put HO2.out 1 (.slice A f.now.length cp) rfl) 2
  refine take_ (i := 0) (N := some 1) (v := ?_) (a' := ?_) #[true, false, false, false, false, false, false, false, false, false, false, false] rfl rfl (by kernel_rfl) (fun _ _ _ h => h) (Or.inl ⟨by rfl, ?_⟩) hHeld ?_ ?_
  rotate_left
  · rintro w' ⟨s0, s1⟩
    go_simp
    with_reducible rfl
  rotate_left
  · simp only [Act.put, List.setIfInBounds_toArray, List.set_cons_zero, List.set_cons_succ, i64_w, i32_w]
    rfl
  refine take_ (i := 1) (N := some 2) (v := ?_) (a' := ?_) #[true, true, false, false, false, false, false, false, false, false, false, false] rfl rfl (by kernel_rfl) (fun _ _ _ h => h) (Or.inl ⟨by rfl, ?_⟩) hHeld ?_ ?_
  rotate_left
  · rintro w' ⟨s0, s1⟩
    go_simp
    with_reducible rfl
  rotate_left
  · simp only [Act.put, List.setIfInBounds_toArray, List.set_cons_zero, List.set_cons_succ, i64_w, i32_w]
    rfl
  refine take_ (i := 2) (N := some 3) (v := ?_) (a' := ?_) #[true, true, true, false, false, false, false, false, false, false, false, false] rfl rfl (by kernel_rfl) (fun _ _ _ h => h) (Or.inl ⟨by rfl, ?_⟩) hHeld ?_ ?_
  rotate_left
  · rintro w' ⟨s0, s1⟩
    go_simp
    with_reducible rfl
  rotate_left
  · simp only [Act.put, List.setIfInBounds_toArray, List.set_cons_zero, List.set_cons_succ, i64_w, i32_w]
    rfl
  refine pure_ (i := 3) (N := some 4) (v := ?_) (a' := ?_) #[true, true, true, true, false, false, false, false, false, false, false, false] rfl rfl (by kernel_rfl) (fun _ _ _ h => h) (Or.inl ⟨by rfl, ?_⟩) ?_ ?_
  rotate_left
  · intro w'
    go_simp
    with_reducible rfl
  rotate_left
  · simp only [Act.put, List.setIfInBounds_toArray, List.set_cons_zero, List.set_cons_succ, i64_w, i32_w]
    rfl
  refine pure_ (i := 4) (N := some 5) (v := ?_) (a' := ?_) #[true, true, true, true, true, false, false, false, false, false, false, false] rfl rfl (by kernel_rfl) (fun _ _ _ h => h) (Or.inl ⟨by rfl, ?_⟩) ?_ ?_
  rotate_left
  · intro w'
    go_simp
    with_reducible rfl
  rotate_left
  · simp only [Act.put, List.setIfInBounds_toArray, List.set_cons_zero, List.set_cons_succ, i64_w, i32_w]
    rfl
  refine take_ (i := 5) (N := some 6) (v := ?_) (a' := ?_) #[true, true, true, true, true, true, false, false, false, false, false, false] rfl rfl (by kernel_rfl) (fun _ _ _ h => h) (Or.inl ⟨by rfl, ?_⟩) hHeld ?_ ?_
  rotate_left
  · rintro w' ⟨s0, s1⟩
    go_simp
    with_reducible rfl
  rotate_left
  · simp only [Act.put, List.setIfInBounds_toArray, List.set_cons_zero, List.set_cons_succ, i64_w, i32_w]
    rfl
  refine pure_ (i := 6) (N := some 7) (v := ?_) (a' := ?_) #[true, true, true, true, true, true, true, false, false, false, false, false] rfl rfl (by kernel_rfl) (fun _ _ _ h => h) (Or.inl ⟨by rfl, ?_⟩) ?_ ?_
  rotate_left
  · intro w'
    go_simp
    with_reducible rfl
  rotate_left
  · simp only [Act.put, List.setIfInBounds_toArray, List.set_cons_zero, List.set_cons_succ, i64_w, i32_w]
    rfl
  refine pure_ (i := 7) (N := some 8) (v := ?_) (a' := ?_) #[true, true, true, true, true, true, true, true, false, false, false, false] rfl rfl (by kernel_rfl) (fun _ _ _ h => h) (Or.inl ⟨by rfl, ?_⟩) ?_ ?_
  rotate_left
  · intro w'
    go_simp
    with_reducible rfl
  rotate_left
  · simp only [Act.put, List.setIfInBounds_toArray, List.set_cons_zero, List.set_cons_succ, i64_w, i32_w]
    rfl
  refine one_ (i := 8) (N := none) #[true, true, true, true, true, true, true, true, true, false, false, false] rfl rfl (by kernel_rfl) (by decide) (fun K hK => ?_)
  refine skip_ (w1 := ?_) (by rfl) rfl ?_ ?_
  rotate_left
  · go_simp
    rfl
  refine hK.out _ _ ⟨(cell_far2 hHeld.1 (p := ⟨x.1, 1, none⟩) n1 _), ((blk_cell (blk_put HO2.out 1 (.slice A f.now.length cp) rfl) 0).trans rfl)⟩ (fun hHeld => ?_)
  clear hK K
  refine pure_ (i := 9) (N := some 9) (v := ?_) (a' := ?_) #[true, true, true, true, true, true, true, true, true, true, false, false] rfl rfl (by kernel_rfl) (fun _ _ _ h => h) (Or.inl ⟨by rfl, ?_⟩) ?_ ?_
  rotate_left
  · intro w'
    go_simp
    with_reducible rfl
  rotate_left
  · simp only [Act.put, List.setIfInBounds_toArray, List.set_cons_zero, List.set_cons_succ, i64_w, i32_w]
    rfl
  refine pure_ (i := 10) (N := some 10) (v := ?_) (a' := ?_) #[true, true, true, true, true, true, true, true, true, true, true, false] rfl rfl (by kernel_rfl) (fun _ _ _ h => h) (Or.inl ⟨by rfl, ?_⟩) ?_ ?_
  rotate_left
  · intro w'
    go_simp
    with_reducible rfl
  rotate_left
  · simp only [Act.put, List.setIfInBounds_toArray, List.set_cons_zero, List.set_cons_succ, i64_w, i32_w]
    rfl
  refine one_ (i := 11) (N := none) #[true, true, true, true, true, true, true, true, true, true, true, true] rfl rfl (by kernel_rfl) (by decide) (fun K hK => ?_)
  refine skip_ (w1 := ?_) (by rfl) rfl ?_ ?_
  rotate_left
  · go_simp
    rfl
  refine hK.out _ _ ⟨(cell_far2 hHeld.1 (p := ⟨x.1, 2, none⟩) n1 _), ((blk_cell (blk_put (blk_put HO2.out 1 (.slice A f.now.length cp) rfl) 2 (.slice none 0 0) rfl) 0).trans rfl)⟩ (fun hHeld => ?_)
  clear hK K
  refine done_ (by kernel_rfl) ?_
  go_end0
  have k1 := But.setCell w2 ⟨x.1, 1, none⟩ (.slice A f.now.length cp)
  have k2 := But.setCell (w2.setCell ⟨x.1, 1, none⟩ (.slice A f.now.length cp)) ⟨x.1, 2, none⟩ (.slice none 0 0)
  have o1 := blk_put HO2.out 1 (.slice A f.now.length cp) rfl
  have nx : Not w2 (some x.1) [5] := Not.cells (t := tF) (fun g hg => by obtain rfl := Option.some.inj hg; exact ⟨_, _, HO2.out⟩) (by decide)
  have nx2 : Not (w2.setCell ⟨x.1, 1, none⟩ (.slice A f.now.length cp)) (some x.1) [5] := Not.cells (t := tF) (fun g hg => by obtain rfl := Option.some.inj hg; exact ⟨_, _, o1⟩) (by decide)
  have b2 := BytesAt.but (BytesAt.but HN2.out k1 nx) k2 nx2
  refine ⟨rfl, ⟨_, HL.out.file i x f hx hf (Nat.le_trans HB2.out.1 (Nat.le_trans k1.1 k2.1)) (fun k hk h1 h2 => ?_) (.slice none 0 0) ⟨f.now, f.now, []⟩ ⟨⟨_, _, blk_put o1 2 _ rfl, b2, b2⟩, lo, Kd.R_nil _ _ _ _ _⟩ (.inl rfl)⟩, ?_⟩
  · have l1 : k < w2.heap.size := Nat.lt_of_lt_of_le hk HB2.out.1
    exact (k2.2 k (Nat.lt_of_lt_of_le l1 k1.1) (fun e => h1 (Option.some.inj e))).trans ((k1.2 k l1 (fun e => h1 (Option.some.inj e))).trans (HB2.out.2 k hk (by simp)))
  · exact (HT2.out.setCell HO2.out rfl lo 1 _).setCell o1 rfl lo 2 _
set_option maxRecDepth 100000 in
set_option maxHeartbeats 4000000 in
theorem sync_calls (h : DiskAt B w p D) (hE : ErrAt B w E) (hk : D.Ok) (hst : D.steps ≤ 1000000000) (s : ByteArray) (hs : s.size < 9223372036854775807)  :
    Calls Tryd.prog 16 #[.pointer (some ⟨p, 0, none⟩), .string s] w fun e w' => e = .returned (errV E (syncD D s).1) ∧ DiskAt B w' p (syncD D s).2 ∧ Turn B w w' := by
  obtain ⟨L, m1, m2, fv, ov, hl⟩ := h
  unfold syncD
  cases hq : fileE D s with
  | some c =>
    rw [fileOp_no hq]
    simp only [errV_some]
    have HF := Aside0.mk (file_no p D s hs E w hl hE c hq)
    rw [errV_some] at HF
    have HL := Aside0.mk hl
    clear hl hE hq
    go_enter Tryd.func16, Tryd.ntmps16
    go_wp2_with (go_at_call 33; refine HF.out.mono ?_; rintro e w1 ⟨rfl, hb⟩; have HB1 := Aside0.mk hb; clear hb)
    go_ret
    exact ⟨rfl, ⟨_, _, _, _, _, HL.out.below (HB1.out.trans (((Below.refl w1.heap.size w1).alloc (Nat.le_refl _) (.cells #[.pointer none] 66)).mono HB1.out.size))⟩, Turn.of_below (HB1.out.trans (((Below.refl w1.heap.size w1).alloc (Nat.le_refl _) (.cells #[.pointer none] 66)).mono HB1.out.size))⟩
  | none =>
    obtain ⟨i, f, hi, hf⟩ := file_at hk hq
    rw [fileOp_ok hq hi hf]
    have hil : i < L.length := by have := hl.files.len; have := (List.getElem?_eq_some_iff.1 hf).1; omega
    obtain ⟨x, hx⟩ : ∃ x, L[i]? = some x := ⟨_, List.getElem?_eq_getElem hil⟩
    have HF := Aside0.mk (file_ok p D s hs E w hl hE hq i hi x hx (by have := hl.files.len; have := hk.cntF; omega))
    have hxl : x.1 < w.heap.size := by obtain ⟨⟨nv, sv, ho, hn, hsu⟩, lo, hop⟩ := hl.files.each i x f hx hf; exact blk_lt ho
    have HB2 := Aside0.mk (fun (U : World) (hb : Below w.heap.size w U) => hb.trans (((Below.refl U.heap.size U).alloc (Nat.le_refl _) (.cells #[.pointer (some ⟨x.1, 0, none⟩)] 66)).mono hb.size))
    have HL := Aside0.mk hl
    by_cases h0 : D.armed = 0
    · rw [if_pos h0]
      simp only [errV_some]
      have HS := Aside0.mk (fun (U : World) (fn : Value) (hb : Below w.heap.size w U) => step_off B p D L m1 m2 fv ov E fn U (hl.below hb) (hE.turn (Turn.of_below hb)) h0)
      clear hl hE hq hi hil h0
      go_enter Tryd.func16, Tryd.ntmps16
      go_wp2_with (first
        | (go_at_call 33; refine HF.out.mono ?_; rintro e w1 ⟨rfl, hb⟩; have HB1 := Aside0.mk hb; clear hb)
        | (go_at_call 36; refine (HS.out _ _ (HB2.out _ HB1.out)).mono ?_; rintro e w2 ⟨rfl, hl2, hb2, ht2⟩; have HL2 := Aside0.mk hl2; have HT2 := Aside0.mk ht2; clear hl2 hb2 ht2; rw [errV_some]))
      go_ret
      exact ⟨rfl, ⟨_, _, _, _, _, HL2.out⟩, (Turn.of_below (HB2.out _ HB1.out)).trans HT2.out⟩
    · rw [if_neg h0]
      simp only [errV_none]
      have HS := Aside0.mk (fun (U : World) (ga : Nat) (hb : Below w.heap.size w U) (ca : U.cell? ⟨ga, 0, none⟩ = some (.pointer (some ⟨x.1, 0, none⟩))) (hg : w.heap.size ≤ ga) => step_sync B p D L m1 m2 fv ov ga (fun w' => (∃ rv, Lies B w' p (setF (stepD D) i ⟨f.now, f.now, []⟩) (L.set i (x.1, rv)) m1 m2 fv ov) ∧ Turn B U w') U (hl.below hb) h0 hk.armed1 hk.armed0 hk.steps0 (by omega)
        (fun w1 hl1 hb1 ht1 => by
          have hpl := blk_lt hl.obj
          have ca1 := (World.cell?_of_block (w := U) (w' := w1) (a := ⟨ga, 0, none⟩) (hb1.2 ga (World.block_lt_of_cell? U _ ca) (fun e => by have := Option.some.inj e; omega))).trans ca
          refine (sync1 B p (stepD D) w1 L m1 m2 fv ov ga i x f hl1 hx hf ca1 (by omega)).mono ?_
          rintro e w3 ⟨rfl, h1, h2⟩
          exact ⟨rfl, h1, ht1.trans h2⟩))
      clear hl hE hq hi hil h0
      go_enter Tryd.func16, Tryd.ntmps16
      go_wp2_with (first
        | (go_at_call 33; refine HF.out.mono ?_; rintro e w1 ⟨rfl, hb⟩; have HB1 := Aside0.mk hb; clear hb)
        | (go_at_call 36; refine (HS.out _ _ (HB2.out _ HB1.out) ((World.cell?_alloc_new _ _ _ _).trans rfl) HB1.out.size).mono ?_; rintro e w2 ⟨rfl, ⟨rv, hl2⟩, ht2⟩; have HL2 := Aside0.mk hl2; have HT2 := Aside0.mk ht2; clear hl2 ht2))
      go_ret
      exact ⟨rfl, ⟨_, _, _, _, _, HL2.out⟩, (Turn.of_below (HB2.out _ HB1.out)).trans HT2.out⟩
end
end Go.Proofs.YtpcfnkmljchiiaaDoor.DSyn
