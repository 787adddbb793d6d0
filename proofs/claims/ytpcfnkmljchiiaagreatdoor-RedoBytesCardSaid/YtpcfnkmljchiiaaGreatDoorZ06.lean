/- Steps towards RBoth: DNam, Right, DAsk, DFil, DUsd. -/
import Derived.Test.YtpcfnkmljchiiaaGreatDoorZ05
import Derived.Test.YtpcfnkmljchiiaaGreatDoorProg
import Derived.Test.YtpcfnkmljchiiaaGreatDoorZ00
import Derived.RowKit3
import Derived.Below
import Derived.Tactics2
import Derived.LoopIn
import Derived.IntWalk
import Derived.Lib.ConvBytes
import Derived.Laws.OwnMore
import Derived.Sort.MapsRangeIn
set_option linter.unusedVariables false
set_option linter.unusedSimpArgs false
section
/- Disk.named: an open step of names. -/
namespace Go.Proofs.YtpcfnkmljchiiaaGreatDoor.DNam
open Go Go.RowKit Go.Maps Go.WideMaps Go.Proofs.YtpcfnkmljchiiaaGreatDoorW.PrintWords Go.Proofs.YtpcfnkmljchiiaaGreatDoorW.PrintLast DBase DPl DAt DEnt Go.Proofs.YtpcfnkmljchiiaaGreatDoor.Is
theorem gPower : gOf 8 = 7 := by decide
theorem cell_far2 {w : World} {q : Addr} {v : Value} (h : w.cell? q = some v) {p : Addr} (hne : q.block ≠ p.block) (u : Value) : (w.setCell p u).cell? q = some v := (cell_far hne u).trans h
set_option maxRecDepth 100000 in
set_option maxHeartbeats 4000000 in
theorem named_off (B : Bx) (p : Nat) (D : Dsk) (L : List (Nat × Value)) (m1 m2 : Nat) (fv ov : Value) (name gone : ByteArray) (file : Int) (E : Int → Addr) (w : World) (h : Lies B w p D L m1 m2 fv ov) (hE : ErrAt B w E) (h0 : D.armed = 0) :
    Calls Tryz.prog 91 #[.pointer (some ⟨p, 0, none⟩), .agg #[.string name, .string gone, .int .i64 file]] w fun en w' => en = .returned (errV E (some 8)) ∧ Lies B w' p (offD D) L m1 m2 fv ov ∧ Turn B w w' := by
  obtain ⟨files, now, sure, opn, quota, armed, off, steps⟩ := D
  simp only at h0
  subst h0
  have hp := blk_lt h.obj
  have c5 : w.cell? ⟨p, 5, none⟩ = some (.int .i64 0) := (blk_cell h.obj 5).trans rfl
  have c6 : w.cell? ⟨p, 6, none⟩ = some (.bool off) := (blk_cell h.obj 6).trans rfl
  have c8 : w.cell? ⟨7, 0, none⟩ = some (.iface 212 (.pointer (some (E 8)))) := by have := hE.errs.var 8 (by simp [dErr]); rwa [gPower] at this
  have ne8 : 7 ≠ p := fun e => by
    have := (hE.lo 8 (by simp [dErr])).1
    rw [gPower] at this
    have := h.lop
    omega
  have l8 := World.block_lt_of_cell? w _ c8
  simp only at l8
  have c8b : ∀ u, (w.setCell ⟨p, 6, none⟩ u).cell? ⟨7, 0, none⟩ = some (.iface 212 (.pointer (some (E 8)))) := fun u => cell_far2 c8 (show 7 ≠ p from ne8) u
  have f6 : w.frozen? ⟨p, 6, none⟩ = false := blk_frozen h.obj 6
  have HO := Aside0.mk h
  clear h hE
  go_enter Tryz.func91, Tryz.ntmps91
  go_wp2
  go_ret
  refine ⟨rfl, ?_, ?_⟩
  · have h1 := HO.out.reobj (w' := w.setCell ⟨p, 6, none⟩ (.bool true)) quota 0 true steps (blk_put HO.out.obj 6 _ rfl) (But.setCell w ⟨p, 6, none⟩ _)
    refine (h1.below ((Below.refl _ _).alloc (Nat.le_refl _) (.cells #[.pointer (some ⟨p, 0, none⟩)] 25))).below ?_
    exact (Below.refl _ _).alloc (Nat.le_refl _) _
  · exact (((Turn.refl B w).setCell HO.out.obj rfl HO.out.lop 6 _).alloc _).alloc _
theorem infoE : (Tryz.prog.info? 111).map (fun i => (i.zero, i.size, i.bytes)) = some (some (.agg #[.string ByteArray.empty, .string ByteArray.empty, .int .i64 0]), 3, 40) := by kernel_rfl
set_option maxRecDepth 100000 in
set_option maxHeartbeats 4000000 in
theorem named1 (B : Bx) (p ga gb : Nat) (D : Dsk) (L : List (Nat × Value)) (m1 m2 : Nat) (fv ov : Value) (name gone : ByteArray) (file : Int) (W : World) (h : Lies B W p D L m1 m2 fv ov)
    (ca : W.cell? ⟨ga, 0, none⟩ = some (.pointer (some ⟨p, 0, none⟩))) (cb : W.heap[gb]? = some (.cells #[.string name, .string gone, .int .i64 file] 111 (0, 0)))
    (hpa : p < ga) (hpb : p < gb) (hma : m1 ≠ ga) (hmb : m1 ≠ gb) (hoa : some ga ≠ ov.ownBlock) (hob : some gb ≠ ov.ownBlock)
    (he1 : name.size ≤ 24) (he2 : gone.size ≤ 24) (hf : file ≤ 9223372036854775807) (hf0 : -9223372036854775808 ≤ file) (hN : D.now.length < 1099511627776) (hO : D.opn.length < 1099511627776) :
    Calls Tryz.prog 128 #[.pointer (some ⟨gb, 0, none⟩), .pointer (some ⟨ga, 0, none⟩)] W fun en w' => en = .returned (.tuple #[]) ∧ (∃ ov', Lies B w' p (addE D ⟨name, gone, file⟩) L m1 m2 fv ov') ∧ Turn B W w' := by
  have cp1 : W.cell? ⟨p, 1, none⟩ = some (.map (some m1)) := (blk_cell h.obj 1).trans rfl
  have cp3 : W.cell? ⟨p, 3, none⟩ = some ov := (blk_cell h.obj 3).trans rfl
  have cb0 : W.cell? ⟨gb, 0, none⟩ = some (.string name) := (blk_cell cb 0).trans rfl
  have cb1 : W.cell? ⟨gb, 1, none⟩ = some (.string gone) := (blk_cell cb 1).trans rfl
  have cb2 : W.cell? ⟨gb, 2, none⟩ = some (.int .i64 file) := (blk_cell cb 2).trans rfl
  have HN := Aside0.mk (ent_calls0 name gone file he1 he2 hf hf0 m1 D.now)
  have HL := Aside0.mk (show D.now.length < 9223372036854775807 by omega)
  have HO := Aside0.mk h
  have HC := Aside0.mk cb
  clear h cb
  go_enter Tryz.func128, Tryz.ntmps128
  go_wp2
  refine start_ (n := 6) (S := fun w' => w'.cell? ⟨gb, 0, none⟩ = some (.string name) ∧ w'.cell? ⟨gb, 1, none⟩ = some (.string gone) ∧ w'.cell? ⟨gb, 2, none⟩ = some (.int .i64 file) ∧ w'.cell? ⟨ga, 0, none⟩ = some (.pointer (some ⟨p, 0, none⟩)) ∧ w'.cell? ⟨p, 1, none⟩ = some (.map (some m1))) (ds := []) #[ff,ff,ff,ff,ff,ff] (by kernel_rfl) rfl rfl ⟨cb0, cb1, cb2, ca, cp1⟩ (fun hHeld => ?_)
  refine take_ (i := 0) (N := some 2) (v := ?_) (a' := ?_) #[tt,ff,ff,ff,ff,ff] rfl rfl (by kernel_rfl) (fun _ _ _ h => h) (Or.inl ⟨by rfl, ?_⟩) hHeld ?_ ?_
  rotate_left
  · rintro w' ⟨s0, s1, s2, s3, s4⟩
    go_simp
    with_reducible rfl
  rotate_left
  · simp only [Act.put, pkA, pkB, pkC, i64_w, i32_w]
    rfl
  refine take_ (i := 1) (N := some 3) (v := ?_) (a' := ?_) #[tt,tt,ff,ff,ff,ff] rfl rfl (by kernel_rfl) (fun _ _ _ h => h) (Or.inl ⟨by rfl, ?_⟩) hHeld ?_ ?_
  rotate_left
  · rintro w' ⟨s0, s1, s2, s3, s4⟩
    go_simp
    with_reducible rfl
  rotate_left
  · simp only [Act.put, pkA, pkB, pkC, i64_w, i32_w]
    rfl
  refine pure_ (i := 2) (N := some 4) (v := ?_) (a' := ?_) #[tt,tt,tt,ff,ff,ff] rfl rfl (by kernel_rfl) (fun _ _ _ h => h) (Or.inl ⟨by rfl, ?_⟩) ?_ ?_
  rotate_left
  · intro w'
    go_simp
    with_reducible rfl
  rotate_left
  · simp only [Act.put, pkA, pkB, pkC, i64_w, i32_w]
    rfl
  refine pure_ (i := 3) (N := some 5) (v := ?_) (a' := ?_) #[tt,tt,tt,tt,ff,ff] rfl rfl (by kernel_rfl) (fun _ _ _ h => h) (Or.inl ⟨by rfl, ?_⟩) ?_ ?_
  rotate_left
  · intro w'
    go_simp
    with_reducible rfl
  rotate_left
  · simp only [Act.put, pkA, pkB, pkC, i64_w, i32_w]
    rfl
  refine take_ (i := 4) (N := some 6) (v := ?_) (a' := ?_) #[tt,tt,tt,tt,tt,ff] rfl rfl (by kernel_rfl) (fun _ _ _ h => h) (Or.inl ⟨by rfl, ?_⟩) hHeld ?_ ?_
  rotate_left
  · rintro w' ⟨s0, s1, s2, s3, s4⟩
    go_simp
    with_reducible rfl
  rotate_left
  · simp only [Act.put, pkA, pkB, pkC, i64_w, i32_w]
    rfl
  refine one_ (i := 5) (N := some 7) #[tt,tt,tt,tt,tt,tt] rfl rfl (by kernel_rfl) (by decide) (fun K hK => ?_)
  refine goes_ Tryz.func65 (by kernel_rfl) rfl #[.agg #[.string name, .string gone, .int .i64 file], .map (some m1)] (by rfl) rfl rfl (by simp only [List.map_toArray, List.map_cons, List.map_nil]; rfl) ?_
  with_reducible refine (HN.out W.drew (NamesAt.same HO.out.now rfl) HL.out).mono ?_
  rintro e w1 ⟨rfl, hn1, hg1⟩
  refine ⟨_, rfl, ?_⟩
  have k := fun (g i : Nat) (v : Value) (hc : W.cell? ⟨g, i, none⟩ = some v) (hne : some g ≠ some m1) => hg1.cell (a := ⟨g, i, none⟩) (v := v) hc hne
  have npm := HO.out.nep HO.out.now
  have cb0 := k gb 0 _ cb0 (fun e => hmb (Option.some.inj e).symm)
  have cb1 := k gb 1 _ cb1 (fun e => hmb (Option.some.inj e).symm)
  have cb2 := k gb 2 _ cb2 (fun e => hmb (Option.some.inj e).symm)
  have ca := k ga 0 _ ca (fun e => hma (Option.some.inj e).symm)
  have cp1 := k p 1 _ cp1 npm.symm
  have cp3 := k p 3 _ cp3 npm.symm
  have HO1 := Aside0.mk (HO.out.drew.renow hn1 hg1)
  have HT1 := Aside0.mk ((Turn.refl B W).drew.names (HO.out.now) HO.out.lo1 hg1)
  have HC1 := Aside0.mk (blk_grown (w := W.drew) HC.out hg1 (fun e => hmb (Option.some.inj e).symm))
  clear k npm hn1 hg1
  refine hK.out _ _ ⟨cb0, cb1, cb2, ca, cp1⟩ (fun hHeld => ?_)
  clear hK K
  refine norm_ (a' := ?_) ?_ ?_
  rotate_left
  · show Act.put _ (some 7) _ = _
    simp only [Act.put, pkA, pkB, pkC, i64_w, i32_w]
    rfl
  refine done_ (by kernel_rfl) ?_
  go_wp2
  have HT2 := Aside0.mk HT1.out.drew
  have HO2 := Aside0.mk HO1.out.drew
  have HC2 := Aside0.mk (show w1.drew.heap[gb]? = some (.cells #[.string name, .string gone, .int .i64 file] 111 (0, 0)) from HC1.out)
  clear HT1 HO1 HC1 HC HO
  refine start_ (n := 11) (S := fun w' => w'.cell? ⟨gb, 0, none⟩ = some (.string name) ∧ w'.cell? ⟨gb, 1, none⟩ = some (.string gone) ∧ w'.cell? ⟨gb, 2, none⟩ = some (.int .i64 file) ∧ w'.cell? ⟨ga, 0, none⟩ = some (.pointer (some ⟨p, 0, none⟩)) ∧ w'.cell? ⟨p, 3, none⟩ = some ov) (ds := [10]) #[ff,ff,ff,ff,ff,ff,ff,ff,ff,ff,ff] (by kernel_rfl) rfl rfl ⟨cb0, cb1, cb2, ca, cp3⟩ (fun hHeld => ?_)
  generalize w1.drew = w2 at HT2 HO2 HC2 hHeld ⊢
  have hg3 := blk_lt HC2.out
  have hHeld0 := hHeld
  refine take_ (i := 0) (N := some 8) (v := ?_) (a' := ?_) #[tt,ff,ff,ff,ff,ff,ff,ff,ff,ff,ff] rfl rfl (by kernel_rfl) (fun _ _ _ h => h) (Or.inl ⟨by rfl, ?_⟩) hHeld ?_ ?_
  rotate_left
  · rintro w' ⟨s0, s1, s2, s3, s4⟩
    go_simp
    with_reducible rfl
  rotate_left
  · simp only [Act.put, pkA, pkB, pkC, i64_w, i32_w]
    rfl
  refine take_ (i := 1) (N := some 9) (v := ?_) (a' := ?_) #[tt,tt,ff,ff,ff,ff,ff,ff,ff,ff,ff] rfl rfl (by kernel_rfl) (fun _ _ _ h => h) (Or.inl ⟨by rfl, ?_⟩) hHeld ?_ ?_
  rotate_left
  · rintro w' ⟨s0, s1, s2, s3, s4⟩
    go_simp
    with_reducible rfl
  rotate_left
  · simp only [Act.put, pkA, pkB, pkC, i64_w, i32_w]
    rfl
  refine pure_ (i := 2) (N := some 10) (v := ?_) (a' := ?_) #[tt,tt,tt,ff,ff,ff,ff,ff,ff,ff,ff] rfl rfl (by kernel_rfl) (fun _ _ _ h => h) (Or.inl ⟨by rfl, ?_⟩) ?_ ?_
  rotate_left
  · intro w'
    go_simp
    with_reducible rfl
  rotate_left
  · simp only [Act.put, pkA, pkB, pkC, i64_w, i32_w]
    rfl
  refine pure_ (i := 3) (N := some 11) (v := ?_) (a' := ?_) #[tt,tt,tt,tt,ff,ff,ff,ff,ff,ff,ff] rfl rfl (by kernel_rfl) (fun _ _ _ h => h) (Or.inl ⟨by rfl, ?_⟩) ?_ ?_
  rotate_left
  · intro w'
    go_simp
    with_reducible rfl
  rotate_left
  · simp only [Act.put, pkA, pkB, pkC, i64_w, i32_w]
    rfl
  refine take_ (i := 4) (N := some 12) (v := ?_) (a' := ?_) #[tt,tt,tt,tt,tt,ff,ff,ff,ff,ff,ff] rfl rfl (by kernel_rfl) (fun _ _ _ h => h) (Or.inl ⟨by rfl, ?_⟩) hHeld ?_ ?_
  rotate_left
  · rintro w' ⟨s0, s1, s2, s3, s4⟩
    go_simp
    with_reducible rfl
  rotate_left
  · simp only [Act.put, pkA, pkB, pkC, i64_w, i32_w]
    rfl
  refine take_ (i := 5) (N := some 13) (v := ?_) (a' := ?_) #[tt,tt,tt,tt,tt,tt,ff,ff,ff,ff,ff] rfl rfl (by kernel_rfl) (fun _ _ _ h => h) (Or.inl ⟨by rfl, ?_⟩) hHeld ?_ ?_
  rotate_left
  · rintro w' ⟨s0, s1, s2, s3, s4⟩
    go_simp
    with_reducible rfl
  rotate_left
  · simp only [Act.put, pkA, pkB, pkC, i64_w, i32_w]
    rfl
  refine one_ (i := 6) (N := some 14) #[tt,tt,tt,tt,tt,tt,tt,ff,ff,ff,ff] rfl rfl (by kernel_rfl) (by decide) (fun K hK => ?_)
  refine value_ (w1 := ?_) (v := ?_) (by rfl) rfl ?_ ?_
  rotate_left 2
  · go_simp
    constructor
    · rfl
    · rfl
  have k := fun (g i : Nat) (v : Value) (hc : w2.cell? ⟨g, i, none⟩ = some v) => (((Below.refl _ w2).alloc (Nat.le_refl _) (.cells #[.string name, .string gone, .int .i64 file] 111)).cell (p := ⟨g, i, none⟩) (World.block_lt_of_cell? w2 _ hc)).trans hc
  refine hK.out _ _ ⟨(k _ _ _ hHeld.1), (k _ _ _ hHeld.2.1), (k _ _ _ hHeld.2.2.1), (k _ _ _ hHeld.2.2.2.1), (k _ _ _ hHeld.2.2.2.2)⟩ (fun hHeld => ?_)
  clear hK K
  refine norm_ (a' := ?_) ?_ ?_
  rotate_left
  · show Act.put _ (some 14) _ = _
    simp only [Act.put, pkA, pkB, pkC, i64_w, i32_w]
    rfl
  refine one_ (i := 7) (N := some 15) #[tt,tt,tt,tt,tt,tt,tt,tt,ff,ff,ff] rfl rfl (by kernel_rfl) (by decide) (fun K hK => ?_)
  refine Kd.R_append_step kEnt (w0 := w2) B (by rfl) (.tmp 12) (.tmp 14) 85 111 (.agg #[.string ByteArray.empty, .string ByteArray.empty, .int .i64 0]) 40 rfl Tryz.underlying85 infoE rfl (by decide) (by omega) ov D.opn ⟨name, gone, file⟩ [.string name, .string gone, .int .i64 file] (fun _ => True) (fun _ => False) rfl rfl ?aP (fun _ h => h.elim) (fun _ _ => trivial) ?aO (Below.refl _ _) ?aS ?aL ?_
  case aP => exact ⟨[.string name], [.string gone, .int .i64 file], rfl, rfl, [.string gone], [.int .i64 file], rfl, rfl, rfl⟩
  case aO => exact HO2.out.opn
  case aS => have := HO2.out.lop; have := blk_lt HO2.out.obj; omega
  case aL => omega
  intro v15 w3 ho hb hg hat
  obtain ⟨A15, cp15, rfl⟩ := Kd.R_slice ho
  obtain ⟨inner, how⟩ := own_of HO2.out.opn
  have op1 : some p ≠ ov.ownBlock := fun e => by obtain ⟨cs, hc⟩ := own_typed how p e.symm; rw [HO2.out.obj] at hc; cases hc
  have k := fun (g i : Nat) (v : Value) (hc : w2.cell? ⟨g, i, none⟩ = some v) (hne : some g ≠ ov.ownBlock) => hg.cell (a := ⟨g, i, none⟩) (v := v) hc hne
  have d0 := hHeld0.1
  have d1 := hHeld0.2.1
  have d2 := hHeld0.2.2.1
  have d3 := hHeld0.2.2.2.1
  have d4 := hHeld0.2.2.2.2
  have e0 := k _ _ _ d0 hob
  have e1 := k _ _ _ d1 hob
  have e2 := k _ _ _ d2 hob
  have e3 := k _ _ _ d3 hoa
  have e4 := k _ _ _ d4 op1
  have fz : w3.frozen? ⟨p, 3, none⟩ = false := blk_frozen ((But.grown hg).obj HO2.out.obj op1) 3
  have HE3 := Aside0.mk ho
  have HG3 := Aside0.mk hg
  have HP3 := Aside0.mk ((But.grown hg).obj HO2.out.obj op1)
  clear ho hb hg hat how op1 k d0 d1 d2 d3 d4
  refine hK.out _ _ ⟨e0, e1, e2, e3, e4⟩ (fun hHeld => ?_)
  clear hK K
  refine norm_ (a' := ?_) ?_ ?_
  rotate_left
  · show Act.put _ (some 15) _ = _
    simp only [Act.put, pkA, pkB, pkC, i64_w, i32_w]
    rfl
  refine pure_ (i := 8) (N := some 16) (v := ?_) (a' := ?_) #[tt,tt,tt,tt,tt,tt,tt,tt,tt,ff,ff] rfl rfl (by kernel_rfl) (fun _ _ _ h => h) (Or.inl ⟨by rfl, ?_⟩) ?_ ?_
  rotate_left
  · intro w'
    go_simp
    with_reducible rfl
  rotate_left
  · simp only [Act.put, pkA, pkB, pkC, i64_w, i32_w]
    rfl
  refine pure_ (i := 9) (N := some 17) (v := ?_) (a' := ?_) #[tt,tt,tt,tt,tt,tt,tt,tt,tt,tt,ff] rfl rfl (by kernel_rfl) (fun _ _ _ h => h) (Or.inl ⟨by rfl, ?_⟩) ?_ ?_
  rotate_left
  · intro w'
    go_simp
    with_reducible rfl
  rotate_left
  · simp only [Act.put, pkA, pkB, pkC, i64_w, i32_w]
    rfl
  refine last_ (i := 10) (N := none) #[tt,tt,tt,tt,tt,tt,tt,tt,tt,tt,tt] rfl rfl (by kernel_rfl) (by decide) (fun K hK => ?_)
  refine skip_ (w1 := ?_) (by rfl) rfl ?_ ?_
  rotate_left
  · go_simp
    rfl
  refine hK.out _ _ ?_
  clear hK K
  refine done_ (by kernel_rfl) ?_
  go_end0
  have hE : EntsAt B w3 (.slice A15 (D.opn.length + 1) cp15) (D.opn ++ [⟨name, gone, file⟩]) := by
    have h5 := HE3.out
    rw [show (D.opn ++ [(⟨name, gone, file⟩ : Ent)]).length = D.opn.length + 1 by simp] at h5
    exact h5
  refine ⟨rfl, ⟨_, HO2.out.reopn hE HG3.out⟩, ?_⟩
  obtain ⟨inner, how⟩ := own_of HO2.out.opn
  exact (HT2.out.own how rfl HG3.out).setCell HP3.out rfl HO2.out.lop 3 _
theorem named_fin (B : Bx) (p : Nat) (D : Dsk) (L : List (Nat × Value)) (m1 m2 : Nat) (fv ov : Value) (name gone : ByteArray) (file : Int) (W : World) (h : Lies B W p D L m1 m2 fv ov)
    (he1 : name.size ≤ 24) (he2 : gone.size ≤ 24) (hf : file ≤ 9223372036854775807) (hf0 : -9223372036854775808 ≤ file) (hN : D.now.length < 1099511627776) (hO : D.opn.length < 1099511627776) :
    Calls Tryz.prog 128 #[.pointer (some ⟨W.heap.size + 1, 0, none⟩), .pointer (some ⟨W.heap.size, 0, none⟩)] ((W.alloc (.cells #[.pointer (some ⟨p, 0, none⟩)] 25)).alloc (.cells #[.string name, .string gone, .int .i64 file] 111))
      fun en w' => en = .returned (.tuple #[]) ∧ (∃ ov', Lies B w' p (addE D ⟨name, gone, file⟩) L m1 m2 fv ov') ∧ Turn B W w' := by
  have hb : Below W.heap.size W ((W.alloc (.cells #[.pointer (some ⟨p, 0, none⟩)] 25)).alloc (.cells #[.string name, .string gone, .int .i64 file] 111)) := ((Below.refl _ W).alloc (Nat.le_refl _) _).alloc (by simp) _
  have hp := blk_lt h.obj
  have hm := h.now.lt
  obtain ⟨inner, how⟩ := own_of h.opn
  refine (named1 B p W.heap.size (W.heap.size + 1) D L m1 m2 fv ov name gone file _ (h.below hb) ?_ ?_ hp (by omega) (by omega) (by omega) (own_ne_new how 0) (own_ne_new how 1) he1 he2 hf hf0 hN hO).mono ?_
  · have e : ((W.alloc (.cells #[.pointer (some ⟨p, 0, none⟩)] 25)).alloc (.cells #[.string name, .string gone, .int .i64 file] 111)).heap[W.heap.size]? = some (.cells #[.pointer (some ⟨p, 0, none⟩)] 25 (0, 0)) :=
      (Below.heap_alloc _ _ _ (by simp)).trans (heap_alloc_new W _)
    exact (blk_cell e 0).trans rfl
  · have e := heap_alloc_new (W.alloc (.cells #[.pointer (some ⟨p, 0, none⟩)] 25)) (.cells #[.string name, .string gone, .int .i64 file] 111)
    simpa using e
  · rintro e w1 ⟨rfl, hl, ht⟩
    exact ⟨rfl, hl, (Turn.of_below hb).trans ht⟩
set_option maxRecDepth 100000 in
set_option maxHeartbeats 4000000 in
theorem named_on (B : Bx) (p : Nat) (D : Dsk) (L : List (Nat × Value)) (m1 m2 : Nat) (fv ov : Value) (name gone : ByteArray) (file : Int) (w : World) (h : Lies B w p D L m1 m2 fv ov) (h0 : D.armed ≠ 0) (ha : D.armed ≤ 9223372036854775807) (ha0 : -1 ≤ D.armed)
    (hs0 : 0 ≤ D.steps) (hs : D.steps ≤ 1099511627776) (he1 : name.size ≤ 24) (he2 : gone.size ≤ 24) (hf : file ≤ 9223372036854775807) (hf0 : -9223372036854775808 ≤ file) (hN : D.now.length < 1099511627776) (hO : D.opn.length < 1099511627776) :
    Calls Tryz.prog 91 #[.pointer (some ⟨p, 0, none⟩), .agg #[.string name, .string gone, .int .i64 file]] w fun en w' => en = .returned .nilIface ∧ (∃ ov', Lies B w' p (addE (stepD D) ⟨name, gone, file⟩) L m1 m2 fv ov') ∧ Turn B w w' := by
  obtain ⟨files, now, sure, opn, quota, armed, off, steps⟩ := D
  simp only at h0 ha ha0 hs0 hs hN hO
  have hp := blk_lt h.obj
  have c5 : w.cell? ⟨p, 5, none⟩ = some (.int .i64 armed) := (blk_cell h.obj 5).trans rfl
  have c7 : w.cell? ⟨p, 7, none⟩ = some (.int .i64 steps) := (blk_cell h.obj 7).trans rfl
  have f5 : w.frozen? ⟨p, 5, none⟩ = false := blk_frozen h.obj 5
  have f7 : w.frozen? ⟨p, 7, none⟩ = false := blk_frozen h.obj 7
  have HO := Aside0.mk h
  clear h
  have t0 : (armed == 0) = false := by simpa using h0
  have FIN := Aside0.mk (fun (W0 : World) (ar : Int) (st : Int) (hl : Lies B W0 p ⟨files, now, sure, opn, quota, ar, off, st⟩ L m1 m2 fv ov) =>
    named_fin B p ⟨files, now, sure, opn, quota, ar, off, st⟩ L m1 m2 fv ov name gone file W0 hl he1 he2 hf hf0 hN hO)
  clear hN hO he1 he2 hf hf0
  by_cases hpos : 0 < armed
  · have t1 : decide (0 < armed) = true := decide_eq_true hpos
    have HD : stepD ⟨files, now, sure, opn, quota, armed, off, steps⟩ = ⟨files, now, sure, opn, quota, armed - 1, off, steps + 1⟩ := by simp only [stepD]; rw [if_pos hpos]
    rw [HD]
    have HW := Aside0.mk (show Lies B ((w.setCell ⟨p, 5, none⟩ (.int .i64 (armed - 1))).setCell ⟨p, 7, none⟩ (.int .i64 (steps + 1))) p ⟨files, now, sure, opn, quota, armed - 1, off, steps + 1⟩ L m1 m2 fv ov from HO.out.reobj _ _ _ _ (blk_put (blk_put HO.out.obj 5 _ rfl) 7 _ rfl) ((But.setCell w ⟨p, 5, none⟩ _).trans (But.setCell _ ⟨p, 7, none⟩ _)))
    have HT := Aside0.mk (show Turn B w ((w.setCell ⟨p, 5, none⟩ (.int .i64 (armed - 1))).setCell ⟨p, 7, none⟩ (.int .i64 (steps + 1))) from ((Turn.refl B w).setCell HO.out.obj rfl HO.out.lop 5 _).setCell (blk_put HO.out.obj 5 _ rfl) rfl HO.out.lop 7 _)
    have hsz : ((w.setCell ⟨p, 5, none⟩ (.int .i64 (armed - 1))).setCell ⟨p, 7, none⟩ (.int .i64 (steps + 1))).heap.size = w.heap.size := by simp [World.setCell]
    clear HD
    go_enter Tryz.func91, Tryz.ntmps91
    go_wp2_with (first | (go_at_call 92; go_in))
    generalize (w.setCell ⟨p, 5, none⟩ (.int .i64 (armed - 1))).setCell ⟨p, 7, none⟩ (.int .i64 (steps + 1)) = W0 at HW HT hsz ⊢
    rw [← hsz]
    have HB := Aside0.mk (Below.refl W0.heap.size W0)
    go_wp2_with (go_at_call 128; refine (FIN.out W0 _ _ HW.out).mono ?_; rintro e w1 ⟨rfl, ⟨ov1, hl1⟩, ht1⟩; have HL1 := Aside0.mk hl1; have HT1 := Aside0.mk ht1; clear hl1 ht1)
    go_ret
    exact ⟨rfl, ⟨_, HL1.out⟩, HT.out.trans HT1.out⟩
  · have t1 : decide (0 < armed) = false := decide_eq_false hpos
    have HD : stepD ⟨files, now, sure, opn, quota, armed, off, steps⟩ = ⟨files, now, sure, opn, quota, armed, off, steps + 1⟩ := by simp only [stepD]; rw [if_neg hpos]
    rw [HD]
    have HW := Aside0.mk (show Lies B (w.setCell ⟨p, 7, none⟩ (.int .i64 (steps + 1))) p ⟨files, now, sure, opn, quota, armed, off, steps + 1⟩ L m1 m2 fv ov from HO.out.reobj _ _ _ _ (blk_put HO.out.obj 7 _ rfl) (But.setCell w ⟨p, 7, none⟩ _))
    have HT := Aside0.mk (show Turn B w (w.setCell ⟨p, 7, none⟩ (.int .i64 (steps + 1))) from (Turn.refl B w).setCell HO.out.obj rfl HO.out.lop 7 _)
    have hsz : (w.setCell ⟨p, 7, none⟩ (.int .i64 (steps + 1))).heap.size = w.heap.size := by simp [World.setCell]
    clear HD
    go_enter Tryz.func91, Tryz.ntmps91
    go_wp2_with (first | (go_at_call 92; go_in))
    generalize w.setCell ⟨p, 7, none⟩ (.int .i64 (steps + 1)) = W0 at HW HT hsz ⊢
    rw [← hsz]
    have HB := Aside0.mk (Below.refl W0.heap.size W0)
    go_wp2_with (go_at_call 128; refine (FIN.out W0 _ _ HW.out).mono ?_; rintro e w1 ⟨rfl, ⟨ov1, hl1⟩, ht1⟩; have HL1 := Aside0.mk hl1; have HT1 := Aside0.mk ht1; clear hl1 ht1)
    go_ret
    exact ⟨rfl, ⟨_, HL1.out⟩, HT.out.trans HT1.out⟩
theorem now_len {D : Dsk} (h : D.Ok) : (D.now.length : Int) ≤ D.steps := by
  rw [h.nowE]
  have := len_goAll D.opn D.sure
  have := h.cntN
  omega
theorem named_calls (B : Bx) (p : Nat) (D : Dsk) (e : Ent) (E : Int → Addr) (w : World) (h : DiskAt B w p D) (hE : ErrAt B w E) (hk : D.Ok) (hs : D.steps ≤ 1000000000000) (he1 : e.name.size ≤ 24) (he2 : e.gone.size ≤ 24) (hf0 : -1 ≤ e.file) (hf : e.file ≤ 1099511627776) :
    Calls Tryz.prog 91 #[.pointer (some ⟨p, 0, none⟩), entV e] w fun en w' => en = .returned (errV E (namedD D e).1) ∧ DiskAt B w' p (namedD D e).2 ∧ Turn B w w' := by
  obtain ⟨L, m1, m2, fv, ov, hl⟩ := h
  obtain ⟨name, gone, file⟩ := e
  by_cases h0 : D.armed = 0
  · refine (named_off B p D L m1 m2 fv ov name gone file E w hl hE h0).mono ?_
    rintro en w' ⟨rfl, h1, h2⟩
    rw [namedD, if_pos h0]
    exact ⟨rfl, ⟨_, _, _, _, _, h1⟩, h2⟩
  · have h1 := now_len hk
    have h2 := hk.cntN
    refine (named_on B p D L m1 m2 fv ov name gone file w hl h0 hk.armed1 hk.armed0 hk.steps0 (by omega) he1 he2 (by simp only at hf; omega) (by simp only at hf0; omega) (by omega) (by omega)).mono ?_
    rintro en w' ⟨rfl, ⟨ov1, h3⟩, h4⟩
    rw [namedD, if_neg h0]
    exact ⟨rfl, ⟨_, _, _, _, _, h3⟩, h4⟩
end Go.Proofs.YtpcfnkmljchiiaaGreatDoor.DNam
end
section
/- Which names files may have: the document's Right, the disk's right. -/
namespace Go.Proofs.YtpcfnkmljchiiaaGreatDoor.Right
open Go Go.RowKit Go.Proofs.YtpcfnkmljchiiaaGreatDoorW.PrintWords
/-- May a byte stand in a name? -/
def okI (x : Int) : Bool := decide (97 ≤ x ∧ x ≤ 122 ∨ 48 ≤ x ∧ x ≤ 57 ∨ x = 45 ∨ x = 46)
def okC (c : UInt8) : Bool := okI (c.toNat : Int)
/-- May it be a name? -/
def rightB (s : ByteArray) : Bool := s.data.toList.all okC && (decide (0 < s.size) && decide (s.size ≤ 24))
theorem all_take (s : ByteArray) (m : Nat) (h : m < s.size) : (s.data.toList.take (m + 1)).all okC = ((s.data.toList.take m).all okC && okC (s[m]'h)) := by
  have hgl : m < s.data.toList.length := by simpa using h
  have hget : s.data.toList[m]? = some (s[m]'h) := by rw [List.getElem?_eq_getElem hgl]; rfl
  rw [List.take_add_one, hget, List.all_append]
  simp
theorem all_no (s : ByteArray) (m : Nat) (h : m < s.size) (hn : okC (s[m]'h) = false) : s.data.toList.all okC = false := by
  have hgl : m < s.data.toList.length := by simpa using h
  rw [List.all_eq_false]
  exact ⟨s.data.toList[m]'hgl, List.getElem_mem hgl, by rw [show s.data.toList[m]'hgl = s[m]'h from rfl, hn]; simp⟩
theorem bytes_below (w : World) (e : TypeId) (s : ByteArray) : Below w.heap.size w (Lib.bytesWorld w e s) := by
  have hg : w.grownBy (Lib.bytesWorld w e s) none := by
    refine ⟨?_, ?_, ?_, by rw [Lib.bytesWorld_size]; omega, fun k hk _ => Lib.bytesWorld_at_old w e s k hk⟩
    all_goals (simp only [Lib.bytesWorld, World.freeze]; split <;> rfl)
  exact (Below.refl _ w).grown hg (Nat.le_refl _) (fun k e => by cases e)
set_option maxRecDepth 100000 in
set_option maxHeartbeats 4000000 in
theorem right_calls (s : ByteArray) (hs : s.size < 9223372036854775807) (w : World) : Calls Tryz.prog 107 #[.string s] w fun e w' => e = .returned (.bool (rightB s)) ∧ Below w.heap.size w w' := by
  obtain ⟨r, hr⟩ : ∃ r, r = rightB s := ⟨_, rfl⟩
  have HR := Aside0.mk hr
  rw [← hr]
  clear hr
  have hcv := Lib.run_convert_string_bytes (P := Tryz.prog) w 9 32 5 s Tryz.underlying9 Tryz.underlying32 Tryz.underlying5
  obtain ⟨cap, hcap⟩ : ∃ c, c = grownCap w s.size 0 5 := ⟨_, rfl⟩
  have hcs : s.size ≤ cap := by rw [hcap]; exact grownCap_ge w _ _ _
  rw [← hcap] at hcv
  clear hcap
  have HB := Aside0.mk (bytes_below w 5 s)
  have HC := Aside0.mk (fun j hj => Lib.bytesWorld_cell w 5 s j hj)
  obtain ⟨W1, hW1⟩ : ∃ x, x = Lib.bytesWorld w 5 s := ⟨_, rfl⟩
  rw [← hW1] at hcv HB HC
  clear hW1
  go_enter Tryz.func107, Tryz.ntmps107
  go_wp2
  go_loopw [8] (fun i wr => ∃ m : Nat, m ≤ s.size ∧ i = .int .i64 m ∧ Aside0 ((s.data.toList.take m).all okC = true) ∧ wr = W1) (fun i _ => s.size - (Go.RowKit.intOf i).toNat)
  case atStart => exact ⟨0, Nat.zero_le _, rfl, ⟨by simp⟩, rfl⟩
  case round =>
    obtain ⟨m, hm, rfl, HA, rfl⟩ := hrel
    by_cases hlt : m < s.size
    · have t1 : decide ((m : Int) < (s.size : Int)) = true := decide_eq_true (by omega)
      have HT := Aside0.mk (all_take s m hlt)
      have HN := Aside0.mk (all_no s m hlt)
      have hcell := HC.out m hlt
      rw [show (s.data.toList.getD m 0) = s[m]'hlt by rw [List.getD_eq_getElem?_getD, List.getElem?_eq_getElem (by simpa using hlt)]; rfl] at hcell
      obtain ⟨x, hx⟩ : ∃ x : Int, ((s[m]'hlt).toNat : Int) = x := ⟨_, rfl⟩
      rw [hx] at hcell
      have HX := Aside0.mk (show okC (s[m]'hlt) = okI x by rw [okC, hx])
      have hw : IntKind.i64.wrap ((m : Int) + 1) = (m : Int) + 1 := IntWalk.i64_in _ ⟨by omega, by omega⟩
      clear hx
      by_cases e45 : x = 45
      · have HY : Aside0 (okI x = true) := ⟨by rw [e45]; rfl⟩
        have b45 : (x != 45) = false := by rw [e45]; rfl
        have q1 : decide (x < 97) = true := decide_eq_true (by omega)
        have q2 : decide (x < 48) = true := decide_eq_true (by omega)
        clear e45
        go_wp2
        all_goals
          go_roundw
          case rel => exact ⟨m + 1, by omega, by go_num, ⟨by rw [HT.out, HA.out, HX.out, HY.out]; rfl⟩, trivial⟩
          case measure => simp [Go.RowKit.intOf]; omega
      · by_cases e46 : x = 46
        · have HY : Aside0 (okI x = true) := ⟨by rw [e46]; rfl⟩
          have b45 : (x != 45) = true := bne_iff_ne.2 e45
          have b46 : (x != 46) = false := by rw [e46]; rfl
          have q1 : decide (x < 97) = true := decide_eq_true (by omega)
          have q2 : decide (x < 48) = true := decide_eq_true (by omega)
          clear e45 e46
          go_wp2
          all_goals
            go_roundw
            case rel => exact ⟨m + 1, by omega, by go_num, ⟨by rw [HT.out, HA.out, HX.out, HY.out]; rfl⟩, trivial⟩
            case measure => simp [Go.RowKit.intOf]; omega
        · have b45 : (x != 45) = true := bne_iff_ne.2 e45
          have b46 : (x != 46) = true := bne_iff_ne.2 e46
          have HE := Aside0.mk (And.intro e45 e46)
          clear e45 e46
          go_wp2
          all_goals first
            | (have HY : Aside0 (okI x = true) := ⟨by simp only [okI, decide_eq_true_eq]; omega⟩
               go_roundw
               case rel => exact ⟨m + 1, by omega, by go_num, ⟨by rw [HT.out, HA.out, HX.out, HY.out]; rfl⟩, trivial⟩
               case measure => simp [Go.RowKit.intOf]; omega)
            | (exfalso; rename_i hq; simp only [Bool.not_eq_eq_eq_not, Bool.not_false, decide_eq_true_eq] at hq; omega)
            | (have HZ : Aside0 (s.data.toList.all okC = false) := ⟨HN.out (HX.out.trans (by have := HE.out; simp only [okI, decide_eq_false_iff_not]; omega))⟩
               refine bodyPost_ret (v := .bool false) (by simp [results, Tryz.results107, go_sem]) rfl ⟨by rw [HR.out, rightB, HZ.out]; rfl, HB.out⟩)
    · have hms : m = s.size := by omega
      subst hms
      have t1 : decide ((s.size : Int) < (s.size : Int)) = false := decide_eq_false (by omega)
      have hall : s.data.toList.all okC = true := by
        have := HA.out
        rwa [List.take_of_length_le (by simp)] at this
      have HR2 : Aside0 (r = (decide (0 < s.size) && decide (s.size ≤ 24))) := ⟨by rw [HR.out, rightB, hall, Bool.true_and]⟩
      by_cases h0 : 0 < s.size
      · by_cases h24 : s.size ≤ 24
        · have u1 : decide (1 ≤ (s.size : Int)) = true := decide_eq_true (by omega)
          have u2 : decide ((s.size : Int) ≤ 24) = true := decide_eq_true (by omega)
          go_wp2
          go_ret
          exact ⟨by rw [HR2.out, decide_eq_true h0, decide_eq_true h24]; rfl, HB.out⟩
        · have u1 : decide (1 ≤ (s.size : Int)) = true := decide_eq_true (by omega)
          have u2 : decide ((s.size : Int) ≤ 24) = false := decide_eq_false (by omega)
          go_wp2
          go_ret
          exact ⟨by rw [HR2.out, decide_eq_true h0, decide_eq_false h24]; rfl, HB.out⟩
      · have u1 : decide (1 ≤ (s.size : Int)) = false := decide_eq_false (by omega)
        go_wp2
        go_ret
        exact ⟨by rw [HR2.out, decide_eq_false h0]; rfl, HB.out⟩
end Go.Proofs.YtpcfnkmljchiiaaGreatDoor.Right
end
section
/- Disk.ask, of one name. -/
namespace Go.Proofs.YtpcfnkmljchiiaaGreatDoor.DAsk
open Go Go.RowKit Go.Proofs.YtpcfnkmljchiiaaGreatDoorW.PrintWords Right
/-- What ask answers. -/
def askV (ep en : Value) (off : Bool) (s : ByteArray) : Value := if off = true then ep else if rightB s = true then .nilIface else en
set_option maxRecDepth 100000 in
set_option maxHeartbeats 4000000 in
theorem ask_one (p b o cp : Nat) (off : Bool) (s : ByteArray) (hs : s.size < 9223372036854775807) (ep en : Value) (w : World) (h6 : w.cell? ⟨p, 6, none⟩ = some (.bool off)) (hc : w.cell? ⟨b, o, none⟩ = some (.string s))
    (hp : w.cell? ⟨7, 0, none⟩ = some ep) (hn : w.cell? ⟨3, 0, none⟩ = some en) :
    Calls Tryz.prog 59 #[.pointer (some ⟨p, 0, none⟩), .slice (some ⟨b, o, none⟩) 1 cp] w fun e w' => e = .returned (askV ep en off s) ∧ Below w.heap.size w w' := by
  have HRT := Aside0.mk (fun W => right_calls s hs W)
  cases off with
  | true =>
    clear hc
    go_enter Tryz.func59, Tryz.ntmps59
    go_wp2
    go_ret
    exact ⟨rfl, Below.refl _ _⟩
  | false =>
    obtain ⟨r, hr⟩ : ∃ r, r = rightB s := ⟨_, rfl⟩
    have hv : askV ep en false s = if r = true then .nilIface else en := by rw [hr]; rfl
    rw [hv]
    rw [← hr] at HRT
    clear hr hv
    have HN := Aside0.mk (fun W (hb : Below w.heap.size w W) => (hb.cell (p := ⟨3, 0, none⟩) (World.block_lt_of_cell? w _ hn)).trans hn)
    go_enter Tryz.func59, Tryz.ntmps59
    go_wp2
    go_loopw [14] (fun i wr => ∃ k : Nat, k ≤ 1 ∧ i = .int .i64 k ∧ Aside0 (k = 1 → r = true) ∧ Aside0 (Below w.heap.size w wr)) (fun i _ => 1 - (Go.RowKit.intOf i).toNat)
    case atStart => exact ⟨0, by omega, rfl, ⟨fun h => by omega⟩, ⟨Below.refl _ _⟩⟩
    case round =>
      obtain ⟨k, hk, rfl, HK, HB⟩ := hrel
      have hn2 := HN.out _ HB.out
      have hc2 := (HB.out.cell (p := ⟨b, o, none⟩) (World.block_lt_of_cell? w _ hc)).trans hc
      by_cases h0 : k = 0
      · subst h0
        cases r with
        | true =>
          go_wp2_with (go_at_call 107; refine (HRT.out _).mono ?_; rintro e w1 ⟨rfl, hb1⟩; have HB1 := Aside0.mk (HB.out.trans (hb1.mono HB.out.size)); clear hb1)
          go_roundw
          case rel => exact ⟨1, by omega, by go_num, ⟨by simp⟩, HB1⟩
          case measure => simp [Go.RowKit.intOf]
        | false =>
          go_wp2_with (go_at_call 107; refine (HRT.out _).mono ?_; rintro e w1 ⟨rfl, hb1⟩; have HB1 := Aside0.mk (HB.out.trans (hb1.mono HB.out.size)); clear hb1; have hn3 := HN.out _ HB1.out)
          go_ret
          exact ⟨rfl, HB1.out⟩
      · have h1 : k = 1 := by omega
        subst h1
        have hr := HK.out rfl
        subst hr
        go_wp2
        go_ret
        exact ⟨rfl, HB.out⟩
end Go.Proofs.YtpcfnkmljchiiaaGreatDoor.DAsk
end
section
/- Disk.file: the file of a name. -/
namespace Go.Proofs.YtpcfnkmljchiiaaGreatDoor.DFil
open Go Go.RowKit Go.Maps Go.WideMaps Go.Proofs.YtpcfnkmljchiiaaGreatDoorW.PrintWords Go.Proofs.YtpcfnkmljchiiaaGreatDoorW.PrintLast DBase DPl DAt DEnt DNam Go.Proofs.YtpcfnkmljchiiaaGreatDoor.Is DAsk Right
theorem gName : gOf 4 = 3 := by decide
theorem gNone : gOf 5 = 4 := by decide
/-- What asking for a name answers. -/
def askD (D : Dsk) (s : ByteArray) : Option Int := if D.off = true then some 8 else if rightB s = true then none else some 4
theorem askV_eq (E : Int → Addr) (D : Dsk) (s : ByteArray) : askV (errV E (some 8)) (errV E (some 4)) D.off s = errV E (askD D s) := by
  unfold askV askD
  by_cases h : D.off = true
  · rw [if_pos h, if_pos h]
  · rw [if_neg h, if_neg h]
    by_cases h2 : rightB s = true
    · rw [if_pos h2, if_pos h2, errV_none]
    · rw [if_neg h2, if_neg h2]
theorem ask_calls (p b cp : Nat) (D : Dsk) {B : Bx} {L : List (Nat × Value)} {m1 m2 : Nat} {fv ov : Value} (s : ByteArray) (hs : s.size < 9223372036854775807) (E : Int → Addr) (w : World) (h : Lies B w p D L m1 m2 fv ov) (hE : ErrAt B w E) (hc : w.cell? ⟨b, 0, none⟩ = some (.string s)) :
    Calls Tryz.prog 59 #[.pointer (some ⟨p, 0, none⟩), .slice (some ⟨b, 0, none⟩) 1 cp] w fun e w' => e = .returned (errV E (askD D s)) ∧ Below w.heap.size w w' := by
  have c6 : w.cell? ⟨p, 6, none⟩ = some (.bool D.off) := (blk_cell h.obj 6).trans rfl
  have h8 := hE.errs.var 8 (by simp [dErr])
  have h4 := hE.errs.var 4 (by simp [dErr])
  rw [gPower] at h8
  rw [gName] at h4
  have := ask_one p b 0 cp D.off s hs _ _ w c6 hc h8 h4
  rw [← errV_some, ← errV_some, askV_eq] at this
  exact this
/-- What the file of a name answers but a file. -/
def fileE (D : Dsk) (s : ByteArray) : Option Int := match askD D s with | some c => some c | none => if hasN D.now s.data.toList = true then none else some 5
theorem askD_in (D : Dsk) (s : ByteArray) : ∀ c, askD D s = some c → dErr c := fun c h => by
  unfold askD at h
  split at h
  · cases h; simp [dErr]
  · split at h
    · cases h
    · cases h; simp [dErr]
theorem right_size {s : ByteArray} (h : rightB s = true) : s.size ≤ 24 := by
  unfold rightB at h
  simp only [Bool.and_eq_true, decide_eq_true_eq] at h
  exact h.2.2
theorem askD_none {D : Dsk} {s : ByteArray} (h : askD D s = none) : s.size ≤ 24 ∧ rightB s = true ∧ D.off = false := by
  unfold askD at h
  split at h
  · cases h
  · split at h
    · rename_i h1 h2
      exact ⟨right_size h2, h2, by simpa using h1⟩
    · cases h
set_option maxRecDepth 100000 in
set_option maxHeartbeats 4000000 in
theorem file_no (p : Nat) (D : Dsk) {B : Bx} {L : List (Nat × Value)} {m1 m2 : Nat} {fv ov : Value} (s : ByteArray) (hs : s.size < 9223372036854775807) (E : Int → Addr) (w : World) (h : Lies B w p D L m1 m2 fv ov) (hE : ErrAt B w E) (c : Int) (hc : fileE D s = some c) :
    Calls Tryz.prog 62 #[.pointer (some ⟨p, 0, none⟩), .string s] w fun e w' => e = .returned (.tuple #[.pointer none, errV E (some c)]) ∧ Below w.heap.size w w' := by
  have HB0 := Aside0.mk (show Below w.heap.size w (w.alloc (.cells #[.string s] 9)) from (Below.refl _ _).alloc (Nat.le_refl _) _)
  have hT0 : Turn B w (w.alloc (.cells #[.string s] 9)) := (Turn.refl B w).alloc _
  have HA := Aside0.mk (ask_calls p w.heap.size 1 D s hs E (w.alloc (.cells #[.string s] 9)) (h.below HB0.out) (hE.turn hT0) ((World.cell?_alloc_new _ _ _ _).trans rfl))
  cases hq : askD D s with
  | some c0 =>
    have e : c0 = c := by unfold fileE at hc; rw [hq] at hc; exact Option.some.inj hc
    subst e
    rw [hq] at HA
    clear hc hq h hE hT0
    rw [errV_some] at HA ⊢
    go_enter Tryz.func62, Tryz.ntmps62
    go_wp2_with (go_at_call 59; refine HA.out.mono ?_; rintro e w1 ⟨rfl, hb⟩; have HB1 := Aside0.mk hb; clear hb)
    go_ret2
    exact ⟨rfl, HB0.out.trans (HB1.out.mono (by simp))⟩
  | none =>
    rw [hq] at HA
    have hn : hasN D.now s.data.toList = false := by
      unfold fileE at hc
      rw [hq] at hc
      simp only at hc
      split at hc
      · cases hc
      · rename_i h1; simpa using h1
    have e : c = 5 := by
      unfold fileE at hc
      rw [hq] at hc
      simp only [hn] at hc
      exact (Option.some.inj hc).symm
    subst e
    have K1 := keyS s (askD_none hq).1
    have c1 : w.cell? ⟨p, 1, none⟩ = some (.map (some m1)) := (blk_cell h.obj 1).trans rfl
    have hp := blk_lt h.obj
    have HC := Aside0.mk (fun W (hb : Below w.heap.size w W) => (hb.cell (p := ⟨p, 1, none⟩) hp).trans c1)
    have HM := Aside0.mk (fun W (hb : Below w.heap.size w W) => (show W.ownsMap (H := Unit) Tryz.prog 9 (plainElem Tryz.prog 3) m1 D.now.length (nmData D.now) from h.now.below hb))
    have c6 := hE.errs.var 5 (by simp [dErr])
    rw [gNone] at c6
    have HN5 := Aside0.mk (fun W (hb : Below w.heap.size w W) => (hb.cell (p := ⟨4, 0, none⟩) (World.block_lt_of_cell? w _ c6)).trans c6)
    have hhas := nmData_has D.now s.data.toList
    rw [hn] at hhas
    have HH := Aside0.mk hhas
    clear hc hq h hE hT0 hn c1 hhas c6
    rw [errV_some]
    rw [errV_none] at HA
    go_enter Tryz.func62, Tryz.ntmps62
    go_wp2_with (first
      | (go_at_call 59; refine HA.out.mono ?_; rintro e w1 ⟨rfl, hb⟩; have HB1 := Aside0.mk (HB0.out.trans (hb.mono (by simp))); clear hb; have c1 := HC.out _ HB1.out; have c6 := HN5.out _ HB1.out)
      | (at_lookup; refine wpList_lookup_own_ok_int _ rfl _ _ 83 rfl 9 3 .i64 law Tryz.underlying83 Tryz.underlying3 (zeroE _) m1 D.now.length (nmData D.now) rfl (HM.out _ HB1.out) _ _ rfl K1 ?_; rw [HH.out]; intro c hat hwc; clear hat hwc))
    go_region
    all_goals
      go_wp2
      go_ret2
      exact ⟨rfl, HB1.out.drew⟩
theorem ptr_at {B : Nat} {W : World} {fv : Value} {l : List Nat} (h : PtrsAt B W fv l) (i : Nat) (x : Nat) (hi : l[i]? = some x) : ∃ g cp, fv = .slice (some ⟨g, 0, none⟩) l.length cp ∧ l.length ≤ cp ∧ W.cell? ⟨g, i, none⟩ = some (.pointer (some ⟨x, 0, none⟩)) := by
  obtain ⟨hl, hx⟩ := List.getElem?_eq_some_iff.1 hi
  obtain ⟨inner, ho⟩ := Kd.R_own h
  obtain ⟨A, cp, e, hcp, hC⟩ := Kd.R_reads h
  obtain ⟨g, cp2, e2, _, _⟩ := World.ownsRow.form ho (by omega)
  rw [e] at e2
  obtain ⟨ad, c, ea, hlen, hK, hcell⟩ := Kd.C_get hC x (i : Int) (by omega) (by omega)
  simp only [Value.slice.injEq, Option.some.injEq] at e2
  obtain ⟨rfl, _, rfl⟩ := e2
  obtain rfl := Option.some.inj ea
  refine ⟨g, cp, e, hcp, ?_⟩
  have hc : c = [.pointer (some ⟨x, 0, none⟩)] := by
    have : c = [.pointer (some ⟨l.getD i x, 0, none⟩)] := hK
    rw [this, List.getD_eq_getElem?_getD, hi]
    rfl
  have := hcell 0 _ (by rw [hc]; rfl)
  have e3 : ((i : Int).toNat * kPtr.sz + 0) = i := by show ((i : Int).toNat * 1 + 0) = i; omega
  rw [e3, add_plain] at this
  exact this
theorem atN_lt {D : Dsk} (h : D.Ok) {k : List UInt8} (hh : hasN D.now k = true) : ∃ i : Nat, atN D.now k = i ∧ i < D.files.length := by
  unfold hasN at hh
  unfold atN
  obtain ⟨q, hq1, hq2⟩ := List.any_eq_true.1 hh
  cases hf : D.now.find? (fun p => p.1 == k) with
  | none => exact absurd hq2 (by simpa using List.find?_eq_none.1 hf q hq1)
  | some p =>
    have hm := List.mem_of_find?_eq_some hf
    have := h.nowF p hm
    exact ⟨p.2.toNat, by simp only; omega, by omega⟩
theorem fileE_none {D : Dsk} {s : ByteArray} (h : fileE D s = none) : askD D s = none ∧ hasN D.now s.data.toList = true := by
  unfold fileE at h
  cases hq : askD D s with
  | some c => rw [hq] at h; cases h
  | none =>
    rw [hq] at h
    simp only at h
    split at h
    · rename_i h1; exact ⟨rfl, h1⟩
    · cases h
set_option maxRecDepth 100000 in
set_option maxHeartbeats 4000000 in
theorem file_ok (p : Nat) (D : Dsk) {B : Bx} {L : List (Nat × Value)} {m1 m2 : Nat} {fv ov : Value} (s : ByteArray) (hs : s.size < 9223372036854775807) (E : Int → Addr) (w : World) (h : Lies B w p D L m1 m2 fv ov) (hE : ErrAt B w E) (hc : fileE D s = none) (i : Nat) (hi : atN D.now s.data.toList = i) (x : Nat × Value) (hx : L[i]? = some x) (hLl : L.length ≤ 1000000000000) :
    Calls Tryz.prog 62 #[.pointer (some ⟨p, 0, none⟩), .string s] w fun e w' => e = .returned (.tuple #[.pointer (some ⟨x.1, 0, none⟩), .nilIface]) ∧ Below w.heap.size w w' := by
  have HB0 := Aside0.mk (show Below w.heap.size w (w.alloc (.cells #[.string s] 9)) from (Below.refl _ _).alloc (Nat.le_refl _) _)
  have hT0 : Turn B w (w.alloc (.cells #[.string s] 9)) := (Turn.refl B w).alloc _
  have HA := Aside0.mk (ask_calls p w.heap.size 1 D s hs E (w.alloc (.cells #[.string s] 9)) (h.below HB0.out) (hE.turn hT0) ((World.cell?_alloc_new _ _ _ _).trans rfl))
  obtain ⟨hq, hn⟩ := fileE_none hc
  rw [hq] at HA
  have K1 := keyS s (askD_none hq).1
  have c1 : w.cell? ⟨p, 1, none⟩ = some (.map (some m1)) := (blk_cell h.obj 1).trans rfl
  have c0 : w.cell? ⟨p, 0, none⟩ = some fv := (blk_cell h.obj 0).trans rfl
  obtain ⟨g, cp, rfl, hcp, hg⟩ := ptr_at h.ptrs i x.1 (by rw [List.getElem?_map, hx]; rfl)
  have hp := blk_lt h.obj
  have HC := Aside0.mk (fun W (hb : Below w.heap.size w W) => (hb.cell (p := ⟨p, 1, none⟩) hp).trans c1)
  have HC0 := Aside0.mk (fun W (hb : Below w.heap.size w W) => (hb.cell (p := ⟨p, 0, none⟩) hp).trans c0)
  have HCg := Aside0.mk (fun W (hb : Below w.heap.size w W) => (hb.cell (p := ⟨g, i, none⟩) (World.block_lt_of_cell? w _ hg)).trans hg)
  have HM := Aside0.mk (fun W (hb : Below w.heap.size w W) => (show W.ownsMap (H := Unit) Tryz.prog 9 (plainElem Tryz.prog 3) m1 D.now.length (nmData D.now) from h.now.below hb))
  have hhas := nmData_has D.now s.data.toList
  rw [hn] at hhas
  have HH := Aside0.mk hhas
  have hat := nmData_at D.now s.data.toList
  rw [hi] at hat
  have HAt := Aside0.mk hat
  obtain ⟨n, hnl⟩ : ∃ n, n = (L.map Prod.fst).length := ⟨_, rfl⟩
  have hil : i < n := by rw [hnl, List.length_map]; exact (List.getElem?_eq_some_iff.1 hx).1
  have hnb : n ≤ 1000000000000 := by rw [hnl, List.length_map]; exact hLl
  rw [← hnl] at HC0
  have u0 : (0 : Int) ≤ (i : Int) := by omega
  have u1 : (i : Int) < (n : Int) := by omega
  clear hc hq h hE hT0 hn c1 c0 hhas hat hi hx hnl hcp hg hp hLl
  rw [errV_none] at HA
  go_enter Tryz.func62, Tryz.ntmps62
  go_wp2_with (first
    | (go_at_call 59; refine HA.out.mono ?_; rintro e w1 ⟨rfl, hb⟩; have HB1 := Aside0.mk (HB0.out.trans (hb.mono (by simp))); clear hb; have c1 := HC.out _ HB1.out; have c0 := HC0.out _ HB1.out; have cg := HCg.out _ HB1.out)
    | (at_lookup; refine wpList_lookup_own_ok_int _ rfl _ _ 83 rfl 9 3 .i64 law Tryz.underlying83 Tryz.underlying3 (zeroE _) m1 D.now.length (nmData D.now) rfl (HM.out _ HB1.out) _ _ rfl K1 ?_; rw [HH.out]; intro c hat hwc; have ec : c = (i : Int) := (by have := hat.symm.trans HAt.out; simpa using this); subst ec; clear hat hwc))
  go_ret2
  exact ⟨rfl, HB1.out⟩
end Go.Proofs.YtpcfnkmljchiiaaGreatDoor.DFil
end
section
/- Disk.Used: how many bytes all files have. -/
namespace Go.Proofs.YtpcfnkmljchiiaaGreatDoor.DUsd
open Go Go.RowKit Go.Maps Go.WideMaps Go.Proofs.YtpcfnkmljchiiaaGreatDoorW.PrintWords Go.Proofs.YtpcfnkmljchiiaaGreatDoorW.PrintLast DBase DPl DAt DEnt DNam Go.Proofs.YtpcfnkmljchiiaaGreatDoor.Is DFil
/-- What is no longer to come. -/
def gone (sz : Int → Nat) (N : Nms) (left : Lit → Bool) : Nat := (N.map fun p => cond (left (.string p.1)) 0 (sz p.2)).sum
theorem gone_cons (sz : Int → Nat) (p : List UInt8 × Int) (N : Nms) (left : Lit → Bool) : gone sz (p :: N) left = cond (left (.string p.1)) 0 (sz p.2) + gone sz N left := by unfold gone; rw [List.map_cons, List.sum_cons]
theorem gone_congr (sz : Int → Nat) (left left' : Lit → Bool) : ∀ N : Nms, (∀ p ∈ N, left (.string p.1) = left' (.string p.1)) → gone sz N left = gone sz N left'
  | [], _ => rfl
  | p :: r, h => by rw [gone_cons, gone_cons, h p List.mem_cons_self, gone_congr sz left left' r (fun q hq => h q (List.mem_cons_of_mem _ hq))]
theorem gone_true (sz : Int → Nat) : ∀ N : Nms, gone sz N (fun _ => true) = 0
  | [] => rfl
  | p :: r => by rw [gone_cons, gone_true sz r]; rfl
theorem gone_start (sz : Int → Nat) (N : Nms) : gone sz N (Maps.has (nmData N)) = 0 := by
  rw [gone_congr sz _ (fun _ => true) N (fun p hp => by rw [nmData_has]; exact List.any_eq_true.2 ⟨p, hp, by simp⟩), gone_true]
theorem gone_end (sz : Int → Nat) (N : Nms) (left : Lit → Bool) (h : ∀ k, left k = false) : gone sz N left = (N.map fun p => sz p.2).sum := by
  unfold gone
  congr 1
  exact List.map_congr_left (fun p _ => by rw [h]; rfl)
theorem gone_le (sz : Int → Nat) (m : Nat) (hs : ∀ i, sz i ≤ m) (left : Lit → Bool) : ∀ N : Nms, gone sz N left ≤ N.length * m
  | [] => by simp [gone]
  | p :: r => by
    have h1 := gone_le sz m hs left r
    have h2 := hs p.2
    rw [gone_cons, List.length_cons, Nat.add_mul]
    cases left (.string p.1) <;> simp only [cond] <;> omega
theorem key_eq (a b : List UInt8) : (Lit.string a).sameKey (Lit.string b) = (a == b) := rfl
theorem gone_step (sz : Int → Nat) (left : Lit → Bool) (k : List UInt8) (c : Int) (hl : left (.string k) = true) : ∀ N : Nms, N.Pairwise (fun p q => p.1 ≠ q.1) → (k, c) ∈ N → gone sz N (fun z => left z && !z.sameKey (.string k)) = gone sz N left + sz c
  | [], _, h => by cases h
  | p :: r, hp, h => by
    obtain ⟨h1, h2⟩ := List.pairwise_cons.1 hp
    rw [gone_cons, gone_cons]
    by_cases e : p.1 = k
    · have hpc : p = (k, c) := by
        rcases List.mem_cons.1 h with h3 | h3
        · exact h3.symm
        · exact absurd e (h1 _ h3)
      rw [gone_congr sz (fun z => left z && !z.sameKey (.string k)) left r (fun q hq => by
        have : (Lit.string q.1).sameKey (.string k) = false := by rw [key_eq]; simpa using fun e2 => h1 q hq (e.trans e2.symm)
        simp only [this]
        simp)]
      rw [hpc]
      simp only [hl, key_eq]
      simp
      omega
    · have h3 : (k, c) ∈ r := by
        rcases List.mem_cons.1 h with h3 | h3
        · rw [← h3] at e; exact absurd rfl e
        · exact h3
      rw [gone_step sz left k c hl r h2 h3]
      have : (Lit.string p.1).sameKey (.string k) = false := by rw [key_eq]; simpa using e
      simp only [this]
      simp
      omega
theorem names_nodup {W : World} {m : Nat} {N : Nms} (h : NamesAt W m N) : N.Pairwise (fun p q => p.1 ≠ q.1) := by
  obtain ⟨es, e, hp, _⟩ := World.ownsMap.entries h law
  unfold nmData at e
  injection e with e
  subst e
  exact (List.pairwise_map.1 hp).imp (fun h e => h (by rw [e]))
theorem mem_at {N : Nms} {k : List UInt8} {c : Int} (h : ∀ zd, (nmData N).atKey (.string k) zd = .lit (.int .i64 c)) : (k, c) ∈ N := by
  have h1 := h .nil
  unfold nmData DataW.atKey at h1
  simp only [List.find?_map] at h1
  cases hf : N.find? ((fun p : Lit × DataW Unit => p.1.sameKey (Lit.string k)) ∘ fun p : List UInt8 × Int => (Lit.string p.1, (DataW.lit (.int .i64 p.2) : DataW Unit))) with
  | none => rw [hf] at h1; simp at h1
  | some p =>
    rw [hf] at h1
    have hm := List.mem_of_find?_eq_some hf
    have hs := List.find?_some hf
    simp only [Function.comp, key_eq, beq_iff_eq] at hs
    simp at h1
    obtain ⟨a, b⟩ := p
    simp only at hs h1
    subst hs
    subst h1
    exact hm
/-- A file's bytes' count, by its number. -/
def szOf (fs : List Fil) (i : Int) : Nat := match fs[i.toNat]? with | some f => f.now.length | none => 0
theorem szOf_le {D : Dsk} (h : D.Ok) (i : Int) : szOf D.files i ≤ 1073741824 := by
  unfold szOf
  cases hf : D.files[i.toNat]? with
  | none => simp
  | some f => exact (h.fil f (List.mem_of_getElem? hf)).nowL
theorem key_inv {x : ByteArray} {kl : Lit} (h : keyOf Tryz.prog 9 (.string x) = some kl) : kl = .string x.data.toList := by
  rw [keyOf_string Tryz.underlying9] at h
  unfold mapKey at h
  rw [Tryz.underlying9] at h
  simp at h
  exact h.2.symm
set_option maxRecDepth 100000 in
set_option maxHeartbeats 4000000 in
theorem used_calls (p : Nat) (D : Dsk) {B : Bx} {L : List (Nat × Value)} {m1 m2 : Nat} {fv ov : Value} (w : World) (h : Lies B w p D L m1 m2 fv ov) (hk : D.Ok) (hs : D.steps ≤ 1000000000) :
    Calls Tryz.prog 52 #[.pointer (some ⟨p, 0, none⟩)] w fun e w' => e = .returned (.int .i64 (usedD D : Nat)) ∧ Below w.heap.size w w' := by
  have c1 : w.cell? ⟨p, 1, none⟩ = some (.map (some m1)) := (blk_cell h.obj 1).trans rfl
  have c0 : w.cell? ⟨p, 0, none⟩ = some fv := (blk_cell h.obj 0).trans rfl
  have HO := Aside0.mk h
  have hm : w.ownsMap (H := Unit) Tryz.prog 9 (plainElem Tryz.prog 3) m1 D.now.length (nmData D.now) := h.now
  have HM := Aside0.mk hm
  have HNd := Aside0.mk (names_nodup h.now)
  have HSz := Aside0.mk (szOf_le hk)
  have HLen := Aside0.mk (show D.now.length ≤ 1000000000 by have := now_len hk; omega)
  have HK := Aside0.mk hk
  have HFl := Aside0.mk (show L.length ≤ 1000000000 by have := hk.cntF; have := h.files.len; omega)
  have HM0 := Aside0.mk (show w.cell? ⟨p, 0, none⟩ = some fv from c0)
  clear hm h hk hs c0
  obtain ⟨U, hU⟩ : ∃ U, U = usedD D := ⟨_, rfl⟩
  have HU := Aside0.mk hU
  rw [← hU]
  clear hU
  go_enter Tryz.func52, Tryz.ntmps52
  go_wp2_with (first
    | (at_range; refine wpList_range_own _ rfl _ 83 rfl 9 3 law Tryz.underlying83 _ m1 D.now.length _ rfl HM.out ?_; intro w0 hrg0 hg0 hs0; have HR0 := Aside0.mk hrg0; have HG0 := Aside0.mk hg0; clear hrg0 hg0 hs0))
  go_frame
  go_loopw [3] (fun n wr => ∃ (left : Lit → Bool) (cnt : Nat), Aside0 (wr.ranges Tryz.prog 9 (plainElem Tryz.prog 3) m1 w.heap.size D.now.length (nmData D.now) left cnt) ∧ Aside0 (Below w.heap.size w wr) ∧ n = .int .i64 (gone (szOf D.files) D.now left : Nat))
    (fun _ wr => wr.rangeLeft m1 w.heap.size)
  case atStart => exact ⟨_, _, HR0, ⟨(Below.refl _ _).grown HG0.out (Nat.le_refl _) (fun k hk => by cases hk)⟩, by rw [gone_start]; rfl⟩
  case round =>
    obtain ⟨left, cnt, HRg, HBw, rfl⟩ := hrel
    have c0 := (HBw.out.cell (p := ⟨p, 0, none⟩) (World.block_lt_of_cell? w _ HM0.out)).trans HM0.out
    go_wp2_with (first
      | (at_next; refine wpList_next_ranges _ rfl _ rfl 9 law (plainElem Tryz.prog 3) Value.string (Value.int .i64) (fun key kl hkey => Maps.keyOf_string_inv Tryz.underlying9 hkey) (fun v y hv => by obtain ⟨c, rfl, _⟩ := plainElem_int_inv Tryz.underlying3 hv; exact ⟨c, rfl⟩) m1 w.heap.size D.now.length _ _ _ rfl HRg.out ?_ ?_))
    · intro _ hl0
      have HL0 := Aside0.mk hl0
      clear hl0
      go_wp2
      go_ret
      exact ⟨by rw [gone_end _ _ _ HL0.out, HU.out]; rfl, HBw.out⟩
    · intro x c kl yd yp w1 cnt1 hkey hlx hwc hat hrg1 hlt hg1 hs1 hen
      obtain rfl := key_inv hkey
      obtain ⟨c2, e1, e2, _⟩ := plainElem_int_inv Tryz.underlying3 hwc
      obtain rfl : c = c2 := by simpa using e1
      obtain ⟨rfl, rfl⟩ := Prod.mk.inj e2
      have hmem := mem_at hat
      obtain ⟨n0, n1⟩ := HK.out.nowF _ hmem
      simp only at n0 n1
      obtain ⟨i, hi⟩ : ∃ i : Nat, c = i := ⟨c.toNat, by omega⟩
      subst hi
      have hil : i < L.length := by have := HO.out.files.len; omega
      obtain ⟨X, hX⟩ : ∃ X, L[i]? = some X := ⟨_, List.getElem?_eq_getElem hil⟩
      have hiF : i < D.files.length := by omega
      obtain ⟨F, hF⟩ : ∃ F, D.files[i]? = some F := ⟨_, List.getElem?_eq_getElem hiF⟩
      obtain ⟨g, cp, ef, _, hg⟩ := ptr_at HO.out.ptrs i X.1 (by rw [List.getElem?_map, hX]; rfl)
      obtain ⟨⟨nv, sv, ho, hn, _⟩, _, _⟩ := HO.out.files.each i X F hX hF
      obtain ⟨A, cpn, rfl⟩ := Kd.R_slice hn
      have hz : szOf D.files (i : Int) = F.now.length := by unfold szOf; rw [Int.toNat_natCast, hF]
      have hst := gone_step (szOf D.files) left x.data.toList i hlx D.now HNd.out hmem
      rw [hz] at hst
      have hle := gone_le (szOf D.files) 1073741824 HSz.out left D.now
      have hle2 := HSz.out i
      rw [hz] at hle2
      have hLen := HLen.out
      have hsum : IntKind.i64.wrap ((gone (szOf D.files) D.now left : Nat) + (F.now.length : Int)) = ((gone (szOf D.files) D.now left : Nat) + (F.now.length : Int)) := IntWalk.i64_in _ ⟨by omega, by have : D.now.length * 1073741824 ≤ 1000000000 * 1073741824 := Nat.mul_le_mul_right _ hLen; omega⟩
      have HST := Aside0.mk hst
      have hBw1 := HBw.out.grown hg1 HBw.out.size (fun k hk => by cases hk; exact Nat.le_refl _)
      have kc := fun (b o : Nat) (v : Value) (hc : w.cell? ⟨b, o, none⟩ = some v) => (hBw1.cell (p := ⟨b, o, none⟩) (World.block_lt_of_cell? w _ hc)).trans hc
      have d0 := kc p 0 _ HM0.out
      have d1 := kc g i _ hg
      have d2 := kc X.1 0 _ ((blk_cell ho 0).trans rfl)
      rw [ef] at d0
      have u0 : (0 : Int) ≤ (i : Int) := by omega
      have u1 : (i : Int) < ((L.map Prod.fst).length : Int) := by rw [List.length_map]; omega
      have u2 : ((L.map Prod.fst).length : Int) ≤ 1000000000 := by rw [List.length_map]; have := HFl.out; omega
      obtain ⟨nl, hnl⟩ : ∃ nl, nl = (L.map Prod.fst).length := ⟨_, rfl⟩
      rw [← hnl] at d0 u1 u2
      obtain ⟨fl, hfl⟩ : ∃ fl, fl = F.now.length := ⟨_, rfl⟩
      have HBw1 := Aside0.mk hBw1
      have HR1 := Aside0.mk hrg1
      rw [← hfl] at hsum HST d2
      clear hmem n0 n1 hil hX hiF hF ef hg ho hn hz hst hle hle2 hLen hBw1 kc hnl hfl hat hwc e1 e2 hkey hlx c0 hg1 hs1
      have HLt := Aside0.mk hlt
      have HEn := Aside0.mk hrg1.left_eq
      have HEo := Aside0.mk HRg.out.left_eq
      clear hlt hrg1
      go_wp2
      go_roundw
      case rel => exact ⟨_, cnt1, HR1, HBw1, by rw [HST.out]; go_num⟩
      case measure => rw [HEn.out, HEo.out]; exact HLt.out
end Go.Proofs.YtpcfnkmljchiiaaGreatDoor.DUsd
end
