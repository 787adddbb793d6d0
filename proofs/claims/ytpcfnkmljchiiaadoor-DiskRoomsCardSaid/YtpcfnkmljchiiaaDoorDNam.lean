/- Disk.named: an open step of names. -/
import Derived.Test.YtpcfnkmljchiiaaDoorDLie
import Derived.Test.YtpcfnkmljchiiaaDoorDEnt
import Derived.Test.YtpcfnkmljchiiaaDoorDBase
namespace Go.Proofs.YtpcfnkmljchiiaaDoor.DNam
open Go Go.RowKit Go.Maps Go.WideMaps Go.Proofs.YtpcfnkmljchiiaaDoorW.PrintWords Go.Proofs.YtpcfnkmljchiiaaDoorW.PrintLast Go.Proofs.YtpcfnkmljchiiaaDoor.DBase Go.Proofs.YtpcfnkmljchiiaaDoor.DPl Go.Proofs.YtpcfnkmljchiiaaDoor.DAt Go.Proofs.YtpcfnkmljchiiaaDoor.DEnt Go.Proofs.YtpcfnkmljchiiaaDoor.Is
set_option linter.unusedVariables false
set_option linter.unusedSimpArgs false
theorem gPower : gOf 8 = 8 := by decide
theorem cell_far2 {w : World} {q : Addr} {v : Value} (h : w.cell? q = some v) {p : Addr} (hne : q.block ≠ p.block) (u : Value) : (w.setCell p u).cell? q = some v := (cell_far hne u).trans h
set_option maxRecDepth 100000 in
set_option maxHeartbeats 4000000 in
theorem named_off (B p : Nat) (D : Dsk) (L : List (Nat × Value)) (m1 m2 : Nat) (fv ov : Value) (name gone : ByteArray) (file : Int) (E : Int → Addr) (w : World) (h : Lies B w p D L m1 m2 fv ov) (hE : ErrAt B w E) (h0 : D.armed = 0) :
    Calls Tryd.prog 31 #[.pointer (some ⟨p, 0, none⟩), .agg #[.string name, .string gone, .int .i64 file]] w fun en w' => en = .returned (errV E (some 8)) ∧ Lies B w' p (offD D) L m1 m2 fv ov ∧ Turn B w w' := by
  obtain ⟨files, now, sure, opn, quota, armed, off, steps⟩ := D
  simp only at h0
  subst h0
  have hp := blk_lt h.obj
  have c5 : w.cell? ⟨p, 5, none⟩ = some (.int .i64 0) := (blk_cell h.obj 5).trans rfl
  have c6 : w.cell? ⟨p, 6, none⟩ = some (.bool off) := (blk_cell h.obj 6).trans rfl
  have c8 : w.cell? ⟨8, 0, none⟩ = some (.iface 135 (.pointer (some (E 8)))) := by have := hE.errs.var 8 (by simp [dErr]); rwa [gPower] at this
  have ne8 : 8 ≠ p := fun e => by
    have := (hE.lo 8 (by simp [dErr])).1
    rw [gPower] at this
    have := h.lop
    omega
  have l8 := World.block_lt_of_cell? w _ c8
  simp only at l8
  have c8b : ∀ u, (w.setCell ⟨p, 6, none⟩ u).cell? ⟨8, 0, none⟩ = some (.iface 135 (.pointer (some (E 8)))) := fun u => cell_far2 c8 (show 8 ≠ p from ne8) u
  have f6 : w.frozen? ⟨p, 6, none⟩ = false := blk_frozen h.obj 6
  have HO := Aside0.mk h
  clear h hE
  go_enter Tryd.func31, Tryd.ntmps31
  go_wp2
  go_ret
  refine ⟨rfl, ?_, ?_⟩
  · have h1 := HO.out.reobj (w' := w.setCell ⟨p, 6, none⟩ (.bool true)) quota 0 true steps (blk_put HO.out.obj 6 _ rfl) (But.setCell w ⟨p, 6, none⟩ _)
    refine (h1.below ((Below.refl _ _).alloc (Nat.le_refl _) (.cells #[.pointer (some ⟨p, 0, none⟩)] 23))).below ?_
    exact (Below.refl _ _).alloc (Nat.le_refl _) _
  · exact (((Turn.refl B w).setCell HO.out.obj rfl HO.out.lop 6 _).alloc _).alloc _
theorem infoE : (Tryd.prog.info? 65).map (fun i => (i.zero, i.size, i.bytes)) = some (some (.agg #[.string ByteArray.empty, .string ByteArray.empty, .int .i64 0]), 3, 40) := by kernel_rfl
set_option maxRecDepth 100000 in
set_option maxHeartbeats 4000000 in
theorem named1 (B p ga gb : Nat) (D : Dsk) (L : List (Nat × Value)) (m1 m2 : Nat) (fv ov : Value) (name gone : ByteArray) (file : Int) (W : World) (h : Lies B W p D L m1 m2 fv ov)
    (ca : W.cell? ⟨ga, 0, none⟩ = some (.pointer (some ⟨p, 0, none⟩))) (cb : W.heap[gb]? = some (.cells #[.string name, .string gone, .int .i64 file] 65 (0, 0)))
    (hpa : p < ga) (hpb : p < gb) (hma : m1 ≠ ga) (hmb : m1 ≠ gb) (hoa : some ga ≠ ov.ownBlock) (hob : some gb ≠ ov.ownBlock)
    (he1 : name.size ≤ 24) (he2 : gone.size ≤ 24) (hf : file ≤ 9223372036854775807) (hf0 : -9223372036854775808 ≤ file) (hN : D.now.length < 1099511627776) (hO : D.opn.length < 1099511627776) :
    Calls Tryd.prog 67 #[.pointer (some ⟨gb, 0, none⟩), .pointer (some ⟨ga, 0, none⟩)] W fun en w' => en = .returned (.tuple #[]) ∧ (∃ ov', Lies B w' p (addE D ⟨name, gone, file⟩) L m1 m2 fv ov') ∧ Turn B W w' := by
  have cp1 : W.cell? ⟨p, 1, none⟩ = some (.map (some m1)) := (blk_cell h.obj 1).trans rfl
  have cp3 : W.cell? ⟨p, 3, none⟩ = some ov := (blk_cell h.obj 3).trans rfl
  have cb0 : W.cell? ⟨gb, 0, none⟩ = some (.string name) := (blk_cell cb 0).trans rfl
  have cb1 : W.cell? ⟨gb, 1, none⟩ = some (.string gone) := (blk_cell cb 1).trans rfl
  have cb2 : W.cell? ⟨gb, 2, none⟩ = some (.int .i64 file) := (blk_cell cb 2).trans rfl
  have HN := Aside0.mk (ent_calls0 name gone file he1 he2 hf hf0 m1 D.now)
  have HL := Aside0.mk (show D.now.length < 9223372036854775807 by omega)
  have HO := Aside0.mk h
  have HC := Aside0.mk cb
  clear h cb
  go_enter Tryd.func67, Tryd.ntmps67
  go_wp2
  refine start_ (n := 6) (S := fun w' => w'.cell? ⟨gb, 0, none⟩ = some (.string name) ∧ w'.cell? ⟨gb, 1, none⟩ = some (.string gone) ∧ w'.cell? ⟨gb, 2, none⟩ = some (.int .i64 file) ∧ w'.cell? ⟨ga, 0, none⟩ = some (.pointer (some ⟨p, 0, none⟩)) ∧ w'.cell? ⟨p, 1, none⟩ = some (.map (some m1))) (ds := []) #[false, false, false, false, false, false] (by kernel_rfl) rfl rfl ⟨cb0, cb1, cb2, ca, cp1⟩ (fun hHeld => ?_)
  refine take_ (i := 0) (N := some 2) (v := ?_) (a' := ?_) #[true, false, false, false, false, false] rfl rfl (by kernel_rfl) (fun _ _ _ h => h) (Or.inl ⟨by rfl, ?_⟩) hHeld ?_ ?_
  rotate_left
  · rintro w' ⟨s0, s1, s2, s3, s4⟩
    go_simp
    with_reducible rfl
  rotate_left
  · simp only [Act.put, List.setIfInBounds_toArray, List.set_cons_zero, List.set_cons_succ, i64_w, i32_w]
    rfl
  refine take_ (i := 1) (N := some 3) (v := ?_) (a' := ?_) #[true, true, false, false, false, false] rfl rfl (by kernel_rfl) (fun _ _ _ h => h) (Or.inl ⟨by rfl, ?_⟩) hHeld ?_ ?_
  rotate_left
  · rintro w' ⟨s0, s1, s2, s3, s4⟩
    go_simp
    with_reducible rfl
  rotate_left
  · simp only [Act.put, List.setIfInBounds_toArray, List.set_cons_zero, List.set_cons_succ, i64_w, i32_w]
    rfl
  refine pure_ (i := 2) (N := some 4) (v := ?_) (a' := ?_) #[true, true, true, false, false, false] rfl rfl (by kernel_rfl) (fun _ _ _ h => h) (Or.inl ⟨by rfl, ?_⟩) ?_ ?_
  rotate_left
  · intro w'
    go_simp
    with_reducible rfl
  rotate_left
  · simp only [Act.put, List.setIfInBounds_toArray, List.set_cons_zero, List.set_cons_succ, i64_w, i32_w]
    rfl
  refine pure_ (i := 3) (N := some 5) (v := ?_) (a' := ?_) #[true, true, true, true, false, false] rfl rfl (by kernel_rfl) (fun _ _ _ h => h) (Or.inl ⟨by rfl, ?_⟩) ?_ ?_
  rotate_left
  · intro w'
    go_simp
    with_reducible rfl
  rotate_left
  · simp only [Act.put, List.setIfInBounds_toArray, List.set_cons_zero, List.set_cons_succ, i64_w, i32_w]
    rfl
  refine take_ (i := 4) (N := some 6) (v := ?_) (a' := ?_) #[true, true, true, true, true, false] rfl rfl (by kernel_rfl) (fun _ _ _ h => h) (Or.inl ⟨by rfl, ?_⟩) hHeld ?_ ?_
  rotate_left
  · rintro w' ⟨s0, s1, s2, s3, s4⟩
    go_simp
    with_reducible rfl
  rotate_left
  · simp only [Act.put, List.setIfInBounds_toArray, List.set_cons_zero, List.set_cons_succ, i64_w, i32_w]
    rfl
  refine one_ (i := 5) (N := some 7) #[true, true, true, true, true, true] rfl rfl (by kernel_rfl) (by decide) (fun K hK => ?_)
  refine goes_ Tryd.func63 (by kernel_rfl) rfl #[.agg #[.string name, .string gone, .int .i64 file], .map (some m1)] (by rfl) rfl rfl (by simp only [List.map_toArray, List.map_cons, List.map_nil]; rfl) ?_
  with_reducible refine (HN.out W.drew (NamesAt.same HO.out.now rfl) HL.out).mono ?_
  rintro e w1 ⟨rfl, hn1, hg1⟩
  refine ⟨_, rfl, ?_⟩
  have k := fun (g i : Nat) (v : Value) (hc : W.cell? ⟨g, i, none⟩ = some v) (hne : some g ≠ some m1) => hg1.cell (a := ⟨g, i, none⟩) (v := v) hc hne
  have npm := HO.out.nep HO.out.now
  have cb0 := k gb 0 _ cb0 (fun e => hmb (Option.some.inj e).symm)
  have cb1 := k gb 1 _ cb1 (fun e => hmb (Option.some.inj e).symm)
  have cb2 := k gb 2 _ cb2 (fun e => hmb (Option.some.inj e).symm)
  have ca := k ga 0 _ ca (fun e => hma (Option.some.inj e).symm)
  have cp1 := k p 1 _ cp1 npm.symm
  have cp3 := k p 3 _ cp3 npm.symm
  have HO1 := Aside0.mk (HO.out.drew.renow hn1 hg1)
  have HT1 := Aside0.mk ((Turn.refl B W).drew.names (HO.out.now) HO.out.lo1 hg1)
  have HC1 := Aside0.mk (blk_grown (w := W.drew) HC.out hg1 (fun e => hmb (Option.some.inj e).symm))
  clear k npm hn1 hg1
  refine hK.out _ _ ⟨cb0, cb1, cb2, ca, cp1⟩ (fun hHeld => ?_)
  clear hK K
  refine norm_ (a' := ?_) ?_ ?_
  rotate_left
  · show Act.put _ (some 7) _ = _
    simp only [Act.put, List.setIfInBounds_toArray, List.set_cons_zero, List.set_cons_succ, i64_w, i32_w]
    rfl
  refine done_ (by kernel_rfl) ?_
  go_wp2
  have HT2 := Aside0.mk HT1.out.drew
  have HO2 := Aside0.mk HO1.out.drew
  have HC2 := Aside0.mk (show w1.drew.heap[gb]? = some (.cells #[.string name, .string gone, .int .i64 file] 65 (0, 0)) from HC1.out)
  clear HT1 HO1 HC1 HC HO
  refine start_ (n := 11) (S := fun w' => w'.cell? ⟨gb, 0, none⟩ = some (.string name) ∧ w'.cell? ⟨gb, 1, none⟩ = some (.string gone) ∧ w'.cell? ⟨gb, 2, none⟩ = some (.int .i64 file) ∧ w'.cell? ⟨ga, 0, none⟩ = some (.pointer (some ⟨p, 0, none⟩)) ∧ w'.cell? ⟨p, 3, none⟩ = some ov) (ds := [10]) #[false, false, false, false, false, false, false, false, false, false, false] (by kernel_rfl) rfl rfl ⟨cb0, cb1, cb2, ca, cp3⟩ (fun hHeld => ?_)
  generalize w1.drew = w2 at HT2 HO2 HC2 hHeld ⊢
  have hg3 := blk_lt HC2.out
  have hHeld0 := hHeld
  refine take_ (i := 0) (N := some 8) (v := ?_) (a' := ?_) #[true, false, false, false, false, false, false, false, false, false, false] rfl rfl (by kernel_rfl) (fun _ _ _ h => h) (Or.inl ⟨by rfl, ?_⟩) hHeld ?_ ?_
  rotate_left
  · rintro w' ⟨s0, s1, s2, s3, s4⟩
    go_simp
    with_reducible rfl
  rotate_left
  · simp only [Act.put, List.setIfInBounds_toArray, List.set_cons_zero, List.set_cons_succ, i64_w, i32_w]
    rfl
  refine take_ (i := 1) (N := some 9) (v := ?_) (a' := ?_) #[true, true, false, false, false, false, false, false, false, false, false] rfl rfl (by kernel_rfl) (fun _ _ _ h => h) (Or.inl ⟨by rfl, ?_⟩) hHeld ?_ ?_
  rotate_left
  · rintro w' ⟨s0, s1, s2, s3, s4⟩
    go_simp
    with_reducible rfl
  rotate_left
  · simp only [Act.put, List.setIfInBounds_toArray, List.set_cons_zero, List.set_cons_succ, i64_w, i32_w]
    rfl
  refine pure_ (i := 2) (N := some 10) (v := ?_) (a' := ?_) #[true, true, true, false, false, false, false, false, false, false, false] rfl rfl (by kernel_rfl) (fun _ _ _ h => h) (Or.inl ⟨by rfl, ?_⟩) ?_ ?_
  rotate_left
  · intro w'
    go_simp
    with_reducible rfl
  rotate_left
  · simp only [Act.put, List.setIfInBounds_toArray, List.set_cons_zero, List.set_cons_succ, i64_w, i32_w]
    rfl
  refine pure_ (i := 3) (N := some 11) (v := ?_) (a' := ?_) #[true, true, true, true, false, false, false, false, false, false, false] rfl rfl (by kernel_rfl) (fun _ _ _ h => h) (Or.inl ⟨by rfl, ?_⟩) ?_ ?_
  rotate_left
  · intro w'
    go_simp
    with_reducible rfl
  rotate_left
  · simp only [Act.put, List.setIfInBounds_toArray, List.set_cons_zero, List.set_cons_succ, i64_w, i32_w]
    rfl
  refine take_ (i := 4) (N := some 12) (v := ?_) (a' := ?_) #[true, true, true, true, true, false, false, false, false, false, false] rfl rfl (by kernel_rfl) (fun _ _ _ h => h) (Or.inl ⟨by rfl, ?_⟩) hHeld ?_ ?_
  rotate_left
  · rintro w' ⟨s0, s1, s2, s3, s4⟩
    go_simp
    with_reducible rfl
  rotate_left
  · simp only [Act.put, List.setIfInBounds_toArray, List.set_cons_zero, List.set_cons_succ, i64_w, i32_w]
    rfl
  refine take_ (i := 5) (N := some 13) (v := ?_) (a' := ?_) #[true, true, true, true, true, true, false, false, false, false, false] rfl rfl (by kernel_rfl) (fun _ _ _ h => h) (Or.inl ⟨by rfl, ?_⟩) hHeld ?_ ?_
  rotate_left
  · rintro w' ⟨s0, s1, s2, s3, s4⟩
    go_simp
    with_reducible rfl
  rotate_left
  · simp only [Act.put, List.setIfInBounds_toArray, List.set_cons_zero, List.set_cons_succ, i64_w, i32_w]
    rfl
  refine one_ (i := 6) (N := some 14) #[true, true, true, true, true, true, true, false, false, false, false] rfl rfl (by kernel_rfl) (by decide) (fun K hK => ?_)
  refine value_ (w1 := ?_) (v := ?_) (by rfl) rfl ?_ ?_
  rotate_left 2
  · go_simp
    constructor
    · rfl
    · rfl
  have k := fun (g i : Nat) (v : Value) (hc : w2.cell? ⟨g, i, none⟩ = some v) => (((Below.refl _ w2).alloc (Nat.le_refl _) (.cells #[.string name, .string gone, .int .i64 file] 65)).cell (p := ⟨g, i, none⟩) (World.block_lt_of_cell? w2 _ hc)).trans hc
  refine hK.out _ _ ⟨(k _ _ _ hHeld.1), (k _ _ _ hHeld.2.1), (k _ _ _ hHeld.2.2.1), (k _ _ _ hHeld.2.2.2.1), (k _ _ _ hHeld.2.2.2.2)⟩ (fun hHeld => ?_)
  clear hK K
  refine norm_ (a' := ?_) ?_ ?_
  rotate_left
  · show Act.put _ (some 14) _ = _
    simp only [Act.put, List.setIfInBounds_toArray, List.set_cons_zero, List.set_cons_succ, i64_w, i32_w]
    rfl
  refine one_ (i := 7) (N := some 15) #[true, true, true, true, true, true, true, true, false, false, false] rfl rfl (by kernel_rfl) (by decide) (fun K hK => ?_)
  refine Kd.R_append_step kEnt (w0 := w2) B (by rfl) (.tmp 12) (.tmp 14) 57 65 (.agg #[.string ByteArray.empty, .string ByteArray.empty, .int .i64 0]) 40 rfl Tryd.underlying57 infoE rfl (by decide) (by omega) ov D.opn ⟨name, gone, file⟩ [.string name, .string gone, .int .i64 file] (fun _ => True) (fun _ => False) rfl rfl ?aP (fun _ h => h.elim) (fun _ _ => trivial) ?aO (Below.refl _ _) ?aS ?aL ?_
  case aP => exact ⟨[.string name], [.string gone, .int .i64 file], rfl, rfl, [.string gone], [.int .i64 file], rfl, rfl, rfl⟩
  case aO => exact HO2.out.opn
  case aS => have := HO2.out.lop; have := blk_lt HO2.out.obj; omega
  case aL => omega
  intro v15 w3 ho hb hg hat
  obtain ⟨A15, cp15, rfl⟩ := Kd.R_slice ho
  obtain ⟨inner, how⟩ := own_of HO2.out.opn
  have op1 : some p ≠ ov.ownBlock := fun e => by obtain ⟨cs, hc⟩ := own_typed how p e.symm; rw [HO2.out.obj] at hc; cases hc
  have k := fun (g i : Nat) (v : Value) (hc : w2.cell? ⟨g, i, none⟩ = some v) (hne : some g ≠ ov.ownBlock) => hg.cell (a := ⟨g, i, none⟩) (v := v) hc hne
  have d0 := hHeld0.1
  have d1 := hHeld0.2.1
  have d2 := hHeld0.2.2.1
  have d3 := hHeld0.2.2.2.1
  have d4 := hHeld0.2.2.2.2
  have e0 := k _ _ _ d0 hob
  have e1 := k _ _ _ d1 hob
  have e2 := k _ _ _ d2 hob
  have e3 := k _ _ _ d3 hoa
  have e4 := k _ _ _ d4 op1
  have fz : w3.frozen? ⟨p, 3, none⟩ = false := blk_frozen ((But.grown hg).obj HO2.out.obj op1) 3
  have HE3 := Aside0.mk ho
  have HG3 := Aside0.mk hg
  have HP3 := Aside0.mk ((But.grown hg).obj HO2.out.obj op1)
  clear ho hb hg hat how op1 k d0 d1 d2 d3 d4
  refine hK.out _ _ ⟨e0, e1, e2, e3, e4⟩ (fun hHeld => ?_)
  clear hK K
  refine norm_ (a' := ?_) ?_ ?_
  rotate_left
  · show Act.put _ (some 15) _ = _
    simp only [Act.put, List.setIfInBounds_toArray, List.set_cons_zero, List.set_cons_succ, i64_w, i32_w]
    rfl
  refine pure_ (i := 8) (N := some 16) (v := ?_) (a' := ?_) #[true, true, true, true, true, true, true, true, true, false, false] rfl rfl (by kernel_rfl) (fun _ _ _ h => h) (Or.inl ⟨by rfl, ?_⟩) ?_ ?_
  rotate_left
  · intro w'
    go_simp
    with_reducible rfl
  rotate_left
  · simp only [Act.put, List.setIfInBounds_toArray, List.set_cons_zero, List.set_cons_succ, i64_w, i32_w]
    rfl
  refine pure_ (i := 9) (N := some 17) (v := ?_) (a' := ?_) #[true, true, true, true, true, true, true, true, true, true, false] rfl rfl (by kernel_rfl) (fun _ _ _ h => h) (Or.inl ⟨by rfl, ?_⟩) ?_ ?_
  rotate_left
  · intro w'
    go_simp
    with_reducible rfl
  rotate_left
  · simp only [Act.put, List.setIfInBounds_toArray, List.set_cons_zero, List.set_cons_succ, i64_w, i32_w]
    rfl
  refine last_ (i := 10) (N := none) #[true, true, true, true, true, true, true, true, true, true, true] rfl rfl (by kernel_rfl) (by decide) (fun K hK => ?_)
  refine skip_ (w1 := ?_) (by rfl) rfl ?_ ?_
  rotate_left
  · go_simp
    rfl
  refine hK.out _ _ ?_
  clear hK K
  refine done_ (by kernel_rfl) ?_
  go_end0
  have hE : EntsAt B w3 (.slice A15 (D.opn.length + 1) cp15) (D.opn ++ [⟨name, gone, file⟩]) := by
    have h5 := HE3.out
    rw [show (D.opn ++ [(⟨name, gone, file⟩ : Ent)]).length = D.opn.length + 1 by simp] at h5
    exact h5
  refine ⟨rfl, ⟨_, HO2.out.reopn hE HG3.out⟩, ?_⟩
  obtain ⟨inner, how⟩ := own_of HO2.out.opn
  exact (HT2.out.own how rfl HG3.out).setCell HP3.out rfl HO2.out.lop 3 _
theorem named_fin (B p : Nat) (D : Dsk) (L : List (Nat × Value)) (m1 m2 : Nat) (fv ov : Value) (name gone : ByteArray) (file : Int) (W : World) (h : Lies B W p D L m1 m2 fv ov)
    (he1 : name.size ≤ 24) (he2 : gone.size ≤ 24) (hf : file ≤ 9223372036854775807) (hf0 : -9223372036854775808 ≤ file) (hN : D.now.length < 1099511627776) (hO : D.opn.length < 1099511627776) :
    Calls Tryd.prog 67 #[.pointer (some ⟨W.heap.size + 1, 0, none⟩), .pointer (some ⟨W.heap.size, 0, none⟩)] ((W.alloc (.cells #[.pointer (some ⟨p, 0, none⟩)] 23)).alloc (.cells #[.string name, .string gone, .int .i64 file] 65))
      fun en w' => en = .returned (.tuple #[]) ∧ (∃ ov', Lies B w' p (addE D ⟨name, gone, file⟩) L m1 m2 fv ov') ∧ Turn B W w' := by
  have hb : Below W.heap.size W ((W.alloc (.cells #[.pointer (some ⟨p, 0, none⟩)] 23)).alloc (.cells #[.string name, .string gone, .int .i64 file] 65)) := ((Below.refl _ W).alloc (Nat.le_refl _) _).alloc (by simp) _
  have hp := blk_lt h.obj
  have hm := h.now.lt
  obtain ⟨inner, how⟩ := own_of h.opn
  refine (named1 B p W.heap.size (W.heap.size + 1) D L m1 m2 fv ov name gone file _ (h.below hb) ?_ ?_ hp (by omega) (by omega) (by omega) (own_ne_new how 0) (own_ne_new how 1) he1 he2 hf hf0 hN hO).mono ?_
  · have e : ((W.alloc (.cells #[.pointer (some ⟨p, 0, none⟩)] 23)).alloc (.cells #[.string name, .string gone, .int .i64 file] 65)).heap[W.heap.size]? = some (.cells #[.pointer (some ⟨p, 0, none⟩)] 23 (0, 0)) :=
      (Below.heap_alloc _ _ _ (by simp)).trans (heap_alloc_new W _)
    exact (blk_cell e 0).trans rfl
  · have e := heap_alloc_new (W.alloc (.cells #[.pointer (some ⟨p, 0, none⟩)] 23)) (.cells #[.string name, .string gone, .int .i64 file] 65)
    simpa using e
  · rintro e w1 ⟨rfl, hl, ht⟩
    exact ⟨rfl, hl, (Turn.of_below hb).trans ht⟩
set_option maxRecDepth 100000 in
set_option maxHeartbeats 4000000 in
theorem named_on (B p : Nat) (D : Dsk) (L : List (Nat × Value)) (m1 m2 : Nat) (fv ov : Value) (name gone : ByteArray) (file : Int) (w : World) (h : Lies B w p D L m1 m2 fv ov) (h0 : D.armed ≠ 0) (ha : D.armed ≤ 9223372036854775807) (ha0 : -1 ≤ D.armed)
    (hs0 : 0 ≤ D.steps) (hs : D.steps ≤ 1099511627776) (he1 : name.size ≤ 24) (he2 : gone.size ≤ 24) (hf : file ≤ 9223372036854775807) (hf0 : -9223372036854775808 ≤ file) (hN : D.now.length < 1099511627776) (hO : D.opn.length < 1099511627776) :
    Calls Tryd.prog 31 #[.pointer (some ⟨p, 0, none⟩), .agg #[.string name, .string gone, .int .i64 file]] w fun en w' => en = .returned .nilIface ∧ (∃ ov', Lies B w' p (addE (stepD D) ⟨name, gone, file⟩) L m1 m2 fv ov') ∧ Turn B w w' := by
  obtain ⟨files, now, sure, opn, quota, armed, off, steps⟩ := D
  simp only at h0 ha ha0 hs0 hs hN hO
  have hp := blk_lt h.obj
  have c5 : w.cell? ⟨p, 5, none⟩ = some (.int .i64 armed) := (blk_cell h.obj 5).trans rfl
  have c7 : w.cell? ⟨p, 7, none⟩ = some (.int .i64 steps) := (blk_cell h.obj 7).trans rfl
  have f5 : w.frozen? ⟨p, 5, none⟩ = false := blk_frozen h.obj 5
  have f7 : w.frozen? ⟨p, 7, none⟩ = false := blk_frozen h.obj 7
  have HO := Aside0.mk h
  clear h
  have t0 : (armed == 0) = false := by simpa using h0
  have FIN := Aside0.mk (fun (W0 : World) (ar : Int) (st : Int) (hl : Lies B W0 p ⟨files, now, sure, opn, quota, ar, off, st⟩ L m1 m2 fv ov) =>
    named_fin B p ⟨files, now, sure, opn, quota, ar, off, st⟩ L m1 m2 fv ov name gone file W0 hl he1 he2 hf hf0 hN hO)
  clear hN hO he1 he2 hf hf0
  by_cases hpos : 0 < armed
  · have t1 : decide (0 < armed) = true := decide_eq_true hpos
    have HD : stepD ⟨files, now, sure, opn, quota, armed, off, steps⟩ = ⟨files, now, sure, opn, quota, armed - 1, off, steps + 1⟩ := by simp only [stepD]; rw [if_pos hpos]
    rw [HD]
    have HW := Aside0.mk (show Lies B ((w.setCell ⟨p, 5, none⟩ (.int .i64 (armed - 1))).setCell ⟨p, 7, none⟩ (.int .i64 (steps + 1))) p ⟨files, now, sure, opn, quota, armed - 1, off, steps + 1⟩ L m1 m2 fv ov from HO.out.reobj _ _ _ _ (blk_put (blk_put HO.out.obj 5 _ rfl) 7 _ rfl) ((But.setCell w ⟨p, 5, none⟩ _).trans (But.setCell _ ⟨p, 7, none⟩ _)))
    have HT := Aside0.mk (show Turn B w ((w.setCell ⟨p, 5, none⟩ (.int .i64 (armed - 1))).setCell ⟨p, 7, none⟩ (.int .i64 (steps + 1))) from ((Turn.refl B w).setCell HO.out.obj rfl HO.out.lop 5 _).setCell (blk_put HO.out.obj 5 _ rfl) rfl HO.out.lop 7 _)
    have hsz : ((w.setCell ⟨p, 5, none⟩ (.int .i64 (armed - 1))).setCell ⟨p, 7, none⟩ (.int .i64 (steps + 1))).heap.size = w.heap.size := by simp [World.setCell]
    clear HD
    go_enter Tryd.func31, Tryd.ntmps31
    go_wp2_with (first | (go_at_call 36; go_in))
    generalize (w.setCell ⟨p, 5, none⟩ (.int .i64 (armed - 1))).setCell ⟨p, 7, none⟩ (.int .i64 (steps + 1)) = W0 at HW HT hsz ⊢
    rw [← hsz]
    have HB := Aside0.mk (Below.refl W0.heap.size W0)
    go_wp2_with (go_at_call 67; refine (FIN.out W0 _ _ HW.out).mono ?_; rintro e w1 ⟨rfl, ⟨ov1, hl1⟩, ht1⟩; have HL1 := Aside0.mk hl1; have HT1 := Aside0.mk ht1; clear hl1 ht1)
    go_ret
    exact ⟨rfl, ⟨_, HL1.out⟩, HT.out.trans HT1.out⟩
  · have t1 : decide (0 < armed) = false := decide_eq_false hpos
    have HD : stepD ⟨files, now, sure, opn, quota, armed, off, steps⟩ = ⟨files, now, sure, opn, quota, armed, off, steps + 1⟩ := by simp only [stepD]; rw [if_neg hpos]
    rw [HD]
    have HW := Aside0.mk (show Lies B (w.setCell ⟨p, 7, none⟩ (.int .i64 (steps + 1))) p ⟨files, now, sure, opn, quota, armed, off, steps + 1⟩ L m1 m2 fv ov from HO.out.reobj _ _ _ _ (blk_put HO.out.obj 7 _ rfl) (But.setCell w ⟨p, 7, none⟩ _))
    have HT := Aside0.mk (show Turn B w (w.setCell ⟨p, 7, none⟩ (.int .i64 (steps + 1))) from (Turn.refl B w).setCell HO.out.obj rfl HO.out.lop 7 _)
    have hsz : (w.setCell ⟨p, 7, none⟩ (.int .i64 (steps + 1))).heap.size = w.heap.size := by simp [World.setCell]
    clear HD
    go_enter Tryd.func31, Tryd.ntmps31
    go_wp2_with (first | (go_at_call 36; go_in))
    generalize w.setCell ⟨p, 7, none⟩ (.int .i64 (steps + 1)) = W0 at HW HT hsz ⊢
    rw [← hsz]
    have HB := Aside0.mk (Below.refl W0.heap.size W0)
    go_wp2_with (go_at_call 67; refine (FIN.out W0 _ _ HW.out).mono ?_; rintro e w1 ⟨rfl, ⟨ov1, hl1⟩, ht1⟩; have HL1 := Aside0.mk hl1; have HT1 := Aside0.mk ht1; clear hl1 ht1)
    go_ret
    exact ⟨rfl, ⟨_, HL1.out⟩, HT.out.trans HT1.out⟩
theorem now_len {D : Dsk} (h : D.Ok) : (D.now.length : Int) ≤ D.steps := by
  rw [h.nowE]
  have := len_goAll D.opn D.sure
  have := h.cntN
  omega
theorem named_calls (B p : Nat) (D : Dsk) (e : Ent) (E : Int → Addr) (w : World) (h : DiskAt B w p D) (hE : ErrAt B w E) (hk : D.Ok) (hs : D.steps ≤ 1000000000000) (he1 : e.name.size ≤ 24) (he2 : e.gone.size ≤ 24) (hf0 : -1 ≤ e.file) (hf : e.file ≤ 1099511627776) :
    Calls Tryd.prog 31 #[.pointer (some ⟨p, 0, none⟩), entV e] w fun en w' => en = .returned (errV E (namedD D e).1) ∧ DiskAt B w' p (namedD D e).2 ∧ Turn B w w' := by
  obtain ⟨L, m1, m2, fv, ov, hl⟩ := h
  obtain ⟨name, gone, file⟩ := e
  by_cases h0 : D.armed = 0
  · refine (named_off B p D L m1 m2 fv ov name gone file E w hl hE h0).mono ?_
    rintro en w' ⟨rfl, h1, h2⟩
    rw [namedD, if_pos h0]
    exact ⟨rfl, ⟨_, _, _, _, _, h1⟩, h2⟩
  · have h1 := now_len hk
    have h2 := hk.cntN
    refine (named_on B p D L m1 m2 fv ov name gone file w hl h0 hk.armed1 hk.armed0 hk.steps0 (by omega) he1 he2 (by simp only at hf; omega) (by simp only at hf0; omega) (by omega) (by omega)).mono ?_
    rintro en w' ⟨rfl, ⟨ov1, h3⟩, h4⟩
    rw [namedD, if_neg h0]
    exact ⟨rfl, ⟨_, _, _, _, _, h3⟩, h4⟩
end Go.Proofs.YtpcfnkmljchiiaaDoor.DNam
