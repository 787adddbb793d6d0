/- Disk.changed's closure. -/
import Derived.Test.YtpcfnkmljchiiaaDoorDCha
namespace Go.Proofs.YtpcfnkmljchiiaaDoor.DCg
open Go Go.RowKit Go.Maps Go.WideMaps Go.Proofs.YtpcfnkmljchiiaaDoorW.PrintWords Go.Proofs.YtpcfnkmljchiiaaDoorW.PrintLast Go.Proofs.YtpcfnkmljchiiaaDoor.DBase Go.Proofs.YtpcfnkmljchiiaaDoor.DPl Go.Proofs.YtpcfnkmljchiiaaDoor.DAt Go.Proofs.YtpcfnkmljchiiaaDoor.DEnt Go.Proofs.YtpcfnkmljchiiaaDoor.DNam Go.Proofs.YtpcfnkmljchiiaaDoor.Is Go.Proofs.YtpcfnkmljchiiaaDoor.DFil Go.Proofs.YtpcfnkmljchiiaaDoor.DUsd Go.Proofs.YtpcfnkmljchiiaaDoor.DChg
set_option linter.unusedVariables false
set_option linter.unusedSimpArgs false
theorem chgE : kChg.E = [5] := rfl
theorem infoC : (Tryd.prog.info? 77).map (fun i => (i.zero, i.size, i.bytes)) = some (some (.agg #[.int .i64 0, .slice none 0 0, .bool false]), 3, 40) := by kernel_rfl
theorem bytes_apart {B base : Nat} {w : World} {v u : Value} {l : List Int} {t size n : Nat} {xs : List Value} (h : BytesAt B w v l) (ho : w.ownsRow base t size u n xs) (ht : 5 ≠ t) : Kd.R kb 5 w B (fun k => some k ≠ u.ownBlock) v l :=
  Kd.R_mono (Kd.R_bound h) (fun k hk e => by
    obtain ⟨_, _, _, q, hq, cells, hc⟩ := hk
    have : q = 5 := (by simpa [kb, Kd.int, Kd.scalar] using hq)
    subst this
    obtain ⟨cs, hc2⟩ := own_typed ho k e.symm
    rw [hc] at hc2
    exact ht (by cases hc2; rfl))
theorem BytesAt.but {B : Nat} {w w' : World} {v : Value} {l : List Int} {row : Option Nat} (h : BytesAt B w v l) (hk : But w w' row) (hn : Not w row [5]) : BytesAt B w' v l :=
  R_row h hk (fun g hg => by obtain ⟨o, h1, h2⟩ := hn g hg; exact ⟨o, h1, fun q hq => h2 q (by have : q = 5 := (by simpa [kb, Kd.int, Kd.scalar] using hq); simp [this])⟩)
set_option maxRecDepth 100000 in
set_option maxHeartbeats 4000000 in
theorem changed1 (B p ga gf gc : Nat) (D : Dsk) (L : List (Nat × Value)) (m1 m2 : Nat) (fv ov : Value) (i : Nat) (x : Nat × Value) (f : Fil) (c : Chg) (bv : Value) (A : Option Addr) (l : List Int) (cp : Nat) (W : World) (h : Lies B W p D L m1 m2 fv ov)
    (hx : L[i]? = some x) (hf : D.files[i]? = some f) (ca : W.cell? ⟨ga, 0, none⟩ = some (.slice A l.length cp)) (hl : BytesAt B W (.slice A l.length cp) l) (cf : W.cell? ⟨gf, 0, none⟩ = some (.pointer (some ⟨x.1, 0, none⟩)))
    (cb : W.heap[gc]? = some (.cells #[.int .i64 (c.pos : Int), bv, .bool c.cut] 77 (0, 0))) (hbv : BytesAt B W bv c.b)
    (n1 : gf ≠ x.1) (n2 : some gf ≠ x.2.ownBlock) (n3 : some gc ≠ x.2.ownBlock) (hO : f.opn.length < 1099511627776) :
    Calls Tryd.prog 70 #[.pointer (some ⟨ga, 0, none⟩), .pointer (some ⟨gf, 0, none⟩), .pointer (some ⟨gc, 0, none⟩)] W fun en w' => en = .returned (.tuple #[]) ∧ (∃ rv, Lies B w' p (setF D i ⟨l, f.sure, f.opn ++ [c]⟩) (L.set i (x.1, rv)) m1 m2 fv ov) ∧ Turn B W w' := by
  obtain ⟨Ab, cpb, rfl⟩ := Kd.R_slice hbv
  obtain ⟨⟨nv, sv, ho, hn, hsu⟩, lo, hop⟩ := h.files.each i x f hx hf
  obtain ⟨inner, how⟩ := own_of hop
  have c0 : W.cell? ⟨x.1, 0, none⟩ = some nv := (blk_cell ho 0).trans rfl
  have f0 : W.frozen? ⟨x.1, 0, none⟩ = false := blk_frozen ho 0
  have n4 : gc ≠ x.1 := blk_ne cb ho (by decide)
  have n5 : some x.1 ≠ x.2.ownBlock := fun e => by obtain ⟨cs, hc⟩ := own_typed how _ e.symm; rw [ho] at hc; cases hc
  have HA := Aside0.mk h
  -- behind the first store
  have hb1 : But W (W.setCell ⟨x.1, 0, none⟩ (.slice A l.length cp)) (some x.1) := But.setCell W ⟨x.1, 0, none⟩ _
  have o1 : (W.setCell ⟨x.1, 0, none⟩ (.slice A l.length cp)).heap[x.1]? = some (.cells #[.slice A l.length cp, sv, x.2] 69 (0, 0)) := blk_put ho 0 _ rfl
  have nt : ∀ qs : List Nat, tF ∉ qs → Not W (some x.1) qs := fun qs hq => Not.cells (t := tF) (fun g hg => by obtain rfl := Option.some.inj hg; exact ⟨_, _, ho⟩) (fun q hq2 e => hq (e ▸ hq2))
  have HL1 := Aside0.mk (BytesAt.but hl hb1 (nt _ (by decide)))
  have HS1 := Aside0.mk (BytesAt.but hsu hb1 (nt _ (by decide)))
  have HV1 := Aside0.mk (BytesAt.but hbv hb1 (nt _ (by decide)))
  have HP1 := Aside0.mk (R_row hop hb1 (nt _ (by rw [chgE]; decide)))
  have d1 := (cell_far (W := W) (a := ⟨gf, 0, none⟩) (p := ⟨x.1, 0, none⟩) n1 (.slice A l.length cp)).trans cf
  have HC1 := Aside0.mk (blk_far cb (p := ⟨x.1, 0, none⟩) n4 (.slice A l.length cp))
  have HT1 := Aside0.mk ((Turn.refl B W).setCell ho rfl lo 0 (.slice A l.length cp))
  have HO1 := Aside0.mk o1
  have HB1 := Aside0.mk hb1
  clear hbv hl hsu hop how hn h cb ho
  go_enter Tryd.func70, Tryd.ntmps70
  go_wp2
  generalize W.setCell ⟨x.1, 0, none⟩ (.slice A l.length cp) = W1 at HL1 HS1 HV1 HP1 d1 HC1 HT1 HO1 HB1 ⊢
  have e2 : W1.cell? ⟨x.1, 2, none⟩ = some x.2 := (blk_cell HO1.out 2).trans rfl
  have g0 : W1.cell? ⟨gc, 0, none⟩ = some (.int .i64 (c.pos : Int)) := (blk_cell HC1.out 0).trans rfl
  have g1 : W1.cell? ⟨gc, 1, none⟩ = some (.slice Ab c.b.length cpb) := (blk_cell HC1.out 1).trans rfl
  have g2 : W1.cell? ⟨gc, 2, none⟩ = some (.bool c.cut) := (blk_cell HC1.out 2).trans rfl
  have HT2 := Aside0.mk HT1.out.drew
  have HO2 := Aside0.mk (show W1.drew.heap[x.1]? = _ from HO1.out)
  have HC2 := Aside0.mk (show W1.drew.heap[gc]? = _ from HC1.out)
  have HL2 := Aside0.mk (show BytesAt B W1.drew _ _ from HL1.out)
  have HS2 := Aside0.mk (show BytesAt B W1.drew _ _ from HS1.out)
  have HV2 := Aside0.mk (show BytesAt B W1.drew _ _ from HV1.out)
  have HP2 := Aside0.mk (show Kd.R kChg tC W1.drew B (fun _ => True) x.2 f.opn from HP1.out)
  have HB2 := Aside0.mk (show But W W1.drew _ from HB1.out)
  clear HT1 HO1 HC1 HL1 HS1 HV1 HP1 HB1
  refine start_ (n := 11) (S := fun w' => w'.cell? ⟨gf, 0, none⟩ = some (.pointer (some ⟨x.1, 0, none⟩)) ∧ w'.cell? ⟨x.1, 2, none⟩ = some x.2 ∧ w'.cell? ⟨gc, 0, none⟩ = some (.int .i64 (c.pos : Int)) ∧ w'.cell? ⟨gc, 1, none⟩ = some (.slice Ab c.b.length cpb) ∧ w'.cell? ⟨gc, 2, none⟩ = some (.bool c.cut)) (ds := [10]) #[false, false, false, false, false, false, false, false, false, false, false] (by kernel_rfl) rfl rfl ⟨d1, e2, g0, g1, g2⟩ (fun hHeld => ?_)
  generalize W1.drew = w2 at HT2 HO2 HC2 HL2 HS2 HV2 HP2 HB2 hHeld ⊢
  have hg3 := blk_lt HC2.out
  have hHeld0 := hHeld
  refine take_ (i := 0) (N := some 7) (v := ?_) (a' := ?_) #[true, false, false, false, false, false, false, false, false, false, false] rfl rfl (by kernel_rfl) (fun _ _ _ h => h) (Or.inl ⟨by rfl, ?_⟩) hHeld ?_ ?_
  rotate_left
  · rintro w' ⟨s0, s1, s2, s3, s4⟩
    go_simp
    with_reducible rfl
  rotate_left
  · simp only [Act.put, List.setIfInBounds_toArray, List.set_cons_zero, List.set_cons_succ, i64_w, i32_w]
    rfl
  refine take_ (i := 1) (N := some 8) (v := ?_) (a' := ?_) #[true, true, false, false, false, false, false, false, false, false, false] rfl rfl (by kernel_rfl) (fun _ _ _ h => h) (Or.inl ⟨by rfl, ?_⟩) hHeld ?_ ?_
  rotate_left
  · rintro w' ⟨s0, s1, s2, s3, s4⟩
    go_simp
    with_reducible rfl
  rotate_left
  · simp only [Act.put, List.setIfInBounds_toArray, List.set_cons_zero, List.set_cons_succ, i64_w, i32_w]
    rfl
  refine pure_ (i := 2) (N := some 9) (v := ?_) (a' := ?_) #[true, true, true, false, false, false, false, false, false, false, false] rfl rfl (by kernel_rfl) (fun _ _ _ h => h) (Or.inl ⟨by rfl, ?_⟩) ?_ ?_
  rotate_left
  · intro w'
    go_simp
    with_reducible rfl
  rotate_left
  · simp only [Act.put, List.setIfInBounds_toArray, List.set_cons_zero, List.set_cons_succ, i64_w, i32_w]
    rfl
  refine pure_ (i := 3) (N := some 10) (v := ?_) (a' := ?_) #[true, true, true, true, false, false, false, false, false, false, false] rfl rfl (by kernel_rfl) (fun _ _ _ h => h) (Or.inl ⟨by rfl, ?_⟩) ?_ ?_
  rotate_left
  · intro w'
    go_simp
    with_reducible rfl
  rotate_left
  · simp only [Act.put, List.setIfInBounds_toArray, List.set_cons_zero, List.set_cons_succ, i64_w, i32_w]
    rfl
  refine take_ (i := 4) (N := some 11) (v := ?_) (a' := ?_) #[true, true, true, true, true, false, false, false, false, false, false] rfl rfl (by kernel_rfl) (fun _ _ _ h => h) (Or.inl ⟨by rfl, ?_⟩) hHeld ?_ ?_
  rotate_left
  · rintro w' ⟨s0, s1, s2, s3, s4⟩
    go_simp
    with_reducible rfl
  rotate_left
  · simp only [Act.put, List.setIfInBounds_toArray, List.set_cons_zero, List.set_cons_succ, i64_w, i32_w]
    rfl
  refine take_ (i := 5) (N := some 12) (v := ?_) (a' := ?_) #[true, true, true, true, true, true, false, false, false, false, false] rfl rfl (by kernel_rfl) (fun _ _ _ h => h) (Or.inl ⟨by rfl, ?_⟩) hHeld ?_ ?_
  rotate_left
  · rintro w' ⟨s0, s1, s2, s3, s4⟩
    go_simp
    with_reducible rfl
  rotate_left
  · simp only [Act.put, List.setIfInBounds_toArray, List.set_cons_zero, List.set_cons_succ, i64_w, i32_w]
    rfl
  refine one_ (i := 6) (N := some 13) #[true, true, true, true, true, true, true, false, false, false, false] rfl rfl (by kernel_rfl) (by decide) (fun K hK => ?_)
  refine value_ (w1 := ?_) (v := ?_) (by rfl) rfl ?_ ?_
  rotate_left 2
  · go_simp
    constructor
    · rfl
    · rfl
  have k := fun (g i : Nat) (v : Value) (hc : w2.cell? ⟨g, i, none⟩ = some v) => (((Below.refl _ w2).alloc (Nat.le_refl _) (.cells #[.int .i64 (c.pos : Int), (.slice Ab c.b.length cpb), .bool c.cut] 77)).cell (p := ⟨g, i, none⟩) (World.block_lt_of_cell? w2 _ hc)).trans hc
  refine hK.out _ _ ⟨(k _ _ _ hHeld.1), (k _ _ _ hHeld.2.1), (k _ _ _ hHeld.2.2.1), (k _ _ _ hHeld.2.2.2.1), (k _ _ _ hHeld.2.2.2.2)⟩ (fun hHeld => ?_)
  clear hK K
  refine norm_ (a' := ?_) ?_ ?_
  rotate_left
  · show Act.put _ (some 13) _ = _
    simp only [Act.put, List.setIfInBounds_toArray, List.set_cons_zero, List.set_cons_succ, i64_w, i32_w]
    rfl
  refine one_ (i := 7) (N := some 14) #[true, true, true, true, true, true, true, true, false, false, false] rfl rfl (by kernel_rfl) (by decide) (fun K hK => ?_)
  refine Kd.R_append_step kChg (w0 := w2) B (by rfl) (.tmp 11) (.tmp 13) 67 77 (.agg #[.int .i64 0, .slice none 0 0, .bool false]) 40 rfl Tryd.underlying67 infoC rfl (by decide) (by omega) x.2 f.opn c [.int .i64 (c.pos : Int), (.slice Ab c.b.length cpb), .bool c.cut] (fun _ => True) (fun k => some k ≠ x.2.ownBlock) rfl rfl ?aP (fun k h => ⟨trivial, h⟩) (fun _ _ => trivial) ?aO (Below.refl _ _) ?aS ?aL ?_
  case aP => obtain ⟨inner, how⟩ := own_of HP2.out; exact ⟨[.int .i64 (c.pos : Int)], [.slice Ab c.b.length cpb, .bool c.cut], rfl, rfl, [.slice Ab c.b.length cpb], [.bool c.cut], rfl, ⟨.slice Ab c.b.length cpb, rfl, bytes_apart HV2.out how (by decide)⟩, rfl⟩
  case aO => exact HP2.out
  case aS => have := blk_lt HO2.out; omega
  case aL => omega
  intro v15 w3 ho hb hg hat
  obtain ⟨A15, cp15, rfl⟩ := Kd.R_slice ho
  have k := fun (g i : Nat) (v : Value) (hc : w2.cell? ⟨g, i, none⟩ = some v) (hne : some g ≠ x.2.ownBlock) => hg.cell (a := ⟨g, i, none⟩) (v := v) hc hne
  have d0 := hHeld0.1
  have d1 := hHeld0.2.1
  have d2 := hHeld0.2.2.1
  have d3 := hHeld0.2.2.2.1
  have d4 := hHeld0.2.2.2.2
  have e0 := k _ _ _ d0 n2
  have e1 := k _ _ _ d1 n5
  have e2 := k _ _ _ d2 n3
  have e3 := k _ _ _ d3 n3
  have e4 := k _ _ _ d4 n3
  have fz : w3.frozen? ⟨x.1, 2, none⟩ = false := blk_frozen ((But.grown hg).obj HO2.out n5) 2
  have HE3 := Aside0.mk ho
  have HG3 := Aside0.mk hg
  have HAt := Aside0.mk hat
  have HP3 := Aside0.mk ((But.grown hg).obj HO2.out n5)
  clear ho hb hg hat k d0 d1 d2 d3 d4
  refine hK.out _ _ ⟨e0, e1, e2, e3, e4⟩ (fun hHeld => ?_)
  clear hK K
  refine norm_ (a' := ?_) ?_ ?_
  rotate_left
  · show Act.put _ (some 14) _ = _
    simp only [Act.put, List.setIfInBounds_toArray, List.set_cons_zero, List.set_cons_succ, i64_w, i32_w]
    rfl
  refine pure_ (i := 8) (N := some 15) (v := ?_) (a' := ?_) #[true, true, true, true, true, true, true, true, true, false, false] rfl rfl (by kernel_rfl) (fun _ _ _ h => h) (Or.inl ⟨by rfl, ?_⟩) ?_ ?_
  rotate_left
  · intro w'
    go_simp
    with_reducible rfl
  rotate_left
  · simp only [Act.put, List.setIfInBounds_toArray, List.set_cons_zero, List.set_cons_succ, i64_w, i32_w]
    rfl
  refine pure_ (i := 9) (N := some 16) (v := ?_) (a' := ?_) #[true, true, true, true, true, true, true, true, true, true, false] rfl rfl (by kernel_rfl) (fun _ _ _ h => h) (Or.inl ⟨by rfl, ?_⟩) ?_ ?_
  rotate_left
  · intro w'
    go_simp
    with_reducible rfl
  rotate_left
  · simp only [Act.put, List.setIfInBounds_toArray, List.set_cons_zero, List.set_cons_succ, i64_w, i32_w]
    rfl
  refine last_ (i := 10) (N := none) #[true, true, true, true, true, true, true, true, true, true, true] rfl rfl (by kernel_rfl) (by decide) (fun K hK => ?_)
  refine skip_ (w1 := ?_) (by rfl) rfl ?_ ?_
  rotate_left
  · go_simp
    rfl
  refine hK.out _ _ ?_
  clear hK K
  refine done_ (by kernel_rfl) ?_
  go_end0
  obtain ⟨inner, how⟩ := own_of HP2.out
  have hE : ChgsAt B w3 (.slice A15 (f.opn.length + 1) cp15) (f.opn ++ [c]) := by
    have h5 := HE3.out
    rw [show (f.opn ++ [c]).length = f.opn.length + 1 by simp] at h5
    exact h5
  have hAt : (Value.slice A15 (f.opn.length + 1) cp15).ownBlock = x.2.ownBlock ∨ ∃ b, (Value.slice A15 (f.opn.length + 1) cp15).ownBlock = some b ∧ w2.heap.size ≤ b := by
    have h5 := HAt.out
    rw [show (f.opn ++ [c]).length = f.opn.length + 1 by simp] at h5
    exact h5
  have hk3 := But.grown HG3.out
  have nr : ∀ qs : List Nat, tC ∉ qs → Not w2 x.2.ownBlock qs := fun qs hq => Not.own how (fun q hq2 e => hq (e ▸ hq2))
  have nx : ∀ qs : List Nat, tF ∉ qs → Not w3 (some x.1) qs := fun qs hq => Not.cells (t := tF) (fun g hg => by obtain rfl := Option.some.inj hg; exact ⟨_, _, HP3.out⟩) (fun q hq2 e => hq (e ▸ hq2))
  have hb4 := But.setCell w3 ⟨x.1, 2, none⟩ (.slice A15 (f.opn.length + 1) cp15)
  refine ⟨rfl, ⟨_, HA.out.file i x f hx hf ?_ (fun k hk h1 h2 => ?_) (.slice A15 (f.opn.length + 1) cp15) ⟨l, f.sure, f.opn ++ [c]⟩ ⟨⟨_, _, blk_put HP3.out 2 _ rfl, ?_, ?_⟩, lo, ?_⟩ ?_⟩, ?_⟩
  · exact Nat.le_trans HB2.out.1 (Nat.le_trans hk3.1 hb4.1)
  · have k1 := HB2.out.2 k hk (fun e => h1 (Option.some.inj e))
    have l1 : k < w2.heap.size := Nat.lt_of_lt_of_le hk HB2.out.1
    have k2 := hk3.2 k l1 (fun e => h2 e.symm)
    have k3 := hb4.2 k (Nat.lt_of_lt_of_le l1 hk3.1) (fun e => h1 (Option.some.inj e))
    exact k3.trans (k2.trans k1)
  · exact BytesAt.but (BytesAt.but HL2.out hk3 (nr _ (by decide))) hb4 (nx _ (by decide))
  · exact BytesAt.but (BytesAt.but HS2.out hk3 (nr _ (by decide))) hb4 (nx _ (by decide))
  · exact R_row hE hb4 (nx _ (by rw [chgE]; decide))
  · rcases hAt with h | ⟨b, h1, h2⟩
    · exact .inr (.inl h)
    · exact .inr (.inr ⟨b, h1, Nat.le_trans HB2.out.1 h2⟩)
  · exact (HT2.out.own how rfl HG3.out).setCell HP3.out rfl lo 2 _
end Go.Proofs.YtpcfnkmljchiiaaDoor.DCg
