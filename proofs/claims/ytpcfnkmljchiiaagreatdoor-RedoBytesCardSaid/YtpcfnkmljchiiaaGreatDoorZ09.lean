/- Steps towards RBoth: DCha, DCg, DStp. -/
import Derived.Test.YtpcfnkmljchiiaaGreatDoorZ06
import Derived.Test.YtpcfnkmljchiiaaGreatDoorZ08
set_option linter.unusedVariables false
set_option linter.unusedSimpArgs false
section
/- Disk.changed: an open step of a file. -/
namespace Go.Proofs.YtpcfnkmljchiiaaGreatDoor.DAt
open Go Go.RowKit Go.Maps Go.Proofs.YtpcfnkmljchiiaaGreatDoorW.PrintWords DPl Go.Proofs.YtpcfnkmljchiiaaGreatDoor.Is
variable {B : Bx} {w w' : World}
variable {w1 : World}
theorem R_own2 {α : Type} {d : Kd α} {e base : Nat} {ok : Nat → Prop} {v : Value} {xs : List α} (h : d.R e w base ok v xs) (hm : ∀ (k : Nat) (q : Nat) (cells : Array Value), q ∈ e :: d.E → w.heap[k]? = some (Obj.cells cells q (0, 0)) → w'.heap[k]? = w.heap[k]?) : d.R e w' base ok v xs :=
  Kd.R_mono (Kd.R_move (Kd.R_bound h) (fun k hk => by obtain ⟨_, _, _, q, hq, cells, hc⟩ := hk; exact hm k q cells hq hc)) (fun _ hk => hk.1)
theorem FileAt.keep {k : Nat} {rv : Value} {f : Fil} (h : FileAt B w k rv f) (h1 : w'.heap[k]? = w.heap[k]?) (h2 : ∀ g, rv.ownBlock = some g → w'.heap[g]? = w.heap[g]?) (h3 : ∀ (g : Nat) (cs : Array Value), w.heap[g]? = some (Obj.cells cs 5 (0, 0)) → w'.heap[g]? = w.heap[g]?) : FileAt B w' k rv f := by
  obtain ⟨⟨nv, sv, ho, hn, hs⟩, lo, h0, inner, how, hrp⟩ := h
  have b5 : ∀ {v : Value} {l : List Int}, BytesAt B w v l → BytesAt B w' v l := fun hb => R_own2 hb (fun k q cells hq hc => by
    have : q = 5 := (by simpa [kb, Kd.int, Kd.scalar] using hq)
    subst this
    exact h3 k cells hc)
  refine ⟨⟨nv, sv, h1.trans ho, b5 hn, b5 hs⟩, lo, h0, inner, own_move how h2, hrp.imp_ (fun x cs hp => ?_)⟩
  refine Kd.M_mono _ (fun _ hq => hq.1) (Kd.M_move _ (fun k hk => ?_) (Kd.M_bound _ hp))
  obtain ⟨_, _, _, q, hq, cells, hc⟩ := hk
  have : q = 5 := (by simpa [kChg, Kd.iso, Kd.pair, Kd.slice, kb, Kd.int, Kd.bool, Kd.scalar] using hq)
  subst this
  exact h3 k cells hc
variable {p : Nat} {D : Dsk} {L : List (Nat × Value)} {m1 m2 : Nat} {fv ov : Value}
/-- One file's own blocks have turned. -/
theorem Lies.file (h : Lies B w p D L m1 m2 fv ov) (i : Nat) (x : Nat × Value) (f : Fil) (hx : L[i]? = some x) (hf : D.files[i]? = some f) (hs : w.heap.size ≤ w'.heap.size) (hk : ∀ k, k < w.heap.size → k ≠ x.1 → x.2.ownBlock ≠ some k → w'.heap[k]? = w.heap[k]?)
    (rv : Value) (f' : Fil) (hF : FileAt B w' x.1 rv f') (hr : rv.ownBlock = none ∨ rv.ownBlock = x.2.ownBlock ∨ ∃ b, rv.ownBlock = some b ∧ w.heap.size ≤ b) : Lies B w' p { D with files := D.files.set i f' } (L.set i (x.1, rv)) m1 m2 fv ov := by
  have hxf := h.files.each i x f hx hf
  obtain ⟨nv, sv, ho, hn, hsu⟩ := hxf.ex
  obtain ⟨inner, how⟩ := own_of hxf.opn
  have typed : ∀ (k : Nat) (o : Obj), w.heap[k]? = some o → (∀ cs, o ≠ .cells cs 108 (0, 0)) → (∀ cs, o ≠ .cells cs 114 (0, 0)) → w'.heap[k]? = w.heap[k]? := fun k o hko h1 h2 => by
    refine hk k (blk_lt hko) (fun e => ?_) (fun e => ?_)
    · subst e
      rw [ho] at hko
      exact h1 _ (Option.some.inj hko).symm
    · obtain ⟨cs, hc⟩ := own_typed how k e
      rw [hc] at hko
      exact h2 _ (Option.some.inj hko).symm
  have hmap : ∀ {m : Nat} {N : Nms}, NamesAt w m N → NamesAt w' m N := fun hm => by
    obtain ⟨es, c, hb⟩ := hm.obj
    exact hm.same (typed _ _ hb (fun _ e => by cases e) (fun _ e => by cases e))
  have hil : i < L.length := (List.getElem?_eq_some_iff.1 hx).1
  have hifl : i < D.files.length := (List.getElem?_eq_some_iff.1 hf).1
  refine ⟨(typed _ _ h.obj (fun _ e => by cases e) (fun _ e => by cases e)).trans h.obj, h.lop, h.lo1, h.lo2, h.ne, hmap h.now, hmap h.sure, ?_, ?_, ⟨?_, ?_, ?_⟩, Nat.lt_of_lt_of_le h.lt hs⟩
  · have e : (L.set i (x.1, rv)).map Prod.fst = L.map Prod.fst := by
      apply List.ext_getElem?
      intro j
      rw [List.getElem?_map, List.getElem?_map, List.getElem?_set]
      by_cases hj : i = j
      · subst hj
        rw [if_pos rfl, if_pos hil, hx]
        rfl
      · rw [if_neg hj]
    rw [e]
    exact R_own2 h.ptrs (fun k q cells hq hc => typed k _ hc (fun _ e => by
      have : q = 103 := (by simpa [kPtrE] using hq)
      subst this; cases e) (fun _ e => by
      have : q = 103 := (by simpa [kPtrE] using hq)
      subst this; cases e))
  · exact R_own2 h.opn (fun k q cells hq hc => typed k _ hc (fun _ e => by
      have : q = 111 := (by simpa [kEntE] using hq)
      subst this; cases e) (fun _ e => by
      have : q = 111 := (by simpa [kEntE] using hq)
      subst this; cases e))
  · simp [h.files.len]
  · intro j y g hy hg
    simp only [List.getElem?_set] at hy hg
    by_cases hj : i = j
    · subst hj
      rw [if_pos rfl, if_pos hil] at hy
      rw [if_pos rfl, if_pos hifl] at hg
      obtain rfl := Option.some.inj hy
      obtain rfl := Option.some.inj hg
      exact hF
    · rw [if_neg hj] at hy hg
      have hfar := h.files.far j i y x hy hx (fun e => hj e.symm)
      have hy1 := h.files.each j y g hy hg
      obtain ⟨nv2, sv2, ho2, _, _⟩ := hy1.ex
      obtain ⟨inner2, how2⟩ := own_of hy1.opn
      refine hy1.keep (hk _ (blk_lt ho2) hfar.1 (fun e => ?_)) (fun g hg => hk g (own_lt how2 g hg) (fun e => ?_) (fun e => ?_)) (fun g cs hg => typed g (.cells cs 5 (0, 0)) hg (fun _ e => by cases e) (fun _ e => by cases e))
      · obtain ⟨cs, hc⟩ := own_typed how _ e
        rw [hc] at ho2
        cases ho2
      · obtain ⟨cs, hc⟩ := own_typed how2 _ hg
        subst e
        rw [ho] at hc
        cases hc
      · rcases hfar.2 with h2 | h2
        · rw [h2] at hg; cases hg
        · exact h2 (hg.trans e.symm)
  · intro j l y z hy hz hjl
    have sub : ∀ (j : Nat) (y : Nat × Value), (L.set i (x.1, rv))[j]? = some y → ∃ y0, L[j]? = some y0 ∧ y0.1 = y.1 ∧ (j ≠ i → y0 = y) ∧ (j = i → y.2 = rv) := fun j y hy => by
      simp only [List.getElem?_set] at hy
      by_cases hj : i = j
      · subst hj
        rw [if_pos rfl, if_pos hil] at hy
        obtain rfl := Option.some.inj hy
        exact ⟨x, hx, rfl, fun e => absurd rfl e, fun _ => rfl⟩
      · rw [if_neg hj] at hy
        exact ⟨y, hy, rfl, fun _ => rfl, fun e => absurd e.symm hj⟩
    obtain ⟨y0, a1, a2, a3, a4⟩ := sub j y hy
    obtain ⟨z0, b1, b2, b3, b4⟩ := sub l z hz
    have f0 := h.files.far j l y0 z0 a1 b1 hjl
    refine ⟨by rw [← a2, ← b2]; exact f0.1, ?_⟩
    have old : ∀ (j : Nat) (y : Nat × Value), L[j]? = some y → ∀ b, y.2.ownBlock = some b → b < w.heap.size := fun j y hj b hb => by
      have hjl := (List.getElem?_eq_some_iff.1 hj).1
      have hjf : j < D.files.length := by have := h.files.len; omega
      obtain ⟨inner2, how2⟩ := own_of (h.files.each j y D.files[j] hj (List.getElem?_eq_getElem hjf)).opn
      exact own_lt how2 b hb
    by_cases e1 : j = i
    · have e2 : l ≠ i := fun e => hjl (e1.trans e.symm)
      obtain rfl := b3 e2
      have ey := a4 e1
      subst e1
      obtain rfl : x = y0 := Option.some.inj (hx.symm.trans a1)
      rw [ey]
      rcases hr with hr | hr | ⟨b, hr, hb⟩
      · exact .inl hr
      · rw [hr]; exact f0.2
      · right
        rw [hr]
        intro e
        have := old l _ b1 b e.symm
        omega
    · obtain rfl := a3 e1
      by_cases e2 : l = i
      · have ez := b4 e2
        subst e2
        obtain rfl : x = z0 := Option.some.inj (hx.symm.trans b1)
        rw [ez]
        rcases hr with hr | hr | ⟨b, hr, hb⟩
        · rw [hr]
          cases hh : y0.2.ownBlock with
          | none => exact .inl rfl
          | some b => exact .inr (by simp)
        · rw [hr]; exact f0.2
        · cases hh : y0.2.ownBlock with
          | none => exact .inl rfl
          | some c =>
            right
            rw [hr]
            intro e
            have := old j _ a1 c hh
            have : c = b := Option.some.inj e
            omega
      · obtain rfl := b3 e2
        exact f0.2
end Go.Proofs.YtpcfnkmljchiiaaGreatDoor.DAt
end
section
/- Disk.changed's closure. -/
namespace Go.Proofs.YtpcfnkmljchiiaaGreatDoor.DCg
open Go Go.RowKit Go.Maps Go.WideMaps Go.Proofs.YtpcfnkmljchiiaaGreatDoorW.PrintWords Go.Proofs.YtpcfnkmljchiiaaGreatDoorW.PrintLast DBase DPl DAt DEnt DNam Go.Proofs.YtpcfnkmljchiiaaGreatDoor.Is DFil DUsd DChg
theorem chgE : kChg.E = [5] := rfl
theorem infoC : (Tryz.prog.info? 114).map (fun i => (i.zero, i.size, i.bytes)) = some (some (.agg #[.int .i64 0, .slice none 0 0, .bool false]), 3, 40) := by kernel_rfl
theorem bytes_apart {B : Bx} {base : Nat} {w : World} {v u : Value} {l : List Int} {t size n : Nat} {xs : List Value} (h : BytesAt B w v l) (ho : w.ownsRow base t size u n xs) (ht : 5 ≠ t) : Kd.R kb 5 w B (fun k => k ≠ B.q ∧ some k ≠ u.ownBlock) v l :=
  Kd.R_mono (Kd.R_bound h) (fun k hk => ⟨hk.1, fun e => by
    obtain ⟨_, _, _, q, hq, cells, hc⟩ := hk
    have : q = 5 := (by simpa [kb, Kd.int, Kd.scalar] using hq)
    subst this
    obtain ⟨cs, hc2⟩ := own_typed ho k e.symm
    rw [hc] at hc2
    exact ht (by cases hc2; rfl)⟩)
theorem BytesAt.but {B : Bx} {w w' : World} {v : Value} {l : List Int} {row : Option Nat} (h : BytesAt B w v l) (hk : But w w' row) (hn : Not w row [5]) : BytesAt B w' v l :=
  R_row h hk (fun g hg => by obtain ⟨o, h1, h2⟩ := hn g hg; exact ⟨o, h1, fun q hq => h2 q (by have : q = 5 := (by simpa [kb, Kd.int, Kd.scalar] using hq); simp [this])⟩)
set_option maxRecDepth 100000 in
set_option maxHeartbeats 4000000 in
theorem changed1 (B : Bx) (p ga gf gc : Nat) (D : Dsk) (L : List (Nat × Value)) (m1 m2 : Nat) (fv ov : Value) (i : Nat) (x : Nat × Value) (f : Fil) (c : Chg) (bv : Value) (A : Option Addr) (l : List Int) (cp : Nat) (W : World) (h : Lies B W p D L m1 m2 fv ov)
    (hx : L[i]? = some x) (hf : D.files[i]? = some f) (ca : W.cell? ⟨ga, 0, none⟩ = some (.slice A l.length cp)) (hl : BytesAt B W (.slice A l.length cp) l) (cf : W.cell? ⟨gf, 0, none⟩ = some (.pointer (some ⟨x.1, 0, none⟩)))
    (cb : W.heap[gc]? = some (.cells #[.int .i64 (c.pos : Int), bv, .bool c.cut] 114 (0, 0))) (hbv : BytesAt B W bv c.b)
    (n1 : gf ≠ x.1) (n2 : some gf ≠ x.2.ownBlock) (n3 : some gc ≠ x.2.ownBlock) (hO : f.opn.length < 1099511627776) :
    Calls Tryz.prog 129 #[.pointer (some ⟨ga, 0, none⟩), .pointer (some ⟨gf, 0, none⟩), .pointer (some ⟨gc, 0, none⟩)] W fun en w' => en = .returned (.tuple #[]) ∧ (∃ rv, Lies B w' p (setF D i ⟨l, f.sure, f.opn ++ [c]⟩) (L.set i (x.1, rv)) m1 m2 fv ov) ∧ Turn B W w' := by
  obtain ⟨Ab, cpb, rfl⟩ := Kd.R_slice hbv
  obtain ⟨⟨nv, sv, ho, hn, hsu⟩, lo, hop⟩ := h.files.each i x f hx hf
  obtain ⟨inner, how⟩ := own_of hop
  have c0 : W.cell? ⟨x.1, 0, none⟩ = some nv := (blk_cell ho 0).trans rfl
  have f0 : W.frozen? ⟨x.1, 0, none⟩ = false := blk_frozen ho 0
  have n4 : gc ≠ x.1 := blk_ne cb ho (by decide)
  have n5 : some x.1 ≠ x.2.ownBlock := fun e => by obtain ⟨cs, hc⟩ := own_typed how _ e.symm; rw [ho] at hc; cases hc
  have HA := Aside0.mk h
  -- behind the first store
  have hb1 : But W (W.setCell ⟨x.1, 0, none⟩ (.slice A l.length cp)) (some x.1) := But.setCell W ⟨x.1, 0, none⟩ _
  have o1 : (W.setCell ⟨x.1, 0, none⟩ (.slice A l.length cp)).heap[x.1]? = some (.cells #[.slice A l.length cp, sv, x.2] 108 (0, 0)) := blk_put ho 0 _ rfl
  have nt : ∀ qs : List Nat, tF ∉ qs → Not W (some x.1) qs := fun qs hq => Not.cells (t := tF) (fun g hg => by obtain rfl := Option.some.inj hg; exact ⟨_, _, ho⟩) (fun q hq2 e => hq (e ▸ hq2))
  have HL1 := Aside0.mk (BytesAt.but hl hb1 (nt _ (by decide)))
  have HS1 := Aside0.mk (BytesAt.but hsu hb1 (nt _ (by decide)))
  have HV1 := Aside0.mk (BytesAt.but hbv hb1 (nt _ (by decide)))
  have HP1 := Aside0.mk (R_row hop hb1 (nt _ (by rw [chgE]; decide)))
  have d1 := (cell_far (W := W) (a := ⟨gf, 0, none⟩) (p := ⟨x.1, 0, none⟩) n1 (.slice A l.length cp)).trans cf
  have HC1 := Aside0.mk (blk_far cb (p := ⟨x.1, 0, none⟩) n4 (.slice A l.length cp))
  have HT1 := Aside0.mk ((Turn.refl B W).setCell ho rfl lo 0 (.slice A l.length cp))
  have HO1 := Aside0.mk o1
  have HB1 := Aside0.mk hb1
  clear hbv hl hsu hop how hn h cb ho
  go_enter Tryz.func129, Tryz.ntmps129
  go_wp2
  generalize W.setCell ⟨x.1, 0, none⟩ (.slice A l.length cp) = W1 at HL1 HS1 HV1 HP1 d1 HC1 HT1 HO1 HB1 ⊢
  have e2 : W1.cell? ⟨x.1, 2, none⟩ = some x.2 := (blk_cell HO1.out 2).trans rfl
  have g0 : W1.cell? ⟨gc, 0, none⟩ = some (.int .i64 (c.pos : Int)) := (blk_cell HC1.out 0).trans rfl
  have g1 : W1.cell? ⟨gc, 1, none⟩ = some (.slice Ab c.b.length cpb) := (blk_cell HC1.out 1).trans rfl
  have g2 : W1.cell? ⟨gc, 2, none⟩ = some (.bool c.cut) := (blk_cell HC1.out 2).trans rfl
  have HT2 := Aside0.mk HT1.out.drew
  have HO2 := Aside0.mk (show W1.drew.heap[x.1]? = _ from HO1.out)
  have HC2 := Aside0.mk (show W1.drew.heap[gc]? = _ from HC1.out)
  have HL2 := Aside0.mk (show BytesAt B W1.drew _ _ from HL1.out)
  have HS2 := Aside0.mk (show BytesAt B W1.drew _ _ from HS1.out)
  have HV2 := Aside0.mk (show BytesAt B W1.drew _ _ from HV1.out)
  have HP2 := Aside0.mk (show Kd.R kChg tC W1.drew B (fun k => k ≠ B.q) x.2 f.opn from HP1.out)
  have HB2 := Aside0.mk (show But W W1.drew _ from HB1.out)
  have HQ2 := Aside0.mk (show B.q < W1.drew.heap.size from Nat.lt_of_lt_of_le HA.out.lt HB1.out.1)
  clear HT1 HO1 HC1 HL1 HS1 HV1 HP1 HB1
  refine start_ (n := 11) (S := fun w' => w'.cell? ⟨gf, 0, none⟩ = some (.pointer (some ⟨x.1, 0, none⟩)) ∧ w'.cell? ⟨x.1, 2, none⟩ = some x.2 ∧ w'.cell? ⟨gc, 0, none⟩ = some (.int .i64 (c.pos : Int)) ∧ w'.cell? ⟨gc, 1, none⟩ = some (.slice Ab c.b.length cpb) ∧ w'.cell? ⟨gc, 2, none⟩ = some (.bool c.cut)) (ds := [10]) #[ff,ff,ff,ff,ff,ff,ff,ff,ff,ff,ff] (by kernel_rfl) rfl rfl ⟨d1, e2, g0, g1, g2⟩ (fun hHeld => ?_)
  generalize W1.drew = w2 at HT2 HO2 HC2 HL2 HS2 HV2 HP2 HB2 HQ2 hHeld ⊢
  have hg3 := blk_lt HC2.out
  have hHeld0 := hHeld
  refine take_ (i := 0) (N := some 7) (v := ?_) (a' := ?_) #[tt,ff,ff,ff,ff,ff,ff,ff,ff,ff,ff] rfl rfl (by kernel_rfl) (fun _ _ _ h => h) (Or.inl ⟨by rfl, ?_⟩) hHeld ?_ ?_
  rotate_left
  · rintro w' ⟨s0, s1, s2, s3, s4⟩
    go_simp
    with_reducible rfl
  rotate_left
  · simp only [Act.put, pkA, pkB, pkC, i64_w, i32_w]
    rfl
  refine take_ (i := 1) (N := some 8) (v := ?_) (a' := ?_) #[tt,tt,ff,ff,ff,ff,ff,ff,ff,ff,ff] rfl rfl (by kernel_rfl) (fun _ _ _ h => h) (Or.inl ⟨by rfl, ?_⟩) hHeld ?_ ?_
  rotate_left
  · rintro w' ⟨s0, s1, s2, s3, s4⟩
    go_simp
    with_reducible rfl
  rotate_left
  · simp only [Act.put, pkA, pkB, pkC, i64_w, i32_w]
    rfl
  refine pure_ (i := 2) (N := some 9) (v := ?_) (a' := ?_) #[tt,tt,tt,ff,ff,ff,ff,ff,ff,ff,ff] rfl rfl (by kernel_rfl) (fun _ _ _ h => h) (Or.inl ⟨by rfl, ?_⟩) ?_ ?_
  rotate_left
  · intro w'
    go_simp
    with_reducible rfl
  rotate_left
  · simp only [Act.put, pkA, pkB, pkC, i64_w, i32_w]
    rfl
  refine pure_ (i := 3) (N := some 10) (v := ?_) (a' := ?_) #[tt,tt,tt,tt,ff,ff,ff,ff,ff,ff,ff] rfl rfl (by kernel_rfl) (fun _ _ _ h => h) (Or.inl ⟨by rfl, ?_⟩) ?_ ?_
  rotate_left
  · intro w'
    go_simp
    with_reducible rfl
  rotate_left
  · simp only [Act.put, pkA, pkB, pkC, i64_w, i32_w]
    rfl
  refine take_ (i := 4) (N := some 11) (v := ?_) (a' := ?_) #[tt,tt,tt,tt,tt,ff,ff,ff,ff,ff,ff] rfl rfl (by kernel_rfl) (fun _ _ _ h => h) (Or.inl ⟨by rfl, ?_⟩) hHeld ?_ ?_
  rotate_left
  · rintro w' ⟨s0, s1, s2, s3, s4⟩
    go_simp
    with_reducible rfl
  rotate_left
  · simp only [Act.put, pkA, pkB, pkC, i64_w, i32_w]
    rfl
  refine take_ (i := 5) (N := some 12) (v := ?_) (a' := ?_) #[tt,tt,tt,tt,tt,tt,ff,ff,ff,ff,ff] rfl rfl (by kernel_rfl) (fun _ _ _ h => h) (Or.inl ⟨by rfl, ?_⟩) hHeld ?_ ?_
  rotate_left
  · rintro w' ⟨s0, s1, s2, s3, s4⟩
    go_simp
    with_reducible rfl
  rotate_left
  · simp only [Act.put, pkA, pkB, pkC, i64_w, i32_w]
    rfl
  refine one_ (i := 6) (N := some 13) #[tt,tt,tt,tt,tt,tt,tt,ff,ff,ff,ff] rfl rfl (by kernel_rfl) (by decide) (fun K hK => ?_)
  refine value_ (w1 := ?_) (v := ?_) (by rfl) rfl ?_ ?_
  rotate_left 2
  · go_simp
    constructor
    · rfl
    · rfl
  have k := fun (g i : Nat) (v : Value) (hc : w2.cell? ⟨g, i, none⟩ = some v) => (((Below.refl _ w2).alloc (Nat.le_refl _) (.cells #[.int .i64 (c.pos : Int), (.slice Ab c.b.length cpb), .bool c.cut] 114)).cell (p := ⟨g, i, none⟩) (World.block_lt_of_cell? w2 _ hc)).trans hc
  refine hK.out _ _ ⟨(k _ _ _ hHeld.1), (k _ _ _ hHeld.2.1), (k _ _ _ hHeld.2.2.1), (k _ _ _ hHeld.2.2.2.1), (k _ _ _ hHeld.2.2.2.2)⟩ (fun hHeld => ?_)
  clear hK K
  refine norm_ (a' := ?_) ?_ ?_
  rotate_left
  · show Act.put _ (some 13) _ = _
    simp only [Act.put, pkA, pkB, pkC, i64_w, i32_w]
    rfl
  refine one_ (i := 7) (N := some 14) #[tt,tt,tt,tt,tt,tt,tt,tt,ff,ff,ff] rfl rfl (by kernel_rfl) (by decide) (fun K hK => ?_)
  refine Kd.R_append_step kChg (w0 := w2) B (by rfl) (.tmp 11) (.tmp 13) 106 114 (.agg #[.int .i64 0, .slice none 0 0, .bool false]) 40 rfl Tryz.underlying106 infoC rfl (by decide) (by omega) x.2 f.opn c [.int .i64 (c.pos : Int), (.slice Ab c.b.length cpb), .bool c.cut] (fun k => k ≠ B.q) (fun k => k ≠ B.q ∧ some k ≠ x.2.ownBlock) rfl rfl ?aP (fun k h => h) (fun k h e => absurd h (by have := HQ2.out; omega)) ?aO (Below.refl _ _) ?aS ?aL ?_
  case aP => obtain ⟨inner, how⟩ := own_of HP2.out; exact ⟨[.int .i64 (c.pos : Int)], [.slice Ab c.b.length cpb, .bool c.cut], rfl, rfl, [.slice Ab c.b.length cpb], [.bool c.cut], rfl, ⟨.slice Ab c.b.length cpb, rfl, bytes_apart HV2.out how (by decide)⟩, rfl⟩
  case aO => exact HP2.out
  case aS => have := blk_lt HO2.out; omega
  case aL => omega
  intro v15 w3 ho hb hg hat
  obtain ⟨A15, cp15, rfl⟩ := Kd.R_slice ho
  have k := fun (g i : Nat) (v : Value) (hc : w2.cell? ⟨g, i, none⟩ = some v) (hne : some g ≠ x.2.ownBlock) => hg.cell (a := ⟨g, i, none⟩) (v := v) hc hne
  have d0 := hHeld0.1
  have d1 := hHeld0.2.1
  have d2 := hHeld0.2.2.1
  have d3 := hHeld0.2.2.2.1
  have d4 := hHeld0.2.2.2.2
  have e0 := k _ _ _ d0 n2
  have e1 := k _ _ _ d1 n5
  have e2 := k _ _ _ d2 n3
  have e3 := k _ _ _ d3 n3
  have e4 := k _ _ _ d4 n3
  have fz : w3.frozen? ⟨x.1, 2, none⟩ = false := blk_frozen ((But.grown hg).obj HO2.out n5) 2
  have HE3 := Aside0.mk ho
  have HG3 := Aside0.mk hg
  have HAt := Aside0.mk hat
  have HP3 := Aside0.mk ((But.grown hg).obj HO2.out n5)
  clear ho hb hg hat k d0 d1 d2 d3 d4
  refine hK.out _ _ ⟨e0, e1, e2, e3, e4⟩ (fun hHeld => ?_)
  clear hK K
  refine norm_ (a' := ?_) ?_ ?_
  rotate_left
  · show Act.put _ (some 14) _ = _
    simp only [Act.put, pkA, pkB, pkC, i64_w, i32_w]
    rfl
  refine pure_ (i := 8) (N := some 15) (v := ?_) (a' := ?_) #[tt,tt,tt,tt,tt,tt,tt,tt,tt,ff,ff] rfl rfl (by kernel_rfl) (fun _ _ _ h => h) (Or.inl ⟨by rfl, ?_⟩) ?_ ?_
  rotate_left
  · intro w'
    go_simp
    with_reducible rfl
  rotate_left
  · simp only [Act.put, pkA, pkB, pkC, i64_w, i32_w]
    rfl
  refine pure_ (i := 9) (N := some 16) (v := ?_) (a' := ?_) #[tt,tt,tt,tt,tt,tt,tt,tt,tt,tt,ff] rfl rfl (by kernel_rfl) (fun _ _ _ h => h) (Or.inl ⟨by rfl, ?_⟩) ?_ ?_
  rotate_left
  · intro w'
    go_simp
    with_reducible rfl
  rotate_left
  · simp only [Act.put, pkA, pkB, pkC, i64_w, i32_w]
    rfl
  refine last_ (i := 10) (N := none) #[tt,tt,tt,tt,tt,tt,tt,tt,tt,tt,tt] rfl rfl (by kernel_rfl) (by decide) (fun K hK => ?_)
  refine skip_ (w1 := ?_) (by rfl) rfl ?_ ?_
  rotate_left
  · go_simp
    rfl
  refine hK.out _ _ ?_
  clear hK K
  refine done_ (by kernel_rfl) ?_
  go_end0
  obtain ⟨inner, how⟩ := own_of HP2.out
  have hE : ChgsAt B w3 (.slice A15 (f.opn.length + 1) cp15) (f.opn ++ [c]) := by
    have h5 := HE3.out
    rw [show (f.opn ++ [c]).length = f.opn.length + 1 by simp] at h5
    exact h5
  have hAt : (Value.slice A15 (f.opn.length + 1) cp15).ownBlock = x.2.ownBlock ∨ ∃ b, (Value.slice A15 (f.opn.length + 1) cp15).ownBlock = some b ∧ w2.heap.size ≤ b := by
    have h5 := HAt.out
    rw [show (f.opn ++ [c]).length = f.opn.length + 1 by simp] at h5
    exact h5
  have hk3 := But.grown HG3.out
  have nr : ∀ qs : List Nat, tC ∉ qs → Not w2 x.2.ownBlock qs := fun qs hq => Not.own how (fun q hq2 e => hq (e ▸ hq2))
  have nx : ∀ qs : List Nat, tF ∉ qs → Not w3 (some x.1) qs := fun qs hq => Not.cells (t := tF) (fun g hg => by obtain rfl := Option.some.inj hg; exact ⟨_, _, HP3.out⟩) (fun q hq2 e => hq (e ▸ hq2))
  have hb4 := But.setCell w3 ⟨x.1, 2, none⟩ (.slice A15 (f.opn.length + 1) cp15)
  refine ⟨rfl, ⟨_, HA.out.file i x f hx hf ?_ (fun k hk h1 h2 => ?_) (.slice A15 (f.opn.length + 1) cp15) ⟨l, f.sure, f.opn ++ [c]⟩ ⟨⟨_, _, blk_put HP3.out 2 _ rfl, ?_, ?_⟩, lo, ?_⟩ ?_⟩, ?_⟩
  · exact Nat.le_trans HB2.out.1 (Nat.le_trans hk3.1 hb4.1)
  · have k1 := HB2.out.2 k hk (fun e => h1 (Option.some.inj e))
    have l1 : k < w2.heap.size := Nat.lt_of_lt_of_le hk HB2.out.1
    have k2 := hk3.2 k l1 (fun e => h2 e.symm)
    have k3 := hb4.2 k (Nat.lt_of_lt_of_le l1 hk3.1) (fun e => h1 (Option.some.inj e))
    exact k3.trans (k2.trans k1)
  · exact BytesAt.but (BytesAt.but HL2.out hk3 (nr _ (by decide))) hb4 (nx _ (by decide))
  · exact BytesAt.but (BytesAt.but HS2.out hk3 (nr _ (by decide))) hb4 (nx _ (by decide))
  · exact R_row hE hb4 (nx _ (by rw [chgE]; decide))
  · rcases hAt with h | ⟨b, h1, h2⟩
    · exact .inr (.inl h)
    · exact .inr (.inr ⟨b, h1, Nat.le_trans HB2.out.1 h2⟩)
  · exact (HT2.out.own how rfl HG3.out).setCell HP3.out rfl lo 2 _
end Go.Proofs.YtpcfnkmljchiiaaGreatDoor.DCg
end
section
/- Disk.step: the power; a step that is taken. Written by a small program (one text a closure). -/
namespace Go.Proofs.YtpcfnkmljchiiaaGreatDoor.DStp
open Go Go.RowKit Go.Maps Go.WideMaps Go.Proofs.YtpcfnkmljchiiaaGreatDoorW.PrintWords Go.Proofs.YtpcfnkmljchiiaaGreatDoorW.PrintLast DBase DPl DAt DEnt DNam Go.Proofs.YtpcfnkmljchiiaaGreatDoor.Is
variable (B : Bx) (p : Nat) (D : Dsk) (L : List (Nat × Value)) (m1 m2 : Nat) (fv ov : Value)
set_option maxRecDepth 100000 in
set_option maxHeartbeats 4000000 in
theorem step_off (E : Int → Addr) (fn : Value) (w : World) (h : Lies B w p D L m1 m2 fv ov) (hE : ErrAt B w E) (h0 : D.armed = 0) :
    Calls Tryz.prog 92 #[.pointer (some ⟨p, 0, none⟩), fn] w fun en w' => en = .returned (errV E (some 8)) ∧ Lies B w' p (offD D) L m1 m2 fv ov ∧ But w w' (some p) ∧ Turn B w w' := by
  obtain ⟨files, now, sure, opn, quota, armed, off, steps⟩ := D
  simp only at h0
  subst h0
  have c5 : w.cell? ⟨p, 5, none⟩ = some (.int .i64 0) := (blk_cell h.obj 5).trans rfl
  have c6 : w.cell? ⟨p, 6, none⟩ = some (.bool off) := (blk_cell h.obj 6).trans rfl
  have c8 : w.cell? ⟨7, 0, none⟩ = some (.iface 212 (.pointer (some (E 8)))) := by have := hE.errs.var 8 (by simp [dErr]); rwa [gPower] at this
  have ne8 : 7 ≠ p := fun e => by
    have := (hE.lo 8 (by simp [dErr])).1
    rw [gPower] at this
    have := h.lop
    omega
  have c8b : ∀ u, (w.setCell ⟨p, 6, none⟩ u).cell? ⟨7, 0, none⟩ = some (.iface 212 (.pointer (some (E 8)))) := fun u => cell_far2 c8 (show 7 ≠ p from ne8) u
  have f6 : w.frozen? ⟨p, 6, none⟩ = false := blk_frozen h.obj 6
  have HO := Aside0.mk h
  clear h hE
  go_enter Tryz.func92, Tryz.ntmps92
  go_wp2
  go_ret
  exact ⟨rfl, HO.out.reobj (w' := w.setCell ⟨p, 6, none⟩ (.bool true)) quota 0 true steps (blk_put HO.out.obj 6 _ rfl) (But.setCell w ⟨p, 6, none⟩ _), But.setCell w ⟨p, 6, none⟩ _, (Turn.refl B w).setCell HO.out.obj rfl HO.out.lop 6 _⟩
set_option maxRecDepth 100000 in
set_option maxHeartbeats 4000000 in
theorem step_changed (a0 a1 a2 : Nat) (R : World → Prop) (w : World) (h : Lies B w p D L m1 m2 fv ov) (h0 : D.armed ≠ 0) (ha : D.armed ≤ 9223372036854775807) (ha0 : -1 ≤ D.armed) (hs0 : 0 ≤ D.steps) (hs : D.steps ≤ 1099511627776)
    (hdo : ∀ w1, Lies B w1 p (stepD D) L m1 m2 fv ov → But w w1 (some p) → Turn B w w1 → Calls Tryz.prog 129 #[.pointer (some ⟨a0, 0, none⟩), .pointer (some ⟨a1, 0, none⟩), .pointer (some ⟨a2, 0, none⟩)] w1 fun e w2 => e = .returned (.tuple #[]) ∧ R w2) :
    Calls Tryz.prog 92 #[.pointer (some ⟨p, 0, none⟩), .func (Fn.func 129) #[] #[.pointer (some ⟨a0, 0, none⟩), .pointer (some ⟨a1, 0, none⟩), .pointer (some ⟨a2, 0, none⟩)]] w fun en w' => en = .returned .nilIface ∧ R w' := by
  obtain ⟨files, now, sure, opn, quota, armed, off, steps⟩ := D
  simp only at h0 ha ha0 hs0 hs
  have c5 : w.cell? ⟨p, 5, none⟩ = some (.int .i64 armed) := (blk_cell h.obj 5).trans rfl
  have c7 : w.cell? ⟨p, 7, none⟩ = some (.int .i64 steps) := (blk_cell h.obj 7).trans rfl
  have f5 : w.frozen? ⟨p, 5, none⟩ = false := blk_frozen h.obj 5
  have f7 : w.frozen? ⟨p, 7, none⟩ = false := blk_frozen h.obj 7
  have HO := Aside0.mk h
  clear h
  have t0 : (armed == 0) = false := by simpa using h0
  have HDO := Aside0.mk hdo
  clear hdo
  by_cases hpos : 0 < armed
  · have t1 : decide (0 < armed) = true := decide_eq_true hpos
    have HD : stepD ⟨files, now, sure, opn, quota, armed, off, steps⟩ = ⟨files, now, sure, opn, quota, armed - 1, off, steps + 1⟩ := by simp only [stepD]; rw [if_pos hpos]
    have HC := Aside0.mk (HDO.out ((w.setCell ⟨p, 5, none⟩ (.int .i64 (armed - 1))).setCell ⟨p, 7, none⟩ (.int .i64 (steps + 1))) (by rw [HD]; exact HO.out.reobj _ _ _ _ (blk_put (blk_put HO.out.obj 5 _ rfl) 7 _ rfl) ((But.setCell w ⟨p, 5, none⟩ _).trans (But.setCell _ ⟨p, 7, none⟩ _))) ((But.setCell w ⟨p, 5, none⟩ _).trans (But.setCell _ ⟨p, 7, none⟩ _)) (((Turn.refl B w).setCell HO.out.obj rfl HO.out.lop 5 _).setCell (blk_put HO.out.obj 5 _ rfl) rfl HO.out.lop 7 _))
    clear HD HDO
    go_enter Tryz.func92, Tryz.ntmps92
    go_wp2_with (go_at_call 129; refine HC.out.mono ?_; rintro e w1 ⟨rfl, hr⟩; have HR := Aside0.mk hr; clear hr)
    go_ret
    exact ⟨rfl, HR.out⟩
  · have t1 : decide (0 < armed) = false := decide_eq_false hpos
    have HD : stepD ⟨files, now, sure, opn, quota, armed, off, steps⟩ = ⟨files, now, sure, opn, quota, armed, off, steps + 1⟩ := by simp only [stepD]; rw [if_neg hpos]
    have HC := Aside0.mk (HDO.out (w.setCell ⟨p, 7, none⟩ (.int .i64 (steps + 1))) (by rw [HD]; exact HO.out.reobj _ _ _ _ (blk_put HO.out.obj 7 _ rfl) (But.setCell w ⟨p, 7, none⟩ _)) (But.setCell w ⟨p, 7, none⟩ _) ((Turn.refl B w).setCell HO.out.obj rfl HO.out.lop 7 _))
    clear HD HDO
    go_enter Tryz.func92, Tryz.ntmps92
    go_wp2_with (go_at_call 129; refine HC.out.mono ?_; rintro e w1 ⟨rfl, hr⟩; have HR := Aside0.mk hr; clear hr)
    go_ret
    exact ⟨rfl, HR.out⟩
set_option maxRecDepth 100000 in
set_option maxHeartbeats 4000000 in
theorem step_sync (a0 : Nat) (R : World → Prop) (w : World) (h : Lies B w p D L m1 m2 fv ov) (h0 : D.armed ≠ 0) (ha : D.armed ≤ 9223372036854775807) (ha0 : -1 ≤ D.armed) (hs0 : 0 ≤ D.steps) (hs : D.steps ≤ 1099511627776)
    (hdo : ∀ w1, Lies B w1 p (stepD D) L m1 m2 fv ov → But w w1 (some p) → Turn B w w1 → Calls Tryz.prog 103 #[.pointer (some ⟨a0, 0, none⟩)] w1 fun e w2 => e = .returned (.tuple #[]) ∧ R w2) :
    Calls Tryz.prog 92 #[.pointer (some ⟨p, 0, none⟩), .func (Fn.func 103) #[] #[.pointer (some ⟨a0, 0, none⟩)]] w fun en w' => en = .returned .nilIface ∧ R w' := by
  obtain ⟨files, now, sure, opn, quota, armed, off, steps⟩ := D
  simp only at h0 ha ha0 hs0 hs
  have c5 : w.cell? ⟨p, 5, none⟩ = some (.int .i64 armed) := (blk_cell h.obj 5).trans rfl
  have c7 : w.cell? ⟨p, 7, none⟩ = some (.int .i64 steps) := (blk_cell h.obj 7).trans rfl
  have f5 : w.frozen? ⟨p, 5, none⟩ = false := blk_frozen h.obj 5
  have f7 : w.frozen? ⟨p, 7, none⟩ = false := blk_frozen h.obj 7
  have HO := Aside0.mk h
  clear h
  have t0 : (armed == 0) = false := by simpa using h0
  have HDO := Aside0.mk hdo
  clear hdo
  by_cases hpos : 0 < armed
  · have t1 : decide (0 < armed) = true := decide_eq_true hpos
    have HD : stepD ⟨files, now, sure, opn, quota, armed, off, steps⟩ = ⟨files, now, sure, opn, quota, armed - 1, off, steps + 1⟩ := by simp only [stepD]; rw [if_pos hpos]
    have HC := Aside0.mk (HDO.out ((w.setCell ⟨p, 5, none⟩ (.int .i64 (armed - 1))).setCell ⟨p, 7, none⟩ (.int .i64 (steps + 1))) (by rw [HD]; exact HO.out.reobj _ _ _ _ (blk_put (blk_put HO.out.obj 5 _ rfl) 7 _ rfl) ((But.setCell w ⟨p, 5, none⟩ _).trans (But.setCell _ ⟨p, 7, none⟩ _))) ((But.setCell w ⟨p, 5, none⟩ _).trans (But.setCell _ ⟨p, 7, none⟩ _)) (((Turn.refl B w).setCell HO.out.obj rfl HO.out.lop 5 _).setCell (blk_put HO.out.obj 5 _ rfl) rfl HO.out.lop 7 _))
    clear HD HDO
    go_enter Tryz.func92, Tryz.ntmps92
    go_wp2_with (go_at_call 103; refine HC.out.mono ?_; rintro e w1 ⟨rfl, hr⟩; have HR := Aside0.mk hr; clear hr)
    go_ret
    exact ⟨rfl, HR.out⟩
  · have t1 : decide (0 < armed) = false := decide_eq_false hpos
    have HD : stepD ⟨files, now, sure, opn, quota, armed, off, steps⟩ = ⟨files, now, sure, opn, quota, armed, off, steps + 1⟩ := by simp only [stepD]; rw [if_neg hpos]
    have HC := Aside0.mk (HDO.out (w.setCell ⟨p, 7, none⟩ (.int .i64 (steps + 1))) (by rw [HD]; exact HO.out.reobj _ _ _ _ (blk_put HO.out.obj 7 _ rfl) (But.setCell w ⟨p, 7, none⟩ _)) (But.setCell w ⟨p, 7, none⟩ _) ((Turn.refl B w).setCell HO.out.obj rfl HO.out.lop 7 _))
    clear HD HDO
    go_enter Tryz.func92, Tryz.ntmps92
    go_wp2_with (go_at_call 103; refine HC.out.mono ?_; rintro e w1 ⟨rfl, hr⟩; have HR := Aside0.mk hr; clear hr)
    go_ret
    exact ⟨rfl, HR.out⟩
set_option maxRecDepth 100000 in
set_option maxHeartbeats 4000000 in
theorem step_syncdir (a0 : Nat) (R : World → Prop) (w : World) (h : Lies B w p D L m1 m2 fv ov) (h0 : D.armed ≠ 0) (ha : D.armed ≤ 9223372036854775807) (ha0 : -1 ≤ D.armed) (hs0 : 0 ≤ D.steps) (hs : D.steps ≤ 1099511627776)
    (hdo : ∀ w1, Lies B w1 p (stepD D) L m1 m2 fv ov → But w w1 (some p) → Turn B w w1 → Calls Tryz.prog 93 #[.pointer (some ⟨a0, 0, none⟩)] w1 fun e w2 => e = .returned (.tuple #[]) ∧ R w2) :
    Calls Tryz.prog 92 #[.pointer (some ⟨p, 0, none⟩), .func (Fn.func 93) #[] #[.pointer (some ⟨a0, 0, none⟩)]] w fun en w' => en = .returned .nilIface ∧ R w' := by
  obtain ⟨files, now, sure, opn, quota, armed, off, steps⟩ := D
  simp only at h0 ha ha0 hs0 hs
  have c5 : w.cell? ⟨p, 5, none⟩ = some (.int .i64 armed) := (blk_cell h.obj 5).trans rfl
  have c7 : w.cell? ⟨p, 7, none⟩ = some (.int .i64 steps) := (blk_cell h.obj 7).trans rfl
  have f5 : w.frozen? ⟨p, 5, none⟩ = false := blk_frozen h.obj 5
  have f7 : w.frozen? ⟨p, 7, none⟩ = false := blk_frozen h.obj 7
  have HO := Aside0.mk h
  clear h
  have t0 : (armed == 0) = false := by simpa using h0
  have HDO := Aside0.mk hdo
  clear hdo
  by_cases hpos : 0 < armed
  · have t1 : decide (0 < armed) = true := decide_eq_true hpos
    have HD : stepD ⟨files, now, sure, opn, quota, armed, off, steps⟩ = ⟨files, now, sure, opn, quota, armed - 1, off, steps + 1⟩ := by simp only [stepD]; rw [if_pos hpos]
    have HC := Aside0.mk (HDO.out ((w.setCell ⟨p, 5, none⟩ (.int .i64 (armed - 1))).setCell ⟨p, 7, none⟩ (.int .i64 (steps + 1))) (by rw [HD]; exact HO.out.reobj _ _ _ _ (blk_put (blk_put HO.out.obj 5 _ rfl) 7 _ rfl) ((But.setCell w ⟨p, 5, none⟩ _).trans (But.setCell _ ⟨p, 7, none⟩ _))) ((But.setCell w ⟨p, 5, none⟩ _).trans (But.setCell _ ⟨p, 7, none⟩ _)) (((Turn.refl B w).setCell HO.out.obj rfl HO.out.lop 5 _).setCell (blk_put HO.out.obj 5 _ rfl) rfl HO.out.lop 7 _))
    clear HD HDO
    go_enter Tryz.func92, Tryz.ntmps92
    go_wp2_with (go_at_call 93; refine HC.out.mono ?_; rintro e w1 ⟨rfl, hr⟩; have HR := Aside0.mk hr; clear hr)
    go_ret
    exact ⟨rfl, HR.out⟩
  · have t1 : decide (0 < armed) = false := decide_eq_false hpos
    have HD : stepD ⟨files, now, sure, opn, quota, armed, off, steps⟩ = ⟨files, now, sure, opn, quota, armed, off, steps + 1⟩ := by simp only [stepD]; rw [if_neg hpos]
    have HC := Aside0.mk (HDO.out (w.setCell ⟨p, 7, none⟩ (.int .i64 (steps + 1))) (by rw [HD]; exact HO.out.reobj _ _ _ _ (blk_put HO.out.obj 7 _ rfl) (But.setCell w ⟨p, 7, none⟩ _)) (But.setCell w ⟨p, 7, none⟩ _) ((Turn.refl B w).setCell HO.out.obj rfl HO.out.lop 7 _))
    clear HD HDO
    go_enter Tryz.func92, Tryz.ntmps92
    go_wp2_with (go_at_call 93; refine HC.out.mono ?_; rintro e w1 ⟨rfl, hr⟩; have HR := Aside0.mk hr; clear hr)
    go_ret
    exact ⟨rfl, HR.out⟩
end Go.Proofs.YtpcfnkmljchiiaaGreatDoor.DStp
end
