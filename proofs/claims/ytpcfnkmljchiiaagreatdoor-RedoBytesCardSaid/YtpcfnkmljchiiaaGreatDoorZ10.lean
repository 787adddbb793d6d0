/- Steps towards RBoth: DCh2. -/
import Derived.Test.YtpcfnkmljchiiaaGreatDoorZ09
set_option linter.unusedVariables false
set_option linter.unusedSimpArgs false
/- Disk.changed: an open step of a file. Written by a small program. -/
namespace Go.Proofs.YtpcfnkmljchiiaaGreatDoor.DCh2
open Go Go.RowKit Go.Maps Go.WideMaps Go.Proofs.YtpcfnkmljchiiaaGreatDoorW.PrintWords Go.Proofs.YtpcfnkmljchiiaaGreatDoorW.PrintLast DBase DPl DAt DEnt DNam Go.Proofs.YtpcfnkmljchiiaaGreatDoor.Is DFil DUsd DChg DCg DStp
theorem gQuota : gOf 7 = 6 := by decide
theorem chg_calls (B : Bx) (c : Chg) (bv v : Value) (l : List Int) (w : World) (hb : BytesAt B w bv c.b) (hv : BytesAt B w v l) (hp : c.pos ≤ l.length) (hl : l.length ≤ 1073741824) (hl2 : c.pos + c.b.length ≤ 1080000000) :
    Calls Tryz.prog 66 #[.agg #[.int .i64 (c.pos : Int), bv, .bool c.cut], v] w fun e w' => ∃ v', e = .returned v' ∧ Kd.R kb 5 w' w.heap.size (fun _ => True) v' (c.go l) ∧ Below w.heap.size w w' := by
  obtain ⟨A, cp, rfl, h1, h2⟩ := Kd.R_reads hv
  obtain ⟨A2, cp2, rfl, h3, h4⟩ := Kd.R_reads hb
  obtain ⟨pos, b, cut⟩ := c
  simp only at hp hl2 h3 h4 ⊢
  cases cut with
  | true =>
    have e : Chg.go ⟨pos, b, true⟩ l = l.take pos := if_pos rfl
    rw [e]
    exact chg_cut A cp l _ pos _ w h2 h1 hp hl rfl
  | false =>
    have e : Chg.go ⟨pos, b, false⟩ l = l.take pos ++ b ++ l.drop (min l.length (pos + b.length)) := if_neg (by simp)
    rw [e]
    exact chg_put A A2 cp cp2 l b _ _ pos w h2 h1 h4 h3 hp hl hl2 rfl rfl
/-- Is there no room for a step? -/
def noRoom (D : Dsk) (f : Fil) (c : Chg) : Prop := f.now.length < (c.go f.now).length ∧ D.quota - usedD D < (c.go f.now).length - (f.now.length : Int)
instance (D : Dsk) (f : Fil) (c : Chg) : Decidable (noRoom D f c) := by unfold noRoom; exact inferInstance
def changedD (D : Dsk) (i : Nat) (f : Fil) (c : Chg) : Option Int × Dsk :=
  if noRoom D f c then (some 7, D) else if D.armed = 0 then (some 8, offD D) else (none, setF (stepD D) i ⟨c.go f.now, f.sure, f.opn ++ [c]⟩)
/-- What the walk knows behind the call of do: the two boxes, the new bytes' own cell. -/
structure CW (B : Bx) (w : World) (x1 : Nat) (c : Chg) (bv : Value) (l : List Int) (ga : Nat) (v : Value) (U : World) : Prop where
  bel : Below w.heap.size w U
  cf : U.cell? ⟨w.heap.size, 0, none⟩ = some (.pointer (some ⟨x1, 0, none⟩))
  cb : U.heap[w.heap.size + 1]? = some (.cells #[.int .i64 (c.pos : Int), bv, .bool c.cut] 114 (0, 0))
  cn : U.cell? ⟨ga, 0, none⟩ = some v
  bytes : BytesAt B U v l
  gg : w.heap.size ≤ ga
theorem CW.below {B : Bx} {w : World} {x1 : Nat} {c : Chg} {bv : Value} {l : List Int} {ga : Nat} {v : Value} {U V : World} (h : CW B w x1 c bv l ga v U) (hb : Below U.heap.size U V) : CW B w x1 c bv l ga v V :=
  ⟨h.bel.trans (hb.mono h.bel.size), (hb.cell (p := ⟨w.heap.size, 0, none⟩) (World.block_lt_of_cell? U _ h.cf)).trans h.cf, (hb.block _ (blk_lt h.cb)).trans h.cb, (hb.cell (p := ⟨ga, 0, none⟩) (World.block_lt_of_cell? U _ h.cn)).trans h.cn, h.bytes.turn (Turn.of_below hb), h.gg⟩
theorem CW.drew {B : Bx} {w : World} {x1 : Nat} {c : Chg} {bv : Value} {l : List Int} {ga : Nat} {v : Value} {U : World} (h : CW B w x1 c bv l ga v U) : CW B w x1 c bv l ga v U.drew := h.below (Below.refl _ _).drew
/-- .. and behind the step's own stores. -/
theorem cg_after {B : Bx} {p : Nat} {D : Dsk} {L : List (Nat × Value)} {m1 m2 : Nat} {fv ov : Value} {i : Nat} {x : Nat × Value} {f : Fil} {c : Chg} {bv v : Value} {ga : Nat} {w U w1 : World} (hw : Lies B w p D L m1 m2 fv ov) (hx : L[i]? = some x) (hf : D.files[i]? = some f)
    (hk : f.Ok D.steps) (hs : D.steps ≤ 1000000000) (H : CW B w x.1 c bv (c.go f.now) ga v U) (hbv : BytesAt B U bv c.b) (hl : Lies B w1 p (stepD D) L m1 m2 fv ov) (hb : But U w1 (some p)) (ht : Turn B U w1) :
    Calls Tryz.prog 129 #[.pointer (some ⟨ga, 0, none⟩), .pointer (some ⟨w.heap.size, 0, none⟩), .pointer (some ⟨w.heap.size + 1, 0, none⟩)] w1 fun en w' => en = .returned (.tuple #[]) ∧ ((∃ rv, Lies B w' p (setF (stepD D) i ⟨c.go f.now, f.sure, f.opn ++ [c]⟩) (L.set i (x.1, rv)) m1 m2 fv ov) ∧ Turn B U w') := by
  have hp := blk_lt hw.obj
  obtain ⟨A, cp, rfl⟩ := Kd.R_slice H.bytes
  obtain ⟨⟨nv, sv, ho, _, _⟩, _, hop⟩ := hw.files.each i x f hx hf
  obtain ⟨inner, how⟩ := own_of hop
  have h1 := blk_lt ho
  have hcnt := hk.cnt
  have g := H.gg
  have c1 := hb.2 _ (World.block_lt_of_cell? U _ H.cf) (fun e => by have := Option.some.inj e; simp only at this; omega)
  have c2 := hb.2 _ (World.block_lt_of_cell? U _ H.cn) (fun e => by have := Option.some.inj e; simp only at this; omega)
  have c3 := hb.obj H.cb (fun e => by have := Option.some.inj e; omega)
  refine (changed1 B p ga w.heap.size (w.heap.size + 1) (stepD D) L m1 m2 fv ov i x f c bv A (c.go f.now) cp w1 hl hx hf ((World.cell?_of_block (w := U) c2).trans H.cn) (H.bytes.turn ht) ((World.cell?_of_block (w := U) c1).trans H.cf) c3 (hbv.turn ht) (by omega) (own_ne_new how 0) (own_ne_new how 1) (by omega)).mono ?_
  rintro e w2 ⟨rfl, h2, h3⟩
  exact ⟨rfl, h2, ht.trans h3⟩
set_option maxRecDepth 100000 in
set_option maxHeartbeats 8000000 in
theorem changed_full (B : Bx) (p : Nat) (D : Dsk) (L : List (Nat × Value)) (m1 m2 : Nat) (fv ov : Value) (i : Nat) (x : Nat × Value) (f : Fil) (c : Chg) (bv : Value) (E : Int → Addr) (w : World) (h : Lies B w p D L m1 m2 fv ov) (hE : ErrAt B w E) (hx : L[i]? = some x) (hf : D.files[i]? = some f)
    (hbv : BytesAt B w bv c.b) (hk : D.Ok) (hs : D.steps ≤ 1000000000) (hp : c.pos ≤ f.now.length) (hl2 : c.pos + c.b.length ≤ 1080000000) (hno : noRoom D f c) :
    Calls Tryz.prog 94 #[.pointer (some ⟨p, 0, none⟩), .pointer (some ⟨x.1, 0, none⟩), .agg #[.int .i64 (c.pos : Int), bv, .bool c.cut]] w fun en w' => en = .returned (errV E (changedD D i f c).1) ∧ DiskAt B w' p (changedD D i f c).2 ∧ Turn B w w' := by
  have hres : changedD D i f c = (some 7, D) := by unfold changedD; rw [if_pos hno]
  rw [hres]
  clear hres
  obtain ⟨rs, hrs⟩ : ∃ rs, rs = ((some 7, D) : Option Int × Dsk) := ⟨_, rfl⟩
  rw [← hrs]
  have HRS := Aside0.mk hrs
  clear hrs
  have hkf := hk.fil f (List.mem_of_getElem? hf)
  obtain ⟨⟨nv, sv, ho, hn, hsu⟩, lo, hop⟩ := h.files.each i x f hx hf
  have hpl := blk_lt h.obj
  obtain ⟨A, cp, rfl⟩ := Kd.R_slice hn
  obtain ⟨Ab, cpb, rfl⟩ := Kd.R_slice hbv
  have hlenG := chg_len c f.now 1080000000 (by have := hkf.nowL; omega) hl2
  have hnl1 := hkf.nowL
  have HLI := Aside0.mk h
  have HER := Aside0.mk hE
  have HKf := Aside0.mk hkf
  have HST := Aside0.mk hs
  have HFX := Aside0.mk hf
  have HXX := Aside0.mk hx
  have HOO := Aside0.mk ho
  have hb0 : Below w.heap.size w ((w.alloc (.cells #[.pointer (some ⟨x.1, 0, none⟩)] 103)).alloc (.cells #[.int .i64 (c.pos : Int), .slice Ab c.b.length cpb, .bool c.cut] 114)) := ((Below.refl _ w).alloc (Nat.le_refl _) _).alloc (by simp) _
  have HB0 := Aside0.mk hb0
  have e0 : ((w.alloc (.cells #[.pointer (some ⟨x.1, 0, none⟩)] 103)).alloc (.cells #[.int .i64 (c.pos : Int), .slice Ab c.b.length cpb, .bool c.cut] 114)).heap[w.heap.size]? = some (.cells #[.pointer (some ⟨x.1, 0, none⟩)] 103 (0, 0)) :=
    (Below.heap_alloc _ _ _ (by simp)).trans (heap_alloc_new w _)
  have e1 : ((w.alloc (.cells #[.pointer (some ⟨x.1, 0, none⟩)] 103)).alloc (.cells #[.int .i64 (c.pos : Int), .slice Ab c.b.length cpb, .bool c.cut] 114)).heap[w.heap.size + 1]? = some (.cells #[.int .i64 (c.pos : Int), .slice Ab c.b.length cpb, .bool c.cut] 114 (0, 0)) := by
    simpa using heap_alloc_new (w.alloc (.cells #[.pointer (some ⟨x.1, 0, none⟩)] 103)) (.cells #[.int .i64 (c.pos : Int), .slice Ab c.b.length cpb, .bool c.cut] 114)
  have HCF := Aside0.mk ((blk_cell e0 0).trans rfl : _ = some (Value.pointer (some ⟨x.1, 0, none⟩)))
  have HCB := Aside0.mk e1
  have HDO := Aside0.mk (fun (U : World) (hb : Below w.heap.size w U) => chg_calls B c (.slice Ab c.b.length cpb) (.slice A f.now.length cp) f.now U (hbv.turn ⟨hb.os, hb.tape, hb.output, hb.size, fun k _ hs => hb.block k hs, fun k o ho _ => (hb.block k (blk_lt ho)).trans ho⟩) (hn.turn ⟨hb.os, hb.tape, hb.output, hb.size, fun k _ hs => hb.block k hs, fun k o ho _ => (hb.block k (blk_lt ho)).trans ho⟩) hp hkf.nowL hl2)
  have HBV := Aside0.mk hbv
  have HLO := Aside0.mk (show B.n ≤ w.heap.size ∧ B.q < w.heap.size by have := h.lop; have := h.lt; exact ⟨by omega, h.lt⟩)
  have HUS := Aside0.mk (fun (U : World) (hb : Below w.heap.size w U) => used_calls p D U (h.below hb) hk hs)
  have HAR := Aside0.mk (show D.armed ≤ 9223372036854775807 ∧ -1 ≤ D.armed ∧ 0 ≤ D.steps ∧ D.steps ≤ 1099511627776 from ⟨hk.armed1, hk.armed0, hk.steps0, by omega⟩)
  have HQ := Aside0.mk (show w.cell? ⟨p, 4, none⟩ = some (.int .i64 D.quota) from (blk_cell h.obj 4).trans rfl)
  have HU := Aside0.mk (show (usedD D : Int) ≤ 2000000000000000000 by
    have h1 := hk.nowF
    have h2 := gone_le (szOf D.files) 1073741824 (szOf_le hk) (fun _ => false) D.now
    rw [gone_end (szOf D.files) D.now _ (fun _ => rfl)] at h2
    have h3 := now_len hk
    have h4 : usedD D = (D.now.map fun p => szOf D.files p.2).sum := rfl
    have h5 : D.now.length * 1073741824 ≤ 1000000000 * 1073741824 := Nat.mul_le_mul_right _ (by omega)
    omega)
  have hq0 := hk.quota0
  have hq1 := hk.quota1
  obtain ⟨nl, hnl⟩ : ∃ nl, nl = f.now.length := ⟨_, rfl⟩
  obtain ⟨gl, hgl⟩ : ∃ gl, gl = (c.go f.now).length := ⟨_, rfl⟩
  obtain ⟨us, hus⟩ : ∃ us, us = usedD D := ⟨_, rfl⟩
  have HN0 := Aside0.mk ((blk_cell ho 0).trans rfl : w.cell? ⟨x.1, 0, none⟩ = some (.slice A f.now.length cp))
  have s1 : IntKind.i64.wrap ((gl : Int) - (nl : Int)) = (gl : Int) - (nl : Int) := IntWalk.i64_in _ ⟨by omega, by omega⟩
  have s2 : IntKind.i64.wrap (D.quota - (us : Int)) = D.quota - (us : Int) := IntWalk.i64_in _ ⟨by have := HU.out; omega, by have := HU.out; omega⟩
  have hlt : f.now.length < (c.go f.now).length := hno.1
  have t1 : decide (nl < gl) = true := decide_eq_true (by omega)
  have t2 : decide (D.quota - (us : Int) < (gl : Int) - (nl : Int)) = true := decide_eq_true (by rw [hus, hgl, hnl]; exact hno.2)
  clear hlt hno
  have HNL := Aside0.mk hnl
  have HGL := Aside0.mk hgl
  have HUSE := Aside0.mk hus
  clear h hE hx hf hbv hk hs hp hl2 hkf ho hn hsu lo hop hb0 e0 e1 hlenG hnl1 hnl hgl hus
  go_enter Tryz.func94, Tryz.ntmps94
  go_wp2
  generalize (w.alloc (.cells #[.pointer (some ⟨x.1, 0, none⟩)] 103)).alloc (.cells #[.int .i64 (c.pos : Int), .slice Ab c.b.length cpb, .bool c.cut] 114) = W1 at HB0 HCF HCB ⊢
  have cf := HCF.out
  have g0 : W1.cell? ⟨w.heap.size + 1, 0, none⟩ = some (.int .i64 (c.pos : Int)) := (blk_cell HCB.out 0).trans rfl
  have g1 : W1.cell? ⟨w.heap.size + 1, 1, none⟩ = some (.slice Ab c.b.length cpb) := (blk_cell HCB.out 1).trans rfl
  have g2 : W1.cell? ⟨w.heap.size + 1, 2, none⟩ = some (.bool c.cut) := (blk_cell HCB.out 2).trans rfl
  have n0 := (HB0.out.cell (p := ⟨x.1, 0, none⟩) (World.block_lt_of_cell? w _ HN0.out)).trans HN0.out
  refine start_ (n := 8) (S := fun w' => w'.cell? ⟨w.heap.size, 0, none⟩ = some (.pointer (some ⟨x.1, 0, none⟩)) ∧ w'.cell? ⟨x.1, 0, none⟩ = some (.slice A f.now.length cp) ∧ w'.cell? ⟨w.heap.size + 1, 0, none⟩ = some (.int .i64 (c.pos : Int)) ∧ w'.cell? ⟨w.heap.size + 1, 1, none⟩ = some (.slice Ab c.b.length cpb) ∧ w'.cell? ⟨w.heap.size + 1, 2, none⟩ = some (.bool c.cut)) (ds := []) #[ff,ff,ff,ff,ff,ff,ff,ff] (by kernel_rfl) rfl rfl ⟨cf, n0, g0, g1, g2⟩ (fun hHeld => ?_)
  generalize hgw : W1.drew = w2 at hHeld ⊢
  have HB2 := Aside0.mk (show Below w.heap.size w w2 by rw [← hgw]; exact HB0.out.drew)
  have HCB2 := Aside0.mk (show w2.heap[w.heap.size + 1]? = some (.cells #[.int .i64 (c.pos : Int), .slice Ab c.b.length cpb, .bool c.cut] 114 (0, 0)) by rw [← hgw]; exact HCB.out)
  have hcf2 := hHeld.1
  have hn2 := hHeld.2.1
  have hHeld2 := hHeld
  clear hgw
  refine take_ (i := 0) (N := some 9) (v := ?_) (a' := ?_) #[tt,ff,ff,ff,ff,ff,ff,ff] rfl rfl (by kernel_rfl) (fun _ _ _ h => h) (Or.inl ⟨by rfl, ?_⟩) hHeld ?_ ?_
  rotate_left
  · rintro w' ⟨s0, s1, s2, s3, s4⟩
    go_simp
    with_reducible rfl
  rotate_left
  · simp only [Act.put, pkA, pkB, pkC, i64_w, i32_w]
    rfl
  refine take_ (i := 1) (N := some 10) (v := ?_) (a' := ?_) #[tt,tt,ff,ff,ff,ff,ff,ff] rfl rfl (by kernel_rfl) (fun _ _ _ h => h) (Or.inl ⟨by rfl, ?_⟩) hHeld ?_ ?_
  rotate_left
  · rintro w' ⟨s0, s1, s2, s3, s4⟩
    go_simp
    with_reducible rfl
  rotate_left
  · simp only [Act.put, pkA, pkB, pkC, i64_w, i32_w]
    rfl
  refine pure_ (i := 2) (N := some 11) (v := ?_) (a' := ?_) #[tt,tt,tt,ff,ff,ff,ff,ff] rfl rfl (by kernel_rfl) (fun _ _ _ h => h) (Or.inl ⟨by rfl, ?_⟩) ?_ ?_
  rotate_left
  · intro w'
    go_simp
    with_reducible rfl
  rotate_left
  · simp only [Act.put, pkA, pkB, pkC, i64_w, i32_w]
    rfl
  refine pure_ (i := 3) (N := some 12) (v := ?_) (a' := ?_) #[tt,tt,tt,tt,ff,ff,ff,ff] rfl rfl (by kernel_rfl) (fun _ _ _ h => h) (Or.inl ⟨by rfl, ?_⟩) ?_ ?_
  rotate_left
  · intro w'
    go_simp
    with_reducible rfl
  rotate_left
  · simp only [Act.put, pkA, pkB, pkC, i64_w, i32_w]
    rfl
  refine take_ (i := 4) (N := some 13) (v := ?_) (a' := ?_) #[tt,tt,tt,tt,tt,ff,ff,ff] rfl rfl (by kernel_rfl) (fun _ _ _ h => h) (Or.inl ⟨by rfl, ?_⟩) hHeld ?_ ?_
  rotate_left
  · rintro w' ⟨s0, s1, s2, s3, s4⟩
    go_simp
    with_reducible rfl
  rotate_left
  · simp only [Act.put, pkA, pkB, pkC, i64_w, i32_w]
    rfl
  refine join_ (σ := Value × Nat) 1 #[tt,tt,tt,tt,tt,tt,tt,ff] (fun s => [(14, s.1), (7, .pointer (some ⟨s.2, 0, none⟩))]) (fun s w' => Below w2.heap.size w2 w' ∧ BytesAt B w' s.1 (c.go f.now) ∧ w'.heap[s.2]? = some (.cells #[.slice none 0 0] 32 (0, 0)) ∧ w2.heap.size ≤ s.2) ?_ ?_
  rotate_left
  · intro hCont
    refine two_ (i := 5) (j := 6) (Ni := some 14) (Nj := some 7) #[tt,tt,tt,tt,tt,tt,ff,ff] #[tt,tt,tt,tt,tt,ff,tt,ff] rfl rfl rfl rfl (by kernel_rfl) (by decide) (by decide) (fun K hK => ?_) (fun K hK => ?_)
    · skip
      refine goes_ Tryz.func66 (by kernel_rfl) rfl #[.agg #[.int .i64 (c.pos : Int), .slice Ab c.b.length cpb, .bool c.cut], .slice A f.now.length cp] (by rfl) rfl rfl (by simp only [List.map_toArray, List.map_cons, List.map_nil]; rfl) ?_
      with_reducible refine (HDO.out w2 HB2.out).mono ?_
      rintro e w3 ⟨v, rfl, hr, hb⟩
      refine ⟨_, rfl, ?_⟩
      have k := fun (g i : Nat) (u : Value) (hc : w2.cell? ⟨g, i, none⟩ = some u) => (hb.cell (p := ⟨g, i, none⟩) (World.block_lt_of_cell? w2 _ hc)).trans hc
      refine hK.out _ _ ⟨(k _ _ _ hHeld2.1), (k _ _ _ hHeld2.2.1), (k _ _ _ hHeld2.2.2.1), (k _ _ _ hHeld2.2.2.2.1), (k _ _ _ hHeld2.2.2.2.2)⟩ (fun hHeld => ?_)
      clear hK K
      refine norm_ (a' := ?_) ?_ ?_
      rotate_left
      · show Act.put _ (some 14) _ = _
        simp only [Act.put, pkA, pkB, pkC, i64_w, i32_w]
        rfl
      refine one_ (i := 6) (N := some 7) #[tt,tt,tt,tt,tt,tt,tt,ff] rfl rfl (by kernel_rfl) (by decide) (fun K hK => ?_)
      refine value_ (w1 := ?_) (v := ?_) (by rfl) rfl ?_ ?_
      rotate_left 2
      · go_simp
        constructor
        · rfl
        · rfl
      have k2 := fun (g i : Nat) (u : Value) (hc : w3.cell? ⟨g, i, none⟩ = some u) => (((Below.refl _ w3).alloc (Nat.le_refl _) (.cells #[.slice none 0 0] 32)).cell (p := ⟨g, i, none⟩) (World.block_lt_of_cell? w3 _ hc)).trans hc
      refine hK.out _ _ ⟨(k2 _ _ _ (k _ _ _ hHeld2.1)), (k2 _ _ _ (k _ _ _ hHeld2.2.1)), (k2 _ _ _ (k _ _ _ hHeld2.2.2.1)), (k2 _ _ _ (k _ _ _ hHeld2.2.2.2.1)), (k2 _ _ _ (k _ _ _ hHeld2.2.2.2.2))⟩ (fun hHeld => ?_)
      clear hK K
      refine norm_ (a' := ?_) ?_ ?_
      rotate_left
      · show Act.put _ (some 7) _ = _
        simp only [Act.put, pkA, pkB, pkC, i64_w, i32_w]
        rfl
      exact norm_ (by simp only [putAll, Act.put, pkA, pkB, pkC]) (hCont (v, w3.heap.size) _ ⟨hb.trans ((Below.refl _ _).alloc hb.size _), (BytesAt.turn (BytesAt.lower hr (Nat.le_trans HLO.out.1 HB2.out.size) (Nat.lt_of_lt_of_le HLO.out.2 HB2.out.size)) (Turn.of_below ((Below.refl _ _).alloc (Nat.le_refl _) _))), heap_alloc_new w3 _, hb.size⟩)
    · skip
      refine value_ (w1 := ?_) (v := ?_) (by rfl) rfl ?_ ?_
      rotate_left 2
      · go_simp
        constructor
        · rfl
        · rfl
      have k := fun (g i : Nat) (u : Value) (hc : w2.cell? ⟨g, i, none⟩ = some u) => (((Below.refl _ w2).alloc (Nat.le_refl _) (.cells #[.slice none 0 0] 32)).cell (p := ⟨g, i, none⟩) (World.block_lt_of_cell? w2 _ hc)).trans hc
      have hb3 : Below w2.heap.size w2 (w2.alloc (.cells #[.slice none 0 0] 32)) := (Below.refl _ _).alloc (Nat.le_refl _) _
      have ha3 := heap_alloc_new w2 (.cells #[.slice none 0 0] 32)
      refine hK.out _ _ ⟨(k _ _ _ hHeld2.1), (k _ _ _ hHeld2.2.1), (k _ _ _ hHeld2.2.2.1), (k _ _ _ hHeld2.2.2.2.1), (k _ _ _ hHeld2.2.2.2.2)⟩ (fun hHeld => ?_)
      clear hK K
      refine norm_ (a' := ?_) ?_ ?_
      rotate_left
      · show Act.put _ (some 7) _ = _
        simp only [Act.put, pkA, pkB, pkC, i64_w, i32_w]
        rfl
      refine one_ (i := 5) (N := some 14) #[tt,tt,tt,tt,tt,tt,tt,ff] rfl rfl (by kernel_rfl) (by decide) (fun K hK => ?_)
      refine goes_ Tryz.func66 (by kernel_rfl) rfl #[.agg #[.int .i64 (c.pos : Int), .slice Ab c.b.length cpb, .bool c.cut], .slice A f.now.length cp] (by rfl) rfl rfl (by simp only [List.map_toArray, List.map_cons, List.map_nil]; rfl) ?_
      with_reducible refine (HDO.out _ (HB2.out.trans (hb3.mono HB2.out.size))).mono ?_
      rintro e w3 ⟨v, rfl, hr, hb⟩
      refine ⟨_, rfl, ?_⟩
      have k2 := fun (g i : Nat) (u : Value) (hc : (w2.alloc (.cells #[.slice none 0 0] 32)).cell? ⟨g, i, none⟩ = some u) => (hb.cell (p := ⟨g, i, none⟩) (World.block_lt_of_cell? _ _ hc)).trans hc
      refine hK.out _ _ ⟨(k2 _ _ _ (k _ _ _ hHeld2.1)), (k2 _ _ _ (k _ _ _ hHeld2.2.1)), (k2 _ _ _ (k _ _ _ hHeld2.2.2.1)), (k2 _ _ _ (k _ _ _ hHeld2.2.2.2.1)), (k2 _ _ _ (k _ _ _ hHeld2.2.2.2.2))⟩ (fun hHeld => ?_)
      clear hK K
      refine norm_ (a' := ?_) ?_ ?_
      rotate_left
      · show Act.put _ (some 14) _ = _
        simp only [Act.put, pkA, pkB, pkC, i64_w, i32_w]
        rfl
      exact norm_ (by simp only [putAll, Act.put, pkA, pkB, pkC]) (hCont (v, w2.heap.size) _ ⟨hb3.trans (hb.mono hb3.size), BytesAt.lower hr (Nat.le_trans HLO.out.1 (Nat.le_trans HB2.out.size hb3.size)) (Nat.lt_of_lt_of_le HLO.out.2 (Nat.le_trans HB2.out.size hb3.size)), (hb.block _ (by simp)).trans ha3, Nat.le_refl _⟩)
  rintro ⟨v, ga⟩ w3 ⟨hb3, hv3, ha3, hg3⟩
  obtain ⟨Av, cpv, rfl⟩ := Kd.R_slice hv3
  have k3 := fun (g i : Nat) (u : Value) (hc : w2.cell? ⟨g, i, none⟩ = some u) => (hb3.cell (p := ⟨g, i, none⟩) (World.block_lt_of_cell? w2 _ hc)).trans hc
  have hHeld : w3.cell? ⟨w.heap.size, 0, none⟩ = some (.pointer (some ⟨x.1, 0, none⟩)) ∧ w3.cell? ⟨x.1, 0, none⟩ = some (.slice A f.now.length cp) ∧ w3.cell? ⟨w.heap.size + 1, 0, none⟩ = some (.int .i64 (c.pos : Int)) ∧ w3.cell? ⟨w.heap.size + 1, 1, none⟩ = some (.slice Ab c.b.length cpb) ∧ w3.cell? ⟨w.heap.size + 1, 2, none⟩ = some (.bool c.cut) := ⟨k3 _ _ _ hHeld2.1, k3 _ _ _ hHeld2.2.1, k3 _ _ _ hHeld2.2.2.1, k3 _ _ _ hHeld2.2.2.2.1, k3 _ _ _ hHeld2.2.2.2.2⟩
  have hHeld3 := hHeld
  have cga : w3.cell? ⟨ga, 0, none⟩ = some (.slice none 0 0) := (blk_cell ha3 0).trans rfl
  have fga : w3.frozen? ⟨ga, 0, none⟩ = false := blk_frozen ha3 0
  refine norm_ (a' := ?_) ?_ ?_
  rotate_left
  · simp only [putAll, Act.put, pkA, pkB, pkC]
    rfl
  refine one_ (i := 7) (N := none) #[tt,tt,tt,tt,tt,tt,tt,tt] rfl rfl (by kernel_rfl) (by decide) (fun K hK => ?_)
  refine skip_ (w1 := ?_) (by rfl) rfl ?_ ?_
  rotate_left
  · go_simp
    rfl
  have lt := fun (g i : Nat) (u : Value) (hc : w2.cell? ⟨g, i, none⟩ = some u) => World.block_lt_of_cell? w2 _ hc
  have k4 := fun (g i : Nat) (u : Value) (hc : w2.cell? ⟨g, i, none⟩ = some u) => cell_far2 (k3 g i u hc) (p := ⟨ga, 0, none⟩) (show g ≠ ga by have h9 := lt g i u hc; have h8 := hg3; simp only at h9 h8; omega) (.slice Av (c.go f.now).length cpv)
  refine hK.out _ _ ⟨(k4 _ _ _ hHeld2.1), (k4 _ _ _ hHeld2.2.1), (k4 _ _ _ hHeld2.2.2.1), (k4 _ _ _ hHeld2.2.2.2.1), (k4 _ _ _ hHeld2.2.2.2.2)⟩ (fun hHeld => ?_)
  clear hK K
  refine done_ (by kernel_rfl) ?_
  have HCW := Aside0.mk (show CW B w x.1 c (.slice Ab c.b.length cpb) (c.go f.now) ga (.slice Av (c.go f.now).length cpv) (w3.setCell ⟨ga, 0, none⟩ (.slice Av (c.go f.now).length cpv)) from by
    have lg : w.heap.size + 1 < w2.heap.size := blk_lt HCB2.out
    have hbg : Below w2.heap.size w2 (w3.setCell ⟨ga, 0, none⟩ (.slice Av (c.go f.now).length cpv)) := hb3.setCell (p := ⟨ga, 0, none⟩) hg3 _
    have hne : ∀ k, k ≠ ga → (w3.setCell ⟨ga, 0, none⟩ (.slice Av (c.go f.now).length cpv)).heap[k]? = w3.heap[k]? := fun k hk => Below.heap_setCell w3 ⟨ga, 0, none⟩ _ k hk
    refine ⟨HB2.out.trans (hbg.mono HB2.out.size), (hbg.cell (p := ⟨w.heap.size, 0, none⟩) (by simp only; omega)).trans hcf2, (hbg.block _ lg).trans HCB2.out, ?_, ?_, Nat.le_trans HB2.out.size hg3⟩
    · exact (blk_cell (blk_put ha3 0 (.slice Av (c.go f.now).length cpv) rfl) 0).trans rfl
    · exact BytesAt.but hv3 (But.setCell w3 ⟨ga, 0, none⟩ _) (Not.cells (t := 32) (fun g hg => by obtain rfl := Option.some.inj hg; exact ⟨_, _, ha3⟩) (by decide)))
  clear hb3 hv3 ha3 hg3 k3 cga fga hHeld2 hcf2 hn2 HDO HCB HCF HB0
  generalize w3.setCell ⟨ga, 0, none⟩ (.slice Av (c.go f.now).length cpv) = W3 at HCW ⊢
  have cf := HCW.out.cf
  have cn := HCW.out.cn
  have n0 := (HCW.out.bel.cell (p := ⟨x.1, 0, none⟩) (World.block_lt_of_cell? w _ HN0.out)).trans HN0.out
  rw [← HGL.out] at cn
  rw [← HNL.out] at n0
  go_wp2
  refine start_ (n := 9) (S := fun w' => w'.cell? ⟨ga, 0, none⟩ = some (.slice Av gl cpv) ∧ w'.cell? ⟨w.heap.size, 0, none⟩ = some (.pointer (some ⟨x.1, 0, none⟩)) ∧ w'.cell? ⟨x.1, 0, none⟩ = some (.slice A nl cp)) (ds := []) #[ff,ff,ff,ff,ff,ff,ff,ff,ff] (by kernel_rfl) rfl rfl ⟨cn, cf, n0⟩ (fun hHeld => ?_)
  refine take_ (i := 0) (N := some 15) (v := ?_) (a' := ?_) #[tt,ff,ff,ff,ff,ff,ff,ff,ff] rfl rfl (by kernel_rfl) (fun _ _ _ h => h) (Or.inl ⟨by rfl, ?_⟩) hHeld ?_ ?_
  rotate_left
  · rintro w' ⟨s0, s1, s2⟩
    go_simp
    with_reducible rfl
  rotate_left
  · simp only [Act.put, pkA, pkB, pkC, i64_w, i32_w]
    rfl
  refine pure_ (i := 1) (N := some 16) (v := ?_) (a' := ?_) #[tt,tt,ff,ff,ff,ff,ff,ff,ff] rfl rfl (by kernel_rfl) (fun _ _ _ h => h) (Or.inl ⟨by rfl, ?_⟩) ?_ ?_
  rotate_left
  · intro w'
    go_simp
    with_reducible rfl
  rotate_left
  · simp only [Act.put, pkA, pkB, pkC, i64_w, i32_w]
    rfl
  refine take_ (i := 2) (N := some 17) (v := ?_) (a' := ?_) #[tt,tt,tt,ff,ff,ff,ff,ff,ff] rfl rfl (by kernel_rfl) (fun _ _ _ h => h) (Or.inl ⟨by rfl, ?_⟩) hHeld ?_ ?_
  rotate_left
  · rintro w' ⟨s0, s1, s2⟩
    go_simp
    with_reducible rfl
  rotate_left
  · simp only [Act.put, pkA, pkB, pkC, i64_w, i32_w]
    rfl
  refine pure_ (i := 3) (N := some 18) (v := ?_) (a' := ?_) #[tt,tt,tt,tt,ff,ff,ff,ff,ff] rfl rfl (by kernel_rfl) (fun _ _ _ h => h) (Or.inl ⟨by rfl, ?_⟩) ?_ ?_
  rotate_left
  · intro w'
    go_simp
    with_reducible rfl
  rotate_left
  · simp only [Act.put, pkA, pkB, pkC, i64_w, i32_w]
    rfl
  refine pure_ (i := 4) (N := some 19) (v := ?_) (a' := ?_) #[tt,tt,tt,tt,tt,ff,ff,ff,ff] rfl rfl (by kernel_rfl) (fun _ _ _ h => h) (Or.inl ⟨by rfl, ?_⟩) ?_ ?_
  rotate_left
  · intro w'
    go_simp
    with_reducible rfl
  rotate_left
  · simp only [Act.put, pkA, pkB, pkC, i64_w, i32_w]
    rfl
  refine take_ (i := 5) (N := some 20) (v := ?_) (a' := ?_) #[tt,tt,tt,tt,tt,tt,ff,ff,ff] rfl rfl (by kernel_rfl) (fun _ _ _ h => h) (Or.inl ⟨by rfl, ?_⟩) hHeld ?_ ?_
  rotate_left
  · rintro w' ⟨s0, s1, s2⟩
    go_simp
    with_reducible rfl
  rotate_left
  · simp only [Act.put, pkA, pkB, pkC, i64_w, i32_w]
    rfl
  refine pure_ (i := 6) (N := some 21) (v := ?_) (a' := ?_) #[tt,tt,tt,tt,tt,tt,tt,ff,ff] rfl rfl (by kernel_rfl) (fun _ _ _ h => h) (Or.inl ⟨by rfl, ?_⟩) ?_ ?_
  rotate_left
  · intro w'
    go_simp
    with_reducible rfl
  rotate_left
  · simp only [Act.put, pkA, pkB, pkC, i64_w, i32_w]
    rfl
  refine pure_ (i := 7) (N := some 22) (v := ?_) (a' := ?_) #[tt,tt,tt,tt,tt,tt,tt,tt,ff] rfl rfl (by kernel_rfl) (fun _ _ _ h => h) (Or.inl ⟨by rfl, ?_⟩) ?_ ?_
  rotate_left
  · intro w'
    go_simp
    with_reducible rfl
  rotate_left
  · simp only [Act.put, pkA, pkB, pkC, i64_w, i32_w]
    rfl
  refine pure_ (i := 8) (N := some 8) (v := ?_) (a' := ?_) #[tt,tt,tt,tt,tt,tt,tt,tt,tt] rfl rfl (by kernel_rfl) (fun _ _ _ h => h) (Or.inl ⟨by rfl, ?_⟩) ?_ ?_
  rotate_left
  · intro w'
    go_simp
    with_reducible rfl
  rotate_left
  · simp only [Act.put, pkA, pkB, pkC, i64_w, i32_w]
    rfl
  refine done_ (by kernel_rfl) ?_
  have HCW2 := Aside0.mk HCW.out.drew
  clear HCW cf cn n0
  generalize W3.drew = W4 at HCW2 ⊢
  have q4 := (HCW2.out.bel.cell (p := ⟨p, 4, none⟩) (World.block_lt_of_cell? w _ HQ.out)).trans HQ.out
  go_wp2
  refine start_ (n := 13) (S := fun w' => w'.cell? ⟨p, 4, none⟩ = some (.int .i64 D.quota)) (ds := []) #[ff,ff,ff,ff,ff,ff,ff,ff,ff,ff,ff,ff,ff] (by kernel_rfl) rfl rfl (q4) (fun hHeld => ?_)
  generalize hgw : W4.drew = w5 at hHeld ⊢
  have HCW3 := Aside0.mk (by rw [← hgw]; exact HCW2.out.drew : CW B w x.1 c (.slice Ab c.b.length cpb) (c.go f.now) ga (.slice Av (c.go f.now).length cpv) w5)
  clear hgw
  refine pure_ (i := 0) (N := some 23) (v := ?_) (a' := ?_) #[tt,ff,ff,ff,ff,ff,ff,ff,ff,ff,ff,ff,ff] rfl rfl (by kernel_rfl) (fun _ _ _ h => h) (Or.inl ⟨by rfl, ?_⟩) ?_ ?_
  rotate_left
  · intro w'
    go_simp
    with_reducible rfl
  rotate_left
  · simp only [Act.put, pkA, pkB, pkC, i64_w, i32_w]
    rfl
  refine pure_ (i := 1) (N := some 24) (v := ?_) (a' := ?_) #[tt,tt,ff,ff,ff,ff,ff,ff,ff,ff,ff,ff,ff] rfl rfl (by kernel_rfl) (fun _ _ _ h => h) (Or.inl ⟨by rfl, ?_⟩) ?_ ?_
  rotate_left
  · intro w'
    go_simp
    with_reducible rfl
  rotate_left
  · simp only [Act.put, pkA, pkB, pkC, i64_w, i32_w]
    rfl
  refine pure_ (i := 2) (N := some 25) (v := ?_) (a' := ?_) #[tt,tt,tt,ff,ff,ff,ff,ff,ff,ff,ff,ff,ff] rfl rfl (by kernel_rfl) (fun _ _ _ h => h) (Or.inl ⟨by rfl, ?_⟩) ?_ ?_
  rotate_left
  · intro w'
    go_simp
    with_reducible rfl
  rotate_left
  · simp only [Act.put, pkA, pkB, pkC, i64_w, i32_w]
    rfl
  refine pure_ (i := 3) (N := some 26) (v := ?_) (a' := ?_) #[tt,tt,tt,tt,ff,ff,ff,ff,ff,ff,ff,ff,ff] rfl rfl (by kernel_rfl) (fun _ _ _ h => h) (Or.inl ⟨by rfl, ?_⟩) ?_ ?_
  rotate_left
  · intro w'
    go_simp
    with_reducible rfl
  rotate_left
  · simp only [Act.put, pkA, pkB, pkC, i64_w, i32_w]
    rfl
  refine pure_ (i := 4) (N := some 27) (v := ?_) (a' := ?_) #[tt,tt,tt,tt,tt,ff,ff,ff,ff,ff,ff,ff,ff] rfl rfl (by kernel_rfl) (fun _ _ _ h => h) (Or.inl ⟨by rfl, ?_⟩) ?_ ?_
  rotate_left
  · intro w'
    go_simp
    with_reducible rfl
  rotate_left
  · simp only [Act.put, pkA, pkB, pkC, i64_w, i32_w]
    rfl
  refine pure_ (i := 5) (N := some 28) (v := ?_) (a' := ?_) #[tt,tt,tt,tt,tt,tt,ff,ff,ff,ff,ff,ff,ff] rfl rfl (by kernel_rfl) (fun _ _ _ h => h) (Or.inl ⟨by rfl, ?_⟩) ?_ ?_
  rotate_left
  · intro w'
    go_simp
    with_reducible rfl
  rotate_left
  · simp only [Act.put, pkA, pkB, pkC, i64_w, i32_w]
    rfl
  refine pure_ (i := 6) (N := some 29) (v := ?_) (a' := ?_) #[tt,tt,tt,tt,tt,tt,tt,ff,ff,ff,ff,ff,ff] rfl rfl (by kernel_rfl) (fun _ _ _ h => h) (Or.inl ⟨by rfl, ?_⟩) ?_ ?_
  rotate_left
  · intro w'
    go_simp
    with_reducible rfl
  rotate_left
  · simp only [Act.put, pkA, pkB, pkC, i64_w, i32_w]
    rfl
  refine pure_ (i := 8) (N := some 31) (v := ?_) (a' := ?_) #[tt,tt,tt,tt,tt,tt,tt,ff,tt,ff,ff,ff,ff] rfl rfl (by kernel_rfl) (fun _ _ _ h => h) (Or.inl ⟨by rfl, ?_⟩) ?_ ?_
  rotate_left
  · intro w'
    go_simp
    with_reducible rfl
  rotate_left
  · simp only [Act.put, pkA, pkB, pkC, i64_w, i32_w]
    rfl
  refine take_ (i := 7) (N := some 30) (v := ?_) (a' := ?_) #[tt,tt,tt,tt,tt,tt,tt,tt,tt,ff,ff,ff,ff] rfl rfl (by kernel_rfl) (fun _ _ _ h => h) (Or.inl ⟨by rfl, ?_⟩) hHeld ?_ ?_
  rotate_left
  · intro w' s0
    go_simp
    with_reducible rfl
  rotate_left
  · simp only [Act.put, pkA, pkB, pkC, i64_w, i32_w]
    rfl
  refine one_ (i := 9) (N := some 32) #[tt,tt,tt,tt,tt,tt,tt,tt,tt,tt,ff,ff,ff] rfl rfl (by kernel_rfl) (by decide) (fun K hK => ?_)
  refine goes_ Tryz.func52 (by kernel_rfl) rfl #[.pointer (some ⟨p, 0, none⟩)] (by rfl) rfl rfl (by simp only [List.map_toArray, List.map_cons, List.map_nil]; rfl) ?_
  with_reducible refine (HUS.out w5 HCW3.out.bel).mono ?_
  rintro e w6 ⟨rfl, hb⟩
  refine ⟨_, rfl, ?_⟩
  have HCW4 := Aside0.mk (HCW3.out.below hb)
  have q6 := (hb.cell (p := ⟨p, 4, none⟩) (World.block_lt_of_cell? w5 _ hHeld)).trans hHeld
  clear hb
  rw [← HUSE.out]
  refine hK.out _ _ (q6) (fun hHeld => ?_)
  clear hK K
  refine norm_ (a' := ?_) ?_ ?_
  rotate_left
  · show Act.put _ (some 32) _ = _
    simp only [Act.put, pkA, pkB, pkC, i64_w, i32_w]
    rfl
  refine pure_ (i := 10) (N := some 33) (v := ?_) (a' := ?_) #[tt,tt,tt,tt,tt,tt,tt,tt,tt,tt,tt,ff,ff] rfl rfl (by kernel_rfl) (fun _ _ _ h => h) (Or.inl ⟨by rfl, ?_⟩) ?_ ?_
  rotate_left
  · intro w'
    go_simp
    with_reducible rfl
  rotate_left
  · simp only [Act.put, pkA, pkB, pkC, i64_w, i32_w]
    rfl
  refine pure_ (i := 11) (N := some 34) (v := ?_) (a' := ?_) #[tt,tt,tt,tt,tt,tt,tt,tt,tt,tt,tt,tt,ff] rfl rfl (by kernel_rfl) (fun _ _ _ h => h) (Or.inl ⟨by rfl, ?_⟩) ?_ ?_
  rotate_left
  · intro w'
    go_simp
    with_reducible rfl
  rotate_left
  · simp only [Act.put, pkA, pkB, pkC, i64_w, i32_w]
    rfl
  refine pure_ (i := 12) (N := some 35) (v := ?_) (a' := ?_) #[tt,tt,tt,tt,tt,tt,tt,tt,tt,tt,tt,tt,tt] rfl rfl (by kernel_rfl) (fun _ _ _ h => h) (Or.inl ⟨by rfl, ?_⟩) ?_ ?_
  rotate_left
  · intro w'
    go_simp
    with_reducible rfl
  rotate_left
  · simp only [Act.put, pkA, pkB, pkC, i64_w, i32_w]
    rfl
  refine done_ (by kernel_rfl) ?_
  have c7 := HER.out.errs.var 7 (by simp [dErr])
  rw [gQuota] at c7
  have c7 := (HCW4.out.bel.cell (p := ⟨6, 0, none⟩) (World.block_lt_of_cell? w _ c7)).trans c7
  go_wp2
  go_ret
  exact ⟨by rw [HRS.out]; rfl, by rw [HRS.out]; exact ⟨_, _, _, _, _, HLI.out.below HCW4.out.bel⟩, Turn.of_below HCW4.out.bel⟩
set_option maxRecDepth 100000 in
set_option maxHeartbeats 8000000 in
theorem changed_fits (B : Bx) (p : Nat) (D : Dsk) (L : List (Nat × Value)) (m1 m2 : Nat) (fv ov : Value) (i : Nat) (x : Nat × Value) (f : Fil) (c : Chg) (bv : Value) (E : Int → Addr) (w : World) (h : Lies B w p D L m1 m2 fv ov) (hE : ErrAt B w E) (hx : L[i]? = some x) (hf : D.files[i]? = some f)
    (hbv : BytesAt B w bv c.b) (hk : D.Ok) (hs : D.steps ≤ 1000000000) (hp : c.pos ≤ f.now.length) (hl2 : c.pos + c.b.length ≤ 1080000000) (hno : ¬ noRoom D f c) (hgr : f.now.length < (c.go f.now).length) :
    Calls Tryz.prog 94 #[.pointer (some ⟨p, 0, none⟩), .pointer (some ⟨x.1, 0, none⟩), .agg #[.int .i64 (c.pos : Int), bv, .bool c.cut]] w fun en w' => en = .returned (errV E (changedD D i f c).1) ∧ DiskAt B w' p (changedD D i f c).2 ∧ Turn B w w' := by
  have hres : changedD D i f c = if D.armed = 0 then (some 8, offD D) else (none, setF (stepD D) i ⟨c.go f.now, f.sure, f.opn ++ [c]⟩) := by unfold changedD; rw [if_neg hno]
  rw [hres]
  clear hres
  obtain ⟨rs, hrs⟩ : ∃ rs, rs = (if D.armed = 0 then (some 8, offD D) else (none, setF (stepD D) i ⟨c.go f.now, f.sure, f.opn ++ [c]⟩) : Option Int × Dsk) := ⟨_, rfl⟩
  rw [← hrs]
  have HRS := Aside0.mk hrs
  clear hrs
  have hkf := hk.fil f (List.mem_of_getElem? hf)
  obtain ⟨⟨nv, sv, ho, hn, hsu⟩, lo, hop⟩ := h.files.each i x f hx hf
  have hpl := blk_lt h.obj
  obtain ⟨A, cp, rfl⟩ := Kd.R_slice hn
  obtain ⟨Ab, cpb, rfl⟩ := Kd.R_slice hbv
  have hlenG := chg_len c f.now 1080000000 (by have := hkf.nowL; omega) hl2
  have hnl1 := hkf.nowL
  have HLI := Aside0.mk h
  have HER := Aside0.mk hE
  have HKf := Aside0.mk hkf
  have HST := Aside0.mk hs
  have HFX := Aside0.mk hf
  have HXX := Aside0.mk hx
  have HOO := Aside0.mk ho
  have hb0 : Below w.heap.size w ((w.alloc (.cells #[.pointer (some ⟨x.1, 0, none⟩)] 103)).alloc (.cells #[.int .i64 (c.pos : Int), .slice Ab c.b.length cpb, .bool c.cut] 114)) := ((Below.refl _ w).alloc (Nat.le_refl _) _).alloc (by simp) _
  have HB0 := Aside0.mk hb0
  have e0 : ((w.alloc (.cells #[.pointer (some ⟨x.1, 0, none⟩)] 103)).alloc (.cells #[.int .i64 (c.pos : Int), .slice Ab c.b.length cpb, .bool c.cut] 114)).heap[w.heap.size]? = some (.cells #[.pointer (some ⟨x.1, 0, none⟩)] 103 (0, 0)) :=
    (Below.heap_alloc _ _ _ (by simp)).trans (heap_alloc_new w _)
  have e1 : ((w.alloc (.cells #[.pointer (some ⟨x.1, 0, none⟩)] 103)).alloc (.cells #[.int .i64 (c.pos : Int), .slice Ab c.b.length cpb, .bool c.cut] 114)).heap[w.heap.size + 1]? = some (.cells #[.int .i64 (c.pos : Int), .slice Ab c.b.length cpb, .bool c.cut] 114 (0, 0)) := by
    simpa using heap_alloc_new (w.alloc (.cells #[.pointer (some ⟨x.1, 0, none⟩)] 103)) (.cells #[.int .i64 (c.pos : Int), .slice Ab c.b.length cpb, .bool c.cut] 114)
  have HCF := Aside0.mk ((blk_cell e0 0).trans rfl : _ = some (Value.pointer (some ⟨x.1, 0, none⟩)))
  have HCB := Aside0.mk e1
  have HDO := Aside0.mk (fun (U : World) (hb : Below w.heap.size w U) => chg_calls B c (.slice Ab c.b.length cpb) (.slice A f.now.length cp) f.now U (hbv.turn ⟨hb.os, hb.tape, hb.output, hb.size, fun k _ hs => hb.block k hs, fun k o ho _ => (hb.block k (blk_lt ho)).trans ho⟩) (hn.turn ⟨hb.os, hb.tape, hb.output, hb.size, fun k _ hs => hb.block k hs, fun k o ho _ => (hb.block k (blk_lt ho)).trans ho⟩) hp hkf.nowL hl2)
  have HBV := Aside0.mk hbv
  have HLO := Aside0.mk (show B.n ≤ w.heap.size ∧ B.q < w.heap.size by have := h.lop; have := h.lt; exact ⟨by omega, h.lt⟩)
  have HUS := Aside0.mk (fun (U : World) (hb : Below w.heap.size w U) => used_calls p D U (h.below hb) hk hs)
  have HAR := Aside0.mk (show D.armed ≤ 9223372036854775807 ∧ -1 ≤ D.armed ∧ 0 ≤ D.steps ∧ D.steps ≤ 1099511627776 from ⟨hk.armed1, hk.armed0, hk.steps0, by omega⟩)
  have HQ := Aside0.mk (show w.cell? ⟨p, 4, none⟩ = some (.int .i64 D.quota) from (blk_cell h.obj 4).trans rfl)
  have HU := Aside0.mk (show (usedD D : Int) ≤ 2000000000000000000 by
    have h1 := hk.nowF
    have h2 := gone_le (szOf D.files) 1073741824 (szOf_le hk) (fun _ => false) D.now
    rw [gone_end (szOf D.files) D.now _ (fun _ => rfl)] at h2
    have h3 := now_len hk
    have h4 : usedD D = (D.now.map fun p => szOf D.files p.2).sum := rfl
    have h5 : D.now.length * 1073741824 ≤ 1000000000 * 1073741824 := Nat.mul_le_mul_right _ (by omega)
    omega)
  have hq0 := hk.quota0
  have hq1 := hk.quota1
  obtain ⟨nl, hnl⟩ : ∃ nl, nl = f.now.length := ⟨_, rfl⟩
  obtain ⟨gl, hgl⟩ : ∃ gl, gl = (c.go f.now).length := ⟨_, rfl⟩
  obtain ⟨us, hus⟩ : ∃ us, us = usedD D := ⟨_, rfl⟩
  have HN0 := Aside0.mk ((blk_cell ho 0).trans rfl : w.cell? ⟨x.1, 0, none⟩ = some (.slice A f.now.length cp))
  have s1 : IntKind.i64.wrap ((gl : Int) - (nl : Int)) = (gl : Int) - (nl : Int) := IntWalk.i64_in _ ⟨by omega, by omega⟩
  have s2 : IntKind.i64.wrap (D.quota - (us : Int)) = D.quota - (us : Int) := IntWalk.i64_in _ ⟨by have := HU.out; omega, by have := HU.out; omega⟩
  have hlt : f.now.length < (c.go f.now).length := hgr
  have t1 : decide (nl < gl) = true := decide_eq_true (by omega)
  have t2 : decide (D.quota - (us : Int) < (gl : Int) - (nl : Int)) = false := decide_eq_false (by rw [hus, hgl, hnl]; exact fun e => hno ⟨hgr, e⟩)
  clear hlt hno hgr
  have HNL := Aside0.mk hnl
  have HGL := Aside0.mk hgl
  have HUSE := Aside0.mk hus
  clear h hE hx hf hbv hk hs hp hl2 hkf ho hn hsu lo hop hb0 e0 e1 hlenG hnl1 hnl hgl hus
  go_enter Tryz.func94, Tryz.ntmps94
  go_wp2
  generalize (w.alloc (.cells #[.pointer (some ⟨x.1, 0, none⟩)] 103)).alloc (.cells #[.int .i64 (c.pos : Int), .slice Ab c.b.length cpb, .bool c.cut] 114) = W1 at HB0 HCF HCB ⊢
  have cf := HCF.out
  have g0 : W1.cell? ⟨w.heap.size + 1, 0, none⟩ = some (.int .i64 (c.pos : Int)) := (blk_cell HCB.out 0).trans rfl
  have g1 : W1.cell? ⟨w.heap.size + 1, 1, none⟩ = some (.slice Ab c.b.length cpb) := (blk_cell HCB.out 1).trans rfl
  have g2 : W1.cell? ⟨w.heap.size + 1, 2, none⟩ = some (.bool c.cut) := (blk_cell HCB.out 2).trans rfl
  have n0 := (HB0.out.cell (p := ⟨x.1, 0, none⟩) (World.block_lt_of_cell? w _ HN0.out)).trans HN0.out
  refine start_ (n := 8) (S := fun w' => w'.cell? ⟨w.heap.size, 0, none⟩ = some (.pointer (some ⟨x.1, 0, none⟩)) ∧ w'.cell? ⟨x.1, 0, none⟩ = some (.slice A f.now.length cp) ∧ w'.cell? ⟨w.heap.size + 1, 0, none⟩ = some (.int .i64 (c.pos : Int)) ∧ w'.cell? ⟨w.heap.size + 1, 1, none⟩ = some (.slice Ab c.b.length cpb) ∧ w'.cell? ⟨w.heap.size + 1, 2, none⟩ = some (.bool c.cut)) (ds := []) #[ff,ff,ff,ff,ff,ff,ff,ff] (by kernel_rfl) rfl rfl ⟨cf, n0, g0, g1, g2⟩ (fun hHeld => ?_)
  generalize hgw : W1.drew = w2 at hHeld ⊢
  have HB2 := Aside0.mk (show Below w.heap.size w w2 by rw [← hgw]; exact HB0.out.drew)
  have HCB2 := Aside0.mk (show w2.heap[w.heap.size + 1]? = some (.cells #[.int .i64 (c.pos : Int), .slice Ab c.b.length cpb, .bool c.cut] 114 (0, 0)) by rw [← hgw]; exact HCB.out)
  have hcf2 := hHeld.1
  have hn2 := hHeld.2.1
  have hHeld2 := hHeld
  clear hgw
  refine take_ (i := 0) (N := some 9) (v := ?_) (a' := ?_) #[tt,ff,ff,ff,ff,ff,ff,ff] rfl rfl (by kernel_rfl) (fun _ _ _ h => h) (Or.inl ⟨by rfl, ?_⟩) hHeld ?_ ?_
  rotate_left
  · rintro w' ⟨s0, s1, s2, s3, s4⟩
    go_simp
    with_reducible rfl
  rotate_left
  · simp only [Act.put, pkA, pkB, pkC, i64_w, i32_w]
    rfl
  refine take_ (i := 1) (N := some 10) (v := ?_) (a' := ?_) #[tt,tt,ff,ff,ff,ff,ff,ff] rfl rfl (by kernel_rfl) (fun _ _ _ h => h) (Or.inl ⟨by rfl, ?_⟩) hHeld ?_ ?_
  rotate_left
  · rintro w' ⟨s0, s1, s2, s3, s4⟩
    go_simp
    with_reducible rfl
  rotate_left
  · simp only [Act.put, pkA, pkB, pkC, i64_w, i32_w]
    rfl
  refine pure_ (i := 2) (N := some 11) (v := ?_) (a' := ?_) #[tt,tt,tt,ff,ff,ff,ff,ff] rfl rfl (by kernel_rfl) (fun _ _ _ h => h) (Or.inl ⟨by rfl, ?_⟩) ?_ ?_
  rotate_left
  · intro w'
    go_simp
    with_reducible rfl
  rotate_left
  · simp only [Act.put, pkA, pkB, pkC, i64_w, i32_w]
    rfl
  refine pure_ (i := 3) (N := some 12) (v := ?_) (a' := ?_) #[tt,tt,tt,tt,ff,ff,ff,ff] rfl rfl (by kernel_rfl) (fun _ _ _ h => h) (Or.inl ⟨by rfl, ?_⟩) ?_ ?_
  rotate_left
  · intro w'
    go_simp
    with_reducible rfl
  rotate_left
  · simp only [Act.put, pkA, pkB, pkC, i64_w, i32_w]
    rfl
  refine take_ (i := 4) (N := some 13) (v := ?_) (a' := ?_) #[tt,tt,tt,tt,tt,ff,ff,ff] rfl rfl (by kernel_rfl) (fun _ _ _ h => h) (Or.inl ⟨by rfl, ?_⟩) hHeld ?_ ?_
  rotate_left
  · rintro w' ⟨s0, s1, s2, s3, s4⟩
    go_simp
    with_reducible rfl
  rotate_left
  · simp only [Act.put, pkA, pkB, pkC, i64_w, i32_w]
    rfl
  refine join_ (σ := Value × Nat) 1 #[tt,tt,tt,tt,tt,tt,tt,ff] (fun s => [(14, s.1), (7, .pointer (some ⟨s.2, 0, none⟩))]) (fun s w' => Below w2.heap.size w2 w' ∧ BytesAt B w' s.1 (c.go f.now) ∧ w'.heap[s.2]? = some (.cells #[.slice none 0 0] 32 (0, 0)) ∧ w2.heap.size ≤ s.2) ?_ ?_
  rotate_left
  · intro hCont
    refine two_ (i := 5) (j := 6) (Ni := some 14) (Nj := some 7) #[tt,tt,tt,tt,tt,tt,ff,ff] #[tt,tt,tt,tt,tt,ff,tt,ff] rfl rfl rfl rfl (by kernel_rfl) (by decide) (by decide) (fun K hK => ?_) (fun K hK => ?_)
    · skip
      refine goes_ Tryz.func66 (by kernel_rfl) rfl #[.agg #[.int .i64 (c.pos : Int), .slice Ab c.b.length cpb, .bool c.cut], .slice A f.now.length cp] (by rfl) rfl rfl (by simp only [List.map_toArray, List.map_cons, List.map_nil]; rfl) ?_
      with_reducible refine (HDO.out w2 HB2.out).mono ?_
      rintro e w3 ⟨v, rfl, hr, hb⟩
      refine ⟨_, rfl, ?_⟩
      have k := fun (g i : Nat) (u : Value) (hc : w2.cell? ⟨g, i, none⟩ = some u) => (hb.cell (p := ⟨g, i, none⟩) (World.block_lt_of_cell? w2 _ hc)).trans hc
      refine hK.out _ _ ⟨(k _ _ _ hHeld2.1), (k _ _ _ hHeld2.2.1), (k _ _ _ hHeld2.2.2.1), (k _ _ _ hHeld2.2.2.2.1), (k _ _ _ hHeld2.2.2.2.2)⟩ (fun hHeld => ?_)
      clear hK K
      refine norm_ (a' := ?_) ?_ ?_
      rotate_left
      · show Act.put _ (some 14) _ = _
        simp only [Act.put, pkA, pkB, pkC, i64_w, i32_w]
        rfl
      refine one_ (i := 6) (N := some 7) #[tt,tt,tt,tt,tt,tt,tt,ff] rfl rfl (by kernel_rfl) (by decide) (fun K hK => ?_)
      refine value_ (w1 := ?_) (v := ?_) (by rfl) rfl ?_ ?_
      rotate_left 2
      · go_simp
        constructor
        · rfl
        · rfl
      have k2 := fun (g i : Nat) (u : Value) (hc : w3.cell? ⟨g, i, none⟩ = some u) => (((Below.refl _ w3).alloc (Nat.le_refl _) (.cells #[.slice none 0 0] 32)).cell (p := ⟨g, i, none⟩) (World.block_lt_of_cell? w3 _ hc)).trans hc
      refine hK.out _ _ ⟨(k2 _ _ _ (k _ _ _ hHeld2.1)), (k2 _ _ _ (k _ _ _ hHeld2.2.1)), (k2 _ _ _ (k _ _ _ hHeld2.2.2.1)), (k2 _ _ _ (k _ _ _ hHeld2.2.2.2.1)), (k2 _ _ _ (k _ _ _ hHeld2.2.2.2.2))⟩ (fun hHeld => ?_)
      clear hK K
      refine norm_ (a' := ?_) ?_ ?_
      rotate_left
      · show Act.put _ (some 7) _ = _
        simp only [Act.put, pkA, pkB, pkC, i64_w, i32_w]
        rfl
      exact norm_ (by simp only [putAll, Act.put, pkA, pkB, pkC]) (hCont (v, w3.heap.size) _ ⟨hb.trans ((Below.refl _ _).alloc hb.size _), (BytesAt.turn (BytesAt.lower hr (Nat.le_trans HLO.out.1 HB2.out.size) (Nat.lt_of_lt_of_le HLO.out.2 HB2.out.size)) (Turn.of_below ((Below.refl _ _).alloc (Nat.le_refl _) _))), heap_alloc_new w3 _, hb.size⟩)
    · skip
      refine value_ (w1 := ?_) (v := ?_) (by rfl) rfl ?_ ?_
      rotate_left 2
      · go_simp
        constructor
        · rfl
        · rfl
      have k := fun (g i : Nat) (u : Value) (hc : w2.cell? ⟨g, i, none⟩ = some u) => (((Below.refl _ w2).alloc (Nat.le_refl _) (.cells #[.slice none 0 0] 32)).cell (p := ⟨g, i, none⟩) (World.block_lt_of_cell? w2 _ hc)).trans hc
      have hb3 : Below w2.heap.size w2 (w2.alloc (.cells #[.slice none 0 0] 32)) := (Below.refl _ _).alloc (Nat.le_refl _) _
      have ha3 := heap_alloc_new w2 (.cells #[.slice none 0 0] 32)
      refine hK.out _ _ ⟨(k _ _ _ hHeld2.1), (k _ _ _ hHeld2.2.1), (k _ _ _ hHeld2.2.2.1), (k _ _ _ hHeld2.2.2.2.1), (k _ _ _ hHeld2.2.2.2.2)⟩ (fun hHeld => ?_)
      clear hK K
      refine norm_ (a' := ?_) ?_ ?_
      rotate_left
      · show Act.put _ (some 7) _ = _
        simp only [Act.put, pkA, pkB, pkC, i64_w, i32_w]
        rfl
      refine one_ (i := 5) (N := some 14) #[tt,tt,tt,tt,tt,tt,tt,ff] rfl rfl (by kernel_rfl) (by decide) (fun K hK => ?_)
      refine goes_ Tryz.func66 (by kernel_rfl) rfl #[.agg #[.int .i64 (c.pos : Int), .slice Ab c.b.length cpb, .bool c.cut], .slice A f.now.length cp] (by rfl) rfl rfl (by simp only [List.map_toArray, List.map_cons, List.map_nil]; rfl) ?_
      with_reducible refine (HDO.out _ (HB2.out.trans (hb3.mono HB2.out.size))).mono ?_
      rintro e w3 ⟨v, rfl, hr, hb⟩
      refine ⟨_, rfl, ?_⟩
      have k2 := fun (g i : Nat) (u : Value) (hc : (w2.alloc (.cells #[.slice none 0 0] 32)).cell? ⟨g, i, none⟩ = some u) => (hb.cell (p := ⟨g, i, none⟩) (World.block_lt_of_cell? _ _ hc)).trans hc
      refine hK.out _ _ ⟨(k2 _ _ _ (k _ _ _ hHeld2.1)), (k2 _ _ _ (k _ _ _ hHeld2.2.1)), (k2 _ _ _ (k _ _ _ hHeld2.2.2.1)), (k2 _ _ _ (k _ _ _ hHeld2.2.2.2.1)), (k2 _ _ _ (k _ _ _ hHeld2.2.2.2.2))⟩ (fun hHeld => ?_)
      clear hK K
      refine norm_ (a' := ?_) ?_ ?_
      rotate_left
      · show Act.put _ (some 14) _ = _
        simp only [Act.put, pkA, pkB, pkC, i64_w, i32_w]
        rfl
      exact norm_ (by simp only [putAll, Act.put, pkA, pkB, pkC]) (hCont (v, w2.heap.size) _ ⟨hb3.trans (hb.mono hb3.size), BytesAt.lower hr (Nat.le_trans HLO.out.1 (Nat.le_trans HB2.out.size hb3.size)) (Nat.lt_of_lt_of_le HLO.out.2 (Nat.le_trans HB2.out.size hb3.size)), (hb.block _ (by simp)).trans ha3, Nat.le_refl _⟩)
  rintro ⟨v, ga⟩ w3 ⟨hb3, hv3, ha3, hg3⟩
  obtain ⟨Av, cpv, rfl⟩ := Kd.R_slice hv3
  have k3 := fun (g i : Nat) (u : Value) (hc : w2.cell? ⟨g, i, none⟩ = some u) => (hb3.cell (p := ⟨g, i, none⟩) (World.block_lt_of_cell? w2 _ hc)).trans hc
  have hHeld : w3.cell? ⟨w.heap.size, 0, none⟩ = some (.pointer (some ⟨x.1, 0, none⟩)) ∧ w3.cell? ⟨x.1, 0, none⟩ = some (.slice A f.now.length cp) ∧ w3.cell? ⟨w.heap.size + 1, 0, none⟩ = some (.int .i64 (c.pos : Int)) ∧ w3.cell? ⟨w.heap.size + 1, 1, none⟩ = some (.slice Ab c.b.length cpb) ∧ w3.cell? ⟨w.heap.size + 1, 2, none⟩ = some (.bool c.cut) := ⟨k3 _ _ _ hHeld2.1, k3 _ _ _ hHeld2.2.1, k3 _ _ _ hHeld2.2.2.1, k3 _ _ _ hHeld2.2.2.2.1, k3 _ _ _ hHeld2.2.2.2.2⟩
  have hHeld3 := hHeld
  have cga : w3.cell? ⟨ga, 0, none⟩ = some (.slice none 0 0) := (blk_cell ha3 0).trans rfl
  have fga : w3.frozen? ⟨ga, 0, none⟩ = false := blk_frozen ha3 0
  refine norm_ (a' := ?_) ?_ ?_
  rotate_left
  · simp only [putAll, Act.put, pkA, pkB, pkC]
    rfl
  refine one_ (i := 7) (N := none) #[tt,tt,tt,tt,tt,tt,tt,tt] rfl rfl (by kernel_rfl) (by decide) (fun K hK => ?_)
  refine skip_ (w1 := ?_) (by rfl) rfl ?_ ?_
  rotate_left
  · go_simp
    rfl
  have lt := fun (g i : Nat) (u : Value) (hc : w2.cell? ⟨g, i, none⟩ = some u) => World.block_lt_of_cell? w2 _ hc
  have k4 := fun (g i : Nat) (u : Value) (hc : w2.cell? ⟨g, i, none⟩ = some u) => cell_far2 (k3 g i u hc) (p := ⟨ga, 0, none⟩) (show g ≠ ga by have h9 := lt g i u hc; have h8 := hg3; simp only at h9 h8; omega) (.slice Av (c.go f.now).length cpv)
  refine hK.out _ _ ⟨(k4 _ _ _ hHeld2.1), (k4 _ _ _ hHeld2.2.1), (k4 _ _ _ hHeld2.2.2.1), (k4 _ _ _ hHeld2.2.2.2.1), (k4 _ _ _ hHeld2.2.2.2.2)⟩ (fun hHeld => ?_)
  clear hK K
  refine done_ (by kernel_rfl) ?_
  have HCW := Aside0.mk (show CW B w x.1 c (.slice Ab c.b.length cpb) (c.go f.now) ga (.slice Av (c.go f.now).length cpv) (w3.setCell ⟨ga, 0, none⟩ (.slice Av (c.go f.now).length cpv)) from by
    have lg : w.heap.size + 1 < w2.heap.size := blk_lt HCB2.out
    have hbg : Below w2.heap.size w2 (w3.setCell ⟨ga, 0, none⟩ (.slice Av (c.go f.now).length cpv)) := hb3.setCell (p := ⟨ga, 0, none⟩) hg3 _
    have hne : ∀ k, k ≠ ga → (w3.setCell ⟨ga, 0, none⟩ (.slice Av (c.go f.now).length cpv)).heap[k]? = w3.heap[k]? := fun k hk => Below.heap_setCell w3 ⟨ga, 0, none⟩ _ k hk
    refine ⟨HB2.out.trans (hbg.mono HB2.out.size), (hbg.cell (p := ⟨w.heap.size, 0, none⟩) (by simp only; omega)).trans hcf2, (hbg.block _ lg).trans HCB2.out, ?_, ?_, Nat.le_trans HB2.out.size hg3⟩
    · exact (blk_cell (blk_put ha3 0 (.slice Av (c.go f.now).length cpv) rfl) 0).trans rfl
    · exact BytesAt.but hv3 (But.setCell w3 ⟨ga, 0, none⟩ _) (Not.cells (t := 32) (fun g hg => by obtain rfl := Option.some.inj hg; exact ⟨_, _, ha3⟩) (by decide)))
  clear hb3 hv3 ha3 hg3 k3 cga fga hHeld2 hcf2 hn2 HDO HCB HCF HB0
  generalize w3.setCell ⟨ga, 0, none⟩ (.slice Av (c.go f.now).length cpv) = W3 at HCW ⊢
  have cf := HCW.out.cf
  have cn := HCW.out.cn
  have n0 := (HCW.out.bel.cell (p := ⟨x.1, 0, none⟩) (World.block_lt_of_cell? w _ HN0.out)).trans HN0.out
  rw [← HGL.out] at cn
  rw [← HNL.out] at n0
  go_wp2
  refine start_ (n := 9) (S := fun w' => w'.cell? ⟨ga, 0, none⟩ = some (.slice Av gl cpv) ∧ w'.cell? ⟨w.heap.size, 0, none⟩ = some (.pointer (some ⟨x.1, 0, none⟩)) ∧ w'.cell? ⟨x.1, 0, none⟩ = some (.slice A nl cp)) (ds := []) #[ff,ff,ff,ff,ff,ff,ff,ff,ff] (by kernel_rfl) rfl rfl ⟨cn, cf, n0⟩ (fun hHeld => ?_)
  refine take_ (i := 0) (N := some 15) (v := ?_) (a' := ?_) #[tt,ff,ff,ff,ff,ff,ff,ff,ff] rfl rfl (by kernel_rfl) (fun _ _ _ h => h) (Or.inl ⟨by rfl, ?_⟩) hHeld ?_ ?_
  rotate_left
  · rintro w' ⟨s0, s1, s2⟩
    go_simp
    with_reducible rfl
  rotate_left
  · simp only [Act.put, pkA, pkB, pkC, i64_w, i32_w]
    rfl
  refine pure_ (i := 1) (N := some 16) (v := ?_) (a' := ?_) #[tt,tt,ff,ff,ff,ff,ff,ff,ff] rfl rfl (by kernel_rfl) (fun _ _ _ h => h) (Or.inl ⟨by rfl, ?_⟩) ?_ ?_
  rotate_left
  · intro w'
    go_simp
    with_reducible rfl
  rotate_left
  · simp only [Act.put, pkA, pkB, pkC, i64_w, i32_w]
    rfl
  refine take_ (i := 2) (N := some 17) (v := ?_) (a' := ?_) #[tt,tt,tt,ff,ff,ff,ff,ff,ff] rfl rfl (by kernel_rfl) (fun _ _ _ h => h) (Or.inl ⟨by rfl, ?_⟩) hHeld ?_ ?_
  rotate_left
  · rintro w' ⟨s0, s1, s2⟩
    go_simp
    with_reducible rfl
  rotate_left
  · simp only [Act.put, pkA, pkB, pkC, i64_w, i32_w]
    rfl
  refine pure_ (i := 3) (N := some 18) (v := ?_) (a' := ?_) #[tt,tt,tt,tt,ff,ff,ff,ff,ff] rfl rfl (by kernel_rfl) (fun _ _ _ h => h) (Or.inl ⟨by rfl, ?_⟩) ?_ ?_
  rotate_left
  · intro w'
    go_simp
    with_reducible rfl
  rotate_left
  · simp only [Act.put, pkA, pkB, pkC, i64_w, i32_w]
    rfl
  refine pure_ (i := 4) (N := some 19) (v := ?_) (a' := ?_) #[tt,tt,tt,tt,tt,ff,ff,ff,ff] rfl rfl (by kernel_rfl) (fun _ _ _ h => h) (Or.inl ⟨by rfl, ?_⟩) ?_ ?_
  rotate_left
  · intro w'
    go_simp
    with_reducible rfl
  rotate_left
  · simp only [Act.put, pkA, pkB, pkC, i64_w, i32_w]
    rfl
  refine take_ (i := 5) (N := some 20) (v := ?_) (a' := ?_) #[tt,tt,tt,tt,tt,tt,ff,ff,ff] rfl rfl (by kernel_rfl) (fun _ _ _ h => h) (Or.inl ⟨by rfl, ?_⟩) hHeld ?_ ?_
  rotate_left
  · rintro w' ⟨s0, s1, s2⟩
    go_simp
    with_reducible rfl
  rotate_left
  · simp only [Act.put, pkA, pkB, pkC, i64_w, i32_w]
    rfl
  refine pure_ (i := 6) (N := some 21) (v := ?_) (a' := ?_) #[tt,tt,tt,tt,tt,tt,tt,ff,ff] rfl rfl (by kernel_rfl) (fun _ _ _ h => h) (Or.inl ⟨by rfl, ?_⟩) ?_ ?_
  rotate_left
  · intro w'
    go_simp
    with_reducible rfl
  rotate_left
  · simp only [Act.put, pkA, pkB, pkC, i64_w, i32_w]
    rfl
  refine pure_ (i := 7) (N := some 22) (v := ?_) (a' := ?_) #[tt,tt,tt,tt,tt,tt,tt,tt,ff] rfl rfl (by kernel_rfl) (fun _ _ _ h => h) (Or.inl ⟨by rfl, ?_⟩) ?_ ?_
  rotate_left
  · intro w'
    go_simp
    with_reducible rfl
  rotate_left
  · simp only [Act.put, pkA, pkB, pkC, i64_w, i32_w]
    rfl
  refine pure_ (i := 8) (N := some 8) (v := ?_) (a' := ?_) #[tt,tt,tt,tt,tt,tt,tt,tt,tt] rfl rfl (by kernel_rfl) (fun _ _ _ h => h) (Or.inl ⟨by rfl, ?_⟩) ?_ ?_
  rotate_left
  · intro w'
    go_simp
    with_reducible rfl
  rotate_left
  · simp only [Act.put, pkA, pkB, pkC, i64_w, i32_w]
    rfl
  refine done_ (by kernel_rfl) ?_
  have HCW2 := Aside0.mk HCW.out.drew
  clear HCW cf cn n0
  generalize W3.drew = W4 at HCW2 ⊢
  have q4 := (HCW2.out.bel.cell (p := ⟨p, 4, none⟩) (World.block_lt_of_cell? w _ HQ.out)).trans HQ.out
  go_wp2
  refine start_ (n := 13) (S := fun w' => w'.cell? ⟨p, 4, none⟩ = some (.int .i64 D.quota)) (ds := []) #[ff,ff,ff,ff,ff,ff,ff,ff,ff,ff,ff,ff,ff] (by kernel_rfl) rfl rfl (q4) (fun hHeld => ?_)
  generalize hgw : W4.drew = w5 at hHeld ⊢
  have HCW3 := Aside0.mk (by rw [← hgw]; exact HCW2.out.drew : CW B w x.1 c (.slice Ab c.b.length cpb) (c.go f.now) ga (.slice Av (c.go f.now).length cpv) w5)
  clear hgw
  refine pure_ (i := 0) (N := some 23) (v := ?_) (a' := ?_) #[tt,ff,ff,ff,ff,ff,ff,ff,ff,ff,ff,ff,ff] rfl rfl (by kernel_rfl) (fun _ _ _ h => h) (Or.inl ⟨by rfl, ?_⟩) ?_ ?_
  rotate_left
  · intro w'
    go_simp
    with_reducible rfl
  rotate_left
  · simp only [Act.put, pkA, pkB, pkC, i64_w, i32_w]
    rfl
  refine pure_ (i := 1) (N := some 24) (v := ?_) (a' := ?_) #[tt,tt,ff,ff,ff,ff,ff,ff,ff,ff,ff,ff,ff] rfl rfl (by kernel_rfl) (fun _ _ _ h => h) (Or.inl ⟨by rfl, ?_⟩) ?_ ?_
  rotate_left
  · intro w'
    go_simp
    with_reducible rfl
  rotate_left
  · simp only [Act.put, pkA, pkB, pkC, i64_w, i32_w]
    rfl
  refine pure_ (i := 2) (N := some 25) (v := ?_) (a' := ?_) #[tt,tt,tt,ff,ff,ff,ff,ff,ff,ff,ff,ff,ff] rfl rfl (by kernel_rfl) (fun _ _ _ h => h) (Or.inl ⟨by rfl, ?_⟩) ?_ ?_
  rotate_left
  · intro w'
    go_simp
    with_reducible rfl
  rotate_left
  · simp only [Act.put, pkA, pkB, pkC, i64_w, i32_w]
    rfl
  refine pure_ (i := 3) (N := some 26) (v := ?_) (a' := ?_) #[tt,tt,tt,tt,ff,ff,ff,ff,ff,ff,ff,ff,ff] rfl rfl (by kernel_rfl) (fun _ _ _ h => h) (Or.inl ⟨by rfl, ?_⟩) ?_ ?_
  rotate_left
  · intro w'
    go_simp
    with_reducible rfl
  rotate_left
  · simp only [Act.put, pkA, pkB, pkC, i64_w, i32_w]
    rfl
  refine pure_ (i := 4) (N := some 27) (v := ?_) (a' := ?_) #[tt,tt,tt,tt,tt,ff,ff,ff,ff,ff,ff,ff,ff] rfl rfl (by kernel_rfl) (fun _ _ _ h => h) (Or.inl ⟨by rfl, ?_⟩) ?_ ?_
  rotate_left
  · intro w'
    go_simp
    with_reducible rfl
  rotate_left
  · simp only [Act.put, pkA, pkB, pkC, i64_w, i32_w]
    rfl
  refine pure_ (i := 5) (N := some 28) (v := ?_) (a' := ?_) #[tt,tt,tt,tt,tt,tt,ff,ff,ff,ff,ff,ff,ff] rfl rfl (by kernel_rfl) (fun _ _ _ h => h) (Or.inl ⟨by rfl, ?_⟩) ?_ ?_
  rotate_left
  · intro w'
    go_simp
    with_reducible rfl
  rotate_left
  · simp only [Act.put, pkA, pkB, pkC, i64_w, i32_w]
    rfl
  refine pure_ (i := 6) (N := some 29) (v := ?_) (a' := ?_) #[tt,tt,tt,tt,tt,tt,tt,ff,ff,ff,ff,ff,ff] rfl rfl (by kernel_rfl) (fun _ _ _ h => h) (Or.inl ⟨by rfl, ?_⟩) ?_ ?_
  rotate_left
  · intro w'
    go_simp
    with_reducible rfl
  rotate_left
  · simp only [Act.put, pkA, pkB, pkC, i64_w, i32_w]
    rfl
  refine pure_ (i := 8) (N := some 31) (v := ?_) (a' := ?_) #[tt,tt,tt,tt,tt,tt,tt,ff,tt,ff,ff,ff,ff] rfl rfl (by kernel_rfl) (fun _ _ _ h => h) (Or.inl ⟨by rfl, ?_⟩) ?_ ?_
  rotate_left
  · intro w'
    go_simp
    with_reducible rfl
  rotate_left
  · simp only [Act.put, pkA, pkB, pkC, i64_w, i32_w]
    rfl
  refine take_ (i := 7) (N := some 30) (v := ?_) (a' := ?_) #[tt,tt,tt,tt,tt,tt,tt,tt,tt,ff,ff,ff,ff] rfl rfl (by kernel_rfl) (fun _ _ _ h => h) (Or.inl ⟨by rfl, ?_⟩) hHeld ?_ ?_
  rotate_left
  · intro w' s0
    go_simp
    with_reducible rfl
  rotate_left
  · simp only [Act.put, pkA, pkB, pkC, i64_w, i32_w]
    rfl
  refine one_ (i := 9) (N := some 32) #[tt,tt,tt,tt,tt,tt,tt,tt,tt,tt,ff,ff,ff] rfl rfl (by kernel_rfl) (by decide) (fun K hK => ?_)
  refine goes_ Tryz.func52 (by kernel_rfl) rfl #[.pointer (some ⟨p, 0, none⟩)] (by rfl) rfl rfl (by simp only [List.map_toArray, List.map_cons, List.map_nil]; rfl) ?_
  with_reducible refine (HUS.out w5 HCW3.out.bel).mono ?_
  rintro e w6 ⟨rfl, hb⟩
  refine ⟨_, rfl, ?_⟩
  have HCW4 := Aside0.mk (HCW3.out.below hb)
  have q6 := (hb.cell (p := ⟨p, 4, none⟩) (World.block_lt_of_cell? w5 _ hHeld)).trans hHeld
  clear hb
  rw [← HUSE.out]
  refine hK.out _ _ (q6) (fun hHeld => ?_)
  clear hK K
  refine norm_ (a' := ?_) ?_ ?_
  rotate_left
  · show Act.put _ (some 32) _ = _
    simp only [Act.put, pkA, pkB, pkC, i64_w, i32_w]
    rfl
  refine pure_ (i := 10) (N := some 33) (v := ?_) (a' := ?_) #[tt,tt,tt,tt,tt,tt,tt,tt,tt,tt,tt,ff,ff] rfl rfl (by kernel_rfl) (fun _ _ _ h => h) (Or.inl ⟨by rfl, ?_⟩) ?_ ?_
  rotate_left
  · intro w'
    go_simp
    with_reducible rfl
  rotate_left
  · simp only [Act.put, pkA, pkB, pkC, i64_w, i32_w]
    rfl
  refine pure_ (i := 11) (N := some 34) (v := ?_) (a' := ?_) #[tt,tt,tt,tt,tt,tt,tt,tt,tt,tt,tt,tt,ff] rfl rfl (by kernel_rfl) (fun _ _ _ h => h) (Or.inl ⟨by rfl, ?_⟩) ?_ ?_
  rotate_left
  · intro w'
    go_simp
    with_reducible rfl
  rotate_left
  · simp only [Act.put, pkA, pkB, pkC, i64_w, i32_w]
    rfl
  refine pure_ (i := 12) (N := some 35) (v := ?_) (a' := ?_) #[tt,tt,tt,tt,tt,tt,tt,tt,tt,tt,tt,tt,tt] rfl rfl (by kernel_rfl) (fun _ _ _ h => h) (Or.inl ⟨by rfl, ?_⟩) ?_ ?_
  rotate_left
  · intro w'
    go_simp
    with_reducible rfl
  rotate_left
  · simp only [Act.put, pkA, pkB, pkC, i64_w, i32_w]
    rfl
  refine done_ (by kernel_rfl) ?_
  go_wp2_with fail
  have HL6 := Aside0.mk (HLI.out.below HCW4.out.bel)
  have HE6 := Aside0.mk (HER.out.turn (Turn.of_below HCW4.out.bel))
  have HBV6 := Aside0.mk (HBV.out.turn (Turn.of_below HCW4.out.bel))
  by_cases h0 : D.armed = 0
  · have H0 := Aside0.mk h0
    have HC := Aside0.mk (step_off B p D L m1 m2 fv ov E (.func (Fn.func 129) #[] #[.pointer (some ⟨ga, 0, none⟩), .pointer (some ⟨w.heap.size, 0, none⟩), .pointer (some ⟨w.heap.size + 1, 0, none⟩)]) w6 HL6.out HE6.out h0)
    clear h0
    go_wp2_with (go_at_call 92; refine HC.out.mono ?_; rintro e w7 ⟨rfl, hl, hb, ht⟩; have HL7 := Aside0.mk hl; have HT7 := Aside0.mk ht; clear hl hb ht; rw [errV_some])
    go_ret
    exact ⟨by rw [HRS.out, if_pos H0.out]; rfl, by rw [HRS.out, if_pos H0.out]; exact ⟨_, _, _, _, _, HL7.out⟩, (Turn.of_below HCW4.out.bel).trans HT7.out⟩
  · have H0 := Aside0.mk h0
    have HC := Aside0.mk (step_changed B p D L m1 m2 fv ov ga w.heap.size (w.heap.size + 1) (fun w' => (∃ rv, Lies B w' p (setF (stepD D) i ⟨c.go f.now, f.sure, f.opn ++ [c]⟩) (L.set i (x.1, rv)) m1 m2 fv ov) ∧ Turn B w6 w') w6 HL6.out h0 HAR.out.1 HAR.out.2.1 HAR.out.2.2.1 HAR.out.2.2.2
      (fun w1 hl hb ht => cg_after HLI.out HXX.out HFX.out HKf.out HST.out HCW4.out HBV6.out hl hb ht))
    clear h0
    go_wp2_with (go_at_call 92; refine HC.out.mono ?_; rintro e w7 ⟨rfl, ⟨rv, hl⟩, ht⟩; have HL7 := Aside0.mk hl; have HT7 := Aside0.mk ht; clear hl ht)
    go_ret
    exact ⟨by rw [HRS.out, if_neg H0.out]; rfl, by rw [HRS.out, if_neg H0.out]; exact ⟨_, _, _, _, _, HL7.out⟩, (Turn.of_below HCW4.out.bel).trans HT7.out⟩
set_option maxRecDepth 100000 in
set_option maxHeartbeats 8000000 in
theorem changed_less (B : Bx) (p : Nat) (D : Dsk) (L : List (Nat × Value)) (m1 m2 : Nat) (fv ov : Value) (i : Nat) (x : Nat × Value) (f : Fil) (c : Chg) (bv : Value) (E : Int → Addr) (w : World) (h : Lies B w p D L m1 m2 fv ov) (hE : ErrAt B w E) (hx : L[i]? = some x) (hf : D.files[i]? = some f)
    (hbv : BytesAt B w bv c.b) (hk : D.Ok) (hs : D.steps ≤ 1000000000) (hp : c.pos ≤ f.now.length) (hl2 : c.pos + c.b.length ≤ 1080000000) (hgr : ¬ f.now.length < (c.go f.now).length) :
    Calls Tryz.prog 94 #[.pointer (some ⟨p, 0, none⟩), .pointer (some ⟨x.1, 0, none⟩), .agg #[.int .i64 (c.pos : Int), bv, .bool c.cut]] w fun en w' => en = .returned (errV E (changedD D i f c).1) ∧ DiskAt B w' p (changedD D i f c).2 ∧ Turn B w w' := by
  have hres : changedD D i f c = if D.armed = 0 then (some 8, offD D) else (none, setF (stepD D) i ⟨c.go f.now, f.sure, f.opn ++ [c]⟩) := by unfold changedD; rw [if_neg (fun e => hgr e.1)]
  rw [hres]
  clear hres
  obtain ⟨rs, hrs⟩ : ∃ rs, rs = (if D.armed = 0 then (some 8, offD D) else (none, setF (stepD D) i ⟨c.go f.now, f.sure, f.opn ++ [c]⟩) : Option Int × Dsk) := ⟨_, rfl⟩
  rw [← hrs]
  have HRS := Aside0.mk hrs
  clear hrs
  have hkf := hk.fil f (List.mem_of_getElem? hf)
  obtain ⟨⟨nv, sv, ho, hn, hsu⟩, lo, hop⟩ := h.files.each i x f hx hf
  have hpl := blk_lt h.obj
  obtain ⟨A, cp, rfl⟩ := Kd.R_slice hn
  obtain ⟨Ab, cpb, rfl⟩ := Kd.R_slice hbv
  have hlenG := chg_len c f.now 1080000000 (by have := hkf.nowL; omega) hl2
  have hnl1 := hkf.nowL
  have HLI := Aside0.mk h
  have HER := Aside0.mk hE
  have HKf := Aside0.mk hkf
  have HST := Aside0.mk hs
  have HFX := Aside0.mk hf
  have HXX := Aside0.mk hx
  have HOO := Aside0.mk ho
  have hb0 : Below w.heap.size w ((w.alloc (.cells #[.pointer (some ⟨x.1, 0, none⟩)] 103)).alloc (.cells #[.int .i64 (c.pos : Int), .slice Ab c.b.length cpb, .bool c.cut] 114)) := ((Below.refl _ w).alloc (Nat.le_refl _) _).alloc (by simp) _
  have HB0 := Aside0.mk hb0
  have e0 : ((w.alloc (.cells #[.pointer (some ⟨x.1, 0, none⟩)] 103)).alloc (.cells #[.int .i64 (c.pos : Int), .slice Ab c.b.length cpb, .bool c.cut] 114)).heap[w.heap.size]? = some (.cells #[.pointer (some ⟨x.1, 0, none⟩)] 103 (0, 0)) :=
    (Below.heap_alloc _ _ _ (by simp)).trans (heap_alloc_new w _)
  have e1 : ((w.alloc (.cells #[.pointer (some ⟨x.1, 0, none⟩)] 103)).alloc (.cells #[.int .i64 (c.pos : Int), .slice Ab c.b.length cpb, .bool c.cut] 114)).heap[w.heap.size + 1]? = some (.cells #[.int .i64 (c.pos : Int), .slice Ab c.b.length cpb, .bool c.cut] 114 (0, 0)) := by
    simpa using heap_alloc_new (w.alloc (.cells #[.pointer (some ⟨x.1, 0, none⟩)] 103)) (.cells #[.int .i64 (c.pos : Int), .slice Ab c.b.length cpb, .bool c.cut] 114)
  have HCF := Aside0.mk ((blk_cell e0 0).trans rfl : _ = some (Value.pointer (some ⟨x.1, 0, none⟩)))
  have HCB := Aside0.mk e1
  have HDO := Aside0.mk (fun (U : World) (hb : Below w.heap.size w U) => chg_calls B c (.slice Ab c.b.length cpb) (.slice A f.now.length cp) f.now U (hbv.turn ⟨hb.os, hb.tape, hb.output, hb.size, fun k _ hs => hb.block k hs, fun k o ho _ => (hb.block k (blk_lt ho)).trans ho⟩) (hn.turn ⟨hb.os, hb.tape, hb.output, hb.size, fun k _ hs => hb.block k hs, fun k o ho _ => (hb.block k (blk_lt ho)).trans ho⟩) hp hkf.nowL hl2)
  have HBV := Aside0.mk hbv
  have HLO := Aside0.mk (show B.n ≤ w.heap.size ∧ B.q < w.heap.size by have := h.lop; have := h.lt; exact ⟨by omega, h.lt⟩)
  have HUS := Aside0.mk (fun (U : World) (hb : Below w.heap.size w U) => used_calls p D U (h.below hb) hk hs)
  have HAR := Aside0.mk (show D.armed ≤ 9223372036854775807 ∧ -1 ≤ D.armed ∧ 0 ≤ D.steps ∧ D.steps ≤ 1099511627776 from ⟨hk.armed1, hk.armed0, hk.steps0, by omega⟩)
  have HQ := Aside0.mk (show w.cell? ⟨p, 4, none⟩ = some (.int .i64 D.quota) from (blk_cell h.obj 4).trans rfl)
  have HU := Aside0.mk (show (usedD D : Int) ≤ 2000000000000000000 by
    have h1 := hk.nowF
    have h2 := gone_le (szOf D.files) 1073741824 (szOf_le hk) (fun _ => false) D.now
    rw [gone_end (szOf D.files) D.now _ (fun _ => rfl)] at h2
    have h3 := now_len hk
    have h4 : usedD D = (D.now.map fun p => szOf D.files p.2).sum := rfl
    have h5 : D.now.length * 1073741824 ≤ 1000000000 * 1073741824 := Nat.mul_le_mul_right _ (by omega)
    omega)
  have hq0 := hk.quota0
  have hq1 := hk.quota1
  obtain ⟨nl, hnl⟩ : ∃ nl, nl = f.now.length := ⟨_, rfl⟩
  obtain ⟨gl, hgl⟩ : ∃ gl, gl = (c.go f.now).length := ⟨_, rfl⟩
  obtain ⟨us, hus⟩ : ∃ us, us = usedD D := ⟨_, rfl⟩
  have HN0 := Aside0.mk ((blk_cell ho 0).trans rfl : w.cell? ⟨x.1, 0, none⟩ = some (.slice A f.now.length cp))
  have s1 : IntKind.i64.wrap ((gl : Int) - (nl : Int)) = (gl : Int) - (nl : Int) := IntWalk.i64_in _ ⟨by omega, by omega⟩
  have t1 : decide (nl < gl) = false := decide_eq_false (by omega)
  clear hgr
  have HNL := Aside0.mk hnl
  have HGL := Aside0.mk hgl
  have HUSE := Aside0.mk hus
  clear h hE hx hf hbv hk hs hp hl2 hkf ho hn hsu lo hop hb0 e0 e1 hlenG hnl1 hnl hgl hus
  go_enter Tryz.func94, Tryz.ntmps94
  go_wp2
  generalize (w.alloc (.cells #[.pointer (some ⟨x.1, 0, none⟩)] 103)).alloc (.cells #[.int .i64 (c.pos : Int), .slice Ab c.b.length cpb, .bool c.cut] 114) = W1 at HB0 HCF HCB ⊢
  have cf := HCF.out
  have g0 : W1.cell? ⟨w.heap.size + 1, 0, none⟩ = some (.int .i64 (c.pos : Int)) := (blk_cell HCB.out 0).trans rfl
  have g1 : W1.cell? ⟨w.heap.size + 1, 1, none⟩ = some (.slice Ab c.b.length cpb) := (blk_cell HCB.out 1).trans rfl
  have g2 : W1.cell? ⟨w.heap.size + 1, 2, none⟩ = some (.bool c.cut) := (blk_cell HCB.out 2).trans rfl
  have n0 := (HB0.out.cell (p := ⟨x.1, 0, none⟩) (World.block_lt_of_cell? w _ HN0.out)).trans HN0.out
  refine start_ (n := 8) (S := fun w' => w'.cell? ⟨w.heap.size, 0, none⟩ = some (.pointer (some ⟨x.1, 0, none⟩)) ∧ w'.cell? ⟨x.1, 0, none⟩ = some (.slice A f.now.length cp) ∧ w'.cell? ⟨w.heap.size + 1, 0, none⟩ = some (.int .i64 (c.pos : Int)) ∧ w'.cell? ⟨w.heap.size + 1, 1, none⟩ = some (.slice Ab c.b.length cpb) ∧ w'.cell? ⟨w.heap.size + 1, 2, none⟩ = some (.bool c.cut)) (ds := []) #[ff,ff,ff,ff,ff,ff,ff,ff] (by kernel_rfl) rfl rfl ⟨cf, n0, g0, g1, g2⟩ (fun hHeld => ?_)
  generalize hgw : W1.drew = w2 at hHeld ⊢
  have HB2 := Aside0.mk (show Below w.heap.size w w2 by rw [← hgw]; exact HB0.out.drew)
  have HCB2 := Aside0.mk (show w2.heap[w.heap.size + 1]? = some (.cells #[.int .i64 (c.pos : Int), .slice Ab c.b.length cpb, .bool c.cut] 114 (0, 0)) by rw [← hgw]; exact HCB.out)
  have hcf2 := hHeld.1
  have hn2 := hHeld.2.1
  have hHeld2 := hHeld
  clear hgw
  refine take_ (i := 0) (N := some 9) (v := ?_) (a' := ?_) #[tt,ff,ff,ff,ff,ff,ff,ff] rfl rfl (by kernel_rfl) (fun _ _ _ h => h) (Or.inl ⟨by rfl, ?_⟩) hHeld ?_ ?_
  rotate_left
  · rintro w' ⟨s0, s1, s2, s3, s4⟩
    go_simp
    with_reducible rfl
  rotate_left
  · simp only [Act.put, pkA, pkB, pkC, i64_w, i32_w]
    rfl
  refine take_ (i := 1) (N := some 10) (v := ?_) (a' := ?_) #[tt,tt,ff,ff,ff,ff,ff,ff] rfl rfl (by kernel_rfl) (fun _ _ _ h => h) (Or.inl ⟨by rfl, ?_⟩) hHeld ?_ ?_
  rotate_left
  · rintro w' ⟨s0, s1, s2, s3, s4⟩
    go_simp
    with_reducible rfl
  rotate_left
  · simp only [Act.put, pkA, pkB, pkC, i64_w, i32_w]
    rfl
  refine pure_ (i := 2) (N := some 11) (v := ?_) (a' := ?_) #[tt,tt,tt,ff,ff,ff,ff,ff] rfl rfl (by kernel_rfl) (fun _ _ _ h => h) (Or.inl ⟨by rfl, ?_⟩) ?_ ?_
  rotate_left
  · intro w'
    go_simp
    with_reducible rfl
  rotate_left
  · simp only [Act.put, pkA, pkB, pkC, i64_w, i32_w]
    rfl
  refine pure_ (i := 3) (N := some 12) (v := ?_) (a' := ?_) #[tt,tt,tt,tt,ff,ff,ff,ff] rfl rfl (by kernel_rfl) (fun _ _ _ h => h) (Or.inl ⟨by rfl, ?_⟩) ?_ ?_
  rotate_left
  · intro w'
    go_simp
    with_reducible rfl
  rotate_left
  · simp only [Act.put, pkA, pkB, pkC, i64_w, i32_w]
    rfl
  refine take_ (i := 4) (N := some 13) (v := ?_) (a' := ?_) #[tt,tt,tt,tt,tt,ff,ff,ff] rfl rfl (by kernel_rfl) (fun _ _ _ h => h) (Or.inl ⟨by rfl, ?_⟩) hHeld ?_ ?_
  rotate_left
  · rintro w' ⟨s0, s1, s2, s3, s4⟩
    go_simp
    with_reducible rfl
  rotate_left
  · simp only [Act.put, pkA, pkB, pkC, i64_w, i32_w]
    rfl
  refine join_ (σ := Value × Nat) 1 #[tt,tt,tt,tt,tt,tt,tt,ff] (fun s => [(14, s.1), (7, .pointer (some ⟨s.2, 0, none⟩))]) (fun s w' => Below w2.heap.size w2 w' ∧ BytesAt B w' s.1 (c.go f.now) ∧ w'.heap[s.2]? = some (.cells #[.slice none 0 0] 32 (0, 0)) ∧ w2.heap.size ≤ s.2) ?_ ?_
  rotate_left
  · intro hCont
    refine two_ (i := 5) (j := 6) (Ni := some 14) (Nj := some 7) #[tt,tt,tt,tt,tt,tt,ff,ff] #[tt,tt,tt,tt,tt,ff,tt,ff] rfl rfl rfl rfl (by kernel_rfl) (by decide) (by decide) (fun K hK => ?_) (fun K hK => ?_)
    · skip
      refine goes_ Tryz.func66 (by kernel_rfl) rfl #[.agg #[.int .i64 (c.pos : Int), .slice Ab c.b.length cpb, .bool c.cut], .slice A f.now.length cp] (by rfl) rfl rfl (by simp only [List.map_toArray, List.map_cons, List.map_nil]; rfl) ?_
      with_reducible refine (HDO.out w2 HB2.out).mono ?_
      rintro e w3 ⟨v, rfl, hr, hb⟩
      refine ⟨_, rfl, ?_⟩
      have k := fun (g i : Nat) (u : Value) (hc : w2.cell? ⟨g, i, none⟩ = some u) => (hb.cell (p := ⟨g, i, none⟩) (World.block_lt_of_cell? w2 _ hc)).trans hc
      refine hK.out _ _ ⟨(k _ _ _ hHeld2.1), (k _ _ _ hHeld2.2.1), (k _ _ _ hHeld2.2.2.1), (k _ _ _ hHeld2.2.2.2.1), (k _ _ _ hHeld2.2.2.2.2)⟩ (fun hHeld => ?_)
      clear hK K
      refine norm_ (a' := ?_) ?_ ?_
      rotate_left
      · show Act.put _ (some 14) _ = _
        simp only [Act.put, pkA, pkB, pkC, i64_w, i32_w]
        rfl
      refine one_ (i := 6) (N := some 7) #[tt,tt,tt,tt,tt,tt,tt,ff] rfl rfl (by kernel_rfl) (by decide) (fun K hK => ?_)
      refine value_ (w1 := ?_) (v := ?_) (by rfl) rfl ?_ ?_
      rotate_left 2
      · go_simp
        constructor
        · rfl
        · rfl
      have k2 := fun (g i : Nat) (u : Value) (hc : w3.cell? ⟨g, i, none⟩ = some u) => (((Below.refl _ w3).alloc (Nat.le_refl _) (.cells #[.slice none 0 0] 32)).cell (p := ⟨g, i, none⟩) (World.block_lt_of_cell? w3 _ hc)).trans hc
      refine hK.out _ _ ⟨(k2 _ _ _ (k _ _ _ hHeld2.1)), (k2 _ _ _ (k _ _ _ hHeld2.2.1)), (k2 _ _ _ (k _ _ _ hHeld2.2.2.1)), (k2 _ _ _ (k _ _ _ hHeld2.2.2.2.1)), (k2 _ _ _ (k _ _ _ hHeld2.2.2.2.2))⟩ (fun hHeld => ?_)
      clear hK K
      refine norm_ (a' := ?_) ?_ ?_
      rotate_left
      · show Act.put _ (some 7) _ = _
        simp only [Act.put, pkA, pkB, pkC, i64_w, i32_w]
        rfl
      exact norm_ (by simp only [putAll, Act.put, pkA, pkB, pkC]) (hCont (v, w3.heap.size) _ ⟨hb.trans ((Below.refl _ _).alloc hb.size _), (BytesAt.turn (BytesAt.lower hr (Nat.le_trans HLO.out.1 HB2.out.size) (Nat.lt_of_lt_of_le HLO.out.2 HB2.out.size)) (Turn.of_below ((Below.refl _ _).alloc (Nat.le_refl _) _))), heap_alloc_new w3 _, hb.size⟩)
    · skip
      refine value_ (w1 := ?_) (v := ?_) (by rfl) rfl ?_ ?_
      rotate_left 2
      · go_simp
        constructor
        · rfl
        · rfl
      have k := fun (g i : Nat) (u : Value) (hc : w2.cell? ⟨g, i, none⟩ = some u) => (((Below.refl _ w2).alloc (Nat.le_refl _) (.cells #[.slice none 0 0] 32)).cell (p := ⟨g, i, none⟩) (World.block_lt_of_cell? w2 _ hc)).trans hc
      have hb3 : Below w2.heap.size w2 (w2.alloc (.cells #[.slice none 0 0] 32)) := (Below.refl _ _).alloc (Nat.le_refl _) _
      have ha3 := heap_alloc_new w2 (.cells #[.slice none 0 0] 32)
      refine hK.out _ _ ⟨(k _ _ _ hHeld2.1), (k _ _ _ hHeld2.2.1), (k _ _ _ hHeld2.2.2.1), (k _ _ _ hHeld2.2.2.2.1), (k _ _ _ hHeld2.2.2.2.2)⟩ (fun hHeld => ?_)
      clear hK K
      refine norm_ (a' := ?_) ?_ ?_
      rotate_left
      · show Act.put _ (some 7) _ = _
        simp only [Act.put, pkA, pkB, pkC, i64_w, i32_w]
        rfl
      refine one_ (i := 5) (N := some 14) #[tt,tt,tt,tt,tt,tt,tt,ff] rfl rfl (by kernel_rfl) (by decide) (fun K hK => ?_)
      refine goes_ Tryz.func66 (by kernel_rfl) rfl #[.agg #[.int .i64 (c.pos : Int), .slice Ab c.b.length cpb, .bool c.cut], .slice A f.now.length cp] (by rfl) rfl rfl (by simp only [List.map_toArray, List.map_cons, List.map_nil]; rfl) ?_
      with_reducible refine (HDO.out _ (HB2.out.trans (hb3.mono HB2.out.size))).mono ?_
      rintro e w3 ⟨v, rfl, hr, hb⟩
      refine ⟨_, rfl, ?_⟩
      have k2 := fun (g i : Nat) (u : Value) (hc : (w2.alloc (.cells #[.slice none 0 0] 32)).cell? ⟨g, i, none⟩ = some u) => (hb.cell (p := ⟨g, i, none⟩) (World.block_lt_of_cell? _ _ hc)).trans hc
      refine hK.out _ _ ⟨(k2 _ _ _ (k _ _ _ hHeld2.1)), (k2 _ _ _ (k _ _ _ hHeld2.2.1)), (k2 _ _ _ (k _ _ _ hHeld2.2.2.1)), (k2 _ _ _ (k _ _ _ hHeld2.2.2.2.1)), (k2 _ _ _ (k _ _ _ hHeld2.2.2.2.2))⟩ (fun hHeld => ?_)
      clear hK K
      refine norm_ (a' := ?_) ?_ ?_
      rotate_left
      · show Act.put _ (some 14) _ = _
        simp only [Act.put, pkA, pkB, pkC, i64_w, i32_w]
        rfl
      exact norm_ (by simp only [putAll, Act.put, pkA, pkB, pkC]) (hCont (v, w2.heap.size) _ ⟨hb3.trans (hb.mono hb3.size), BytesAt.lower hr (Nat.le_trans HLO.out.1 (Nat.le_trans HB2.out.size hb3.size)) (Nat.lt_of_lt_of_le HLO.out.2 (Nat.le_trans HB2.out.size hb3.size)), (hb.block _ (by simp)).trans ha3, Nat.le_refl _⟩)
  rintro ⟨v, ga⟩ w3 ⟨hb3, hv3, ha3, hg3⟩
  obtain ⟨Av, cpv, rfl⟩ := Kd.R_slice hv3
  have k3 := fun (g i : Nat) (u : Value) (hc : w2.cell? ⟨g, i, none⟩ = some u) => (hb3.cell (p := ⟨g, i, none⟩) (World.block_lt_of_cell? w2 _ hc)).trans hc
  have hHeld : w3.cell? ⟨w.heap.size, 0, none⟩ = some (.pointer (some ⟨x.1, 0, none⟩)) ∧ w3.cell? ⟨x.1, 0, none⟩ = some (.slice A f.now.length cp) ∧ w3.cell? ⟨w.heap.size + 1, 0, none⟩ = some (.int .i64 (c.pos : Int)) ∧ w3.cell? ⟨w.heap.size + 1, 1, none⟩ = some (.slice Ab c.b.length cpb) ∧ w3.cell? ⟨w.heap.size + 1, 2, none⟩ = some (.bool c.cut) := ⟨k3 _ _ _ hHeld2.1, k3 _ _ _ hHeld2.2.1, k3 _ _ _ hHeld2.2.2.1, k3 _ _ _ hHeld2.2.2.2.1, k3 _ _ _ hHeld2.2.2.2.2⟩
  have hHeld3 := hHeld
  have cga : w3.cell? ⟨ga, 0, none⟩ = some (.slice none 0 0) := (blk_cell ha3 0).trans rfl
  have fga : w3.frozen? ⟨ga, 0, none⟩ = false := blk_frozen ha3 0
  refine norm_ (a' := ?_) ?_ ?_
  rotate_left
  · simp only [putAll, Act.put, pkA, pkB, pkC]
    rfl
  refine one_ (i := 7) (N := none) #[tt,tt,tt,tt,tt,tt,tt,tt] rfl rfl (by kernel_rfl) (by decide) (fun K hK => ?_)
  refine skip_ (w1 := ?_) (by rfl) rfl ?_ ?_
  rotate_left
  · go_simp
    rfl
  have lt := fun (g i : Nat) (u : Value) (hc : w2.cell? ⟨g, i, none⟩ = some u) => World.block_lt_of_cell? w2 _ hc
  have k4 := fun (g i : Nat) (u : Value) (hc : w2.cell? ⟨g, i, none⟩ = some u) => cell_far2 (k3 g i u hc) (p := ⟨ga, 0, none⟩) (show g ≠ ga by have h9 := lt g i u hc; have h8 := hg3; simp only at h9 h8; omega) (.slice Av (c.go f.now).length cpv)
  refine hK.out _ _ ⟨(k4 _ _ _ hHeld2.1), (k4 _ _ _ hHeld2.2.1), (k4 _ _ _ hHeld2.2.2.1), (k4 _ _ _ hHeld2.2.2.2.1), (k4 _ _ _ hHeld2.2.2.2.2)⟩ (fun hHeld => ?_)
  clear hK K
  refine done_ (by kernel_rfl) ?_
  have HCW := Aside0.mk (show CW B w x.1 c (.slice Ab c.b.length cpb) (c.go f.now) ga (.slice Av (c.go f.now).length cpv) (w3.setCell ⟨ga, 0, none⟩ (.slice Av (c.go f.now).length cpv)) from by
    have lg : w.heap.size + 1 < w2.heap.size := blk_lt HCB2.out
    have hbg : Below w2.heap.size w2 (w3.setCell ⟨ga, 0, none⟩ (.slice Av (c.go f.now).length cpv)) := hb3.setCell (p := ⟨ga, 0, none⟩) hg3 _
    have hne : ∀ k, k ≠ ga → (w3.setCell ⟨ga, 0, none⟩ (.slice Av (c.go f.now).length cpv)).heap[k]? = w3.heap[k]? := fun k hk => Below.heap_setCell w3 ⟨ga, 0, none⟩ _ k hk
    refine ⟨HB2.out.trans (hbg.mono HB2.out.size), (hbg.cell (p := ⟨w.heap.size, 0, none⟩) (by simp only; omega)).trans hcf2, (hbg.block _ lg).trans HCB2.out, ?_, ?_, Nat.le_trans HB2.out.size hg3⟩
    · exact (blk_cell (blk_put ha3 0 (.slice Av (c.go f.now).length cpv) rfl) 0).trans rfl
    · exact BytesAt.but hv3 (But.setCell w3 ⟨ga, 0, none⟩ _) (Not.cells (t := 32) (fun g hg => by obtain rfl := Option.some.inj hg; exact ⟨_, _, ha3⟩) (by decide)))
  clear hb3 hv3 ha3 hg3 k3 cga fga hHeld2 hcf2 hn2 HDO HCB HCF HB0
  generalize w3.setCell ⟨ga, 0, none⟩ (.slice Av (c.go f.now).length cpv) = W3 at HCW ⊢
  have cf := HCW.out.cf
  have cn := HCW.out.cn
  have n0 := (HCW.out.bel.cell (p := ⟨x.1, 0, none⟩) (World.block_lt_of_cell? w _ HN0.out)).trans HN0.out
  rw [← HGL.out] at cn
  rw [← HNL.out] at n0
  go_wp2
  refine start_ (n := 9) (S := fun w' => w'.cell? ⟨ga, 0, none⟩ = some (.slice Av gl cpv) ∧ w'.cell? ⟨w.heap.size, 0, none⟩ = some (.pointer (some ⟨x.1, 0, none⟩)) ∧ w'.cell? ⟨x.1, 0, none⟩ = some (.slice A nl cp)) (ds := []) #[ff,ff,ff,ff,ff,ff,ff,ff,ff] (by kernel_rfl) rfl rfl ⟨cn, cf, n0⟩ (fun hHeld => ?_)
  refine take_ (i := 0) (N := some 15) (v := ?_) (a' := ?_) #[tt,ff,ff,ff,ff,ff,ff,ff,ff] rfl rfl (by kernel_rfl) (fun _ _ _ h => h) (Or.inl ⟨by rfl, ?_⟩) hHeld ?_ ?_
  rotate_left
  · rintro w' ⟨s0, s1, s2⟩
    go_simp
    with_reducible rfl
  rotate_left
  · simp only [Act.put, pkA, pkB, pkC, i64_w, i32_w]
    rfl
  refine pure_ (i := 1) (N := some 16) (v := ?_) (a' := ?_) #[tt,tt,ff,ff,ff,ff,ff,ff,ff] rfl rfl (by kernel_rfl) (fun _ _ _ h => h) (Or.inl ⟨by rfl, ?_⟩) ?_ ?_
  rotate_left
  · intro w'
    go_simp
    with_reducible rfl
  rotate_left
  · simp only [Act.put, pkA, pkB, pkC, i64_w, i32_w]
    rfl
  refine take_ (i := 2) (N := some 17) (v := ?_) (a' := ?_) #[tt,tt,tt,ff,ff,ff,ff,ff,ff] rfl rfl (by kernel_rfl) (fun _ _ _ h => h) (Or.inl ⟨by rfl, ?_⟩) hHeld ?_ ?_
  rotate_left
  · rintro w' ⟨s0, s1, s2⟩
    go_simp
    with_reducible rfl
  rotate_left
  · simp only [Act.put, pkA, pkB, pkC, i64_w, i32_w]
    rfl
  refine pure_ (i := 3) (N := some 18) (v := ?_) (a' := ?_) #[tt,tt,tt,tt,ff,ff,ff,ff,ff] rfl rfl (by kernel_rfl) (fun _ _ _ h => h) (Or.inl ⟨by rfl, ?_⟩) ?_ ?_
  rotate_left
  · intro w'
    go_simp
    with_reducible rfl
  rotate_left
  · simp only [Act.put, pkA, pkB, pkC, i64_w, i32_w]
    rfl
  refine pure_ (i := 4) (N := some 19) (v := ?_) (a' := ?_) #[tt,tt,tt,tt,tt,ff,ff,ff,ff] rfl rfl (by kernel_rfl) (fun _ _ _ h => h) (Or.inl ⟨by rfl, ?_⟩) ?_ ?_
  rotate_left
  · intro w'
    go_simp
    with_reducible rfl
  rotate_left
  · simp only [Act.put, pkA, pkB, pkC, i64_w, i32_w]
    rfl
  refine take_ (i := 5) (N := some 20) (v := ?_) (a' := ?_) #[tt,tt,tt,tt,tt,tt,ff,ff,ff] rfl rfl (by kernel_rfl) (fun _ _ _ h => h) (Or.inl ⟨by rfl, ?_⟩) hHeld ?_ ?_
  rotate_left
  · rintro w' ⟨s0, s1, s2⟩
    go_simp
    with_reducible rfl
  rotate_left
  · simp only [Act.put, pkA, pkB, pkC, i64_w, i32_w]
    rfl
  refine pure_ (i := 6) (N := some 21) (v := ?_) (a' := ?_) #[tt,tt,tt,tt,tt,tt,tt,ff,ff] rfl rfl (by kernel_rfl) (fun _ _ _ h => h) (Or.inl ⟨by rfl, ?_⟩) ?_ ?_
  rotate_left
  · intro w'
    go_simp
    with_reducible rfl
  rotate_left
  · simp only [Act.put, pkA, pkB, pkC, i64_w, i32_w]
    rfl
  refine pure_ (i := 7) (N := some 22) (v := ?_) (a' := ?_) #[tt,tt,tt,tt,tt,tt,tt,tt,ff] rfl rfl (by kernel_rfl) (fun _ _ _ h => h) (Or.inl ⟨by rfl, ?_⟩) ?_ ?_
  rotate_left
  · intro w'
    go_simp
    with_reducible rfl
  rotate_left
  · simp only [Act.put, pkA, pkB, pkC, i64_w, i32_w]
    rfl
  refine pure_ (i := 8) (N := some 8) (v := ?_) (a' := ?_) #[tt,tt,tt,tt,tt,tt,tt,tt,tt] rfl rfl (by kernel_rfl) (fun _ _ _ h => h) (Or.inl ⟨by rfl, ?_⟩) ?_ ?_
  rotate_left
  · intro w'
    go_simp
    with_reducible rfl
  rotate_left
  · simp only [Act.put, pkA, pkB, pkC, i64_w, i32_w]
    rfl
  refine done_ (by kernel_rfl) ?_
  have HCW2 := Aside0.mk HCW.out.drew
  clear HCW cf cn n0
  generalize W3.drew = W4 at HCW2 ⊢
  have q4 := (HCW2.out.bel.cell (p := ⟨p, 4, none⟩) (World.block_lt_of_cell? w _ HQ.out)).trans HQ.out
  go_wp2
  refine start_ (n := 13) (S := fun w' => w'.cell? ⟨p, 4, none⟩ = some (.int .i64 D.quota)) (ds := []) #[ff,ff,ff,ff,ff,ff,ff,ff,ff,ff,ff,ff,ff] (by kernel_rfl) rfl rfl (q4) (fun hHeld => ?_)
  generalize hgw : W4.drew = w6 at hHeld ⊢
  have HCW4 := Aside0.mk (by rw [← hgw]; exact HCW2.out.drew : CW B w x.1 c (.slice Ab c.b.length cpb) (c.go f.now) ga (.slice Av (c.go f.now).length cpv) w6)
  clear hgw
  refine pure_ (i := 0) (N := some 23) (v := ?_) (a' := ?_) #[tt,ff,ff,ff,ff,ff,ff,ff,ff,ff,ff,ff,ff] rfl rfl (by kernel_rfl) (fun _ _ _ h => h) (Or.inl ⟨by rfl, ?_⟩) ?_ ?_
  rotate_left
  · intro w'
    go_simp
    with_reducible rfl
  rotate_left
  · simp only [Act.put, pkA, pkB, pkC, i64_w, i32_w]
    rfl
  refine pure_ (i := 1) (N := some 24) (v := ?_) (a' := ?_) #[tt,tt,ff,ff,ff,ff,ff,ff,ff,ff,ff,ff,ff] rfl rfl (by kernel_rfl) (fun _ _ _ h => h) (Or.inl ⟨by rfl, ?_⟩) ?_ ?_
  rotate_left
  · intro w'
    go_simp
    with_reducible rfl
  rotate_left
  · simp only [Act.put, pkA, pkB, pkC, i64_w, i32_w]
    rfl
  refine pure_ (i := 2) (N := some 25) (v := ?_) (a' := ?_) #[tt,tt,tt,ff,ff,ff,ff,ff,ff,ff,ff,ff,ff] rfl rfl (by kernel_rfl) (fun _ _ _ h => h) (Or.inl ⟨by rfl, ?_⟩) ?_ ?_
  rotate_left
  · intro w'
    go_simp
    with_reducible rfl
  rotate_left
  · simp only [Act.put, pkA, pkB, pkC, i64_w, i32_w]
    rfl
  refine pure_ (i := 3) (N := some 26) (v := undef) (a' := ?_) #[tt,tt,tt,tt,ff,ff,ff,ff,ff,ff,ff,ff,ff] rfl rfl (by kernel_rfl) (fun _ _ _ h => h) (Or.inr ⟨by rfl, rfl⟩) ?_ ?_
  rotate_left
  · simp only [Act.put, pkA, pkB, pkC, i64_w, i32_w]
    rfl
  refine pure_ (i := 4) (N := some 27) (v := undef) (a' := ?_) #[tt,tt,tt,tt,tt,ff,ff,ff,ff,ff,ff,ff,ff] rfl rfl (by kernel_rfl) (fun _ _ _ h => h) (Or.inr ⟨by rfl, rfl⟩) ?_ ?_
  rotate_left
  · simp only [Act.put, pkA, pkB, pkC, i64_w, i32_w]
    rfl
  refine pure_ (i := 5) (N := some 28) (v := undef) (a' := ?_) #[tt,tt,tt,tt,tt,tt,ff,ff,ff,ff,ff,ff,ff] rfl rfl (by kernel_rfl) (fun _ _ _ h => h) (Or.inr ⟨by rfl, rfl⟩) ?_ ?_
  rotate_left
  · simp only [Act.put, pkA, pkB, pkC, i64_w, i32_w]
    rfl
  refine pure_ (i := 6) (N := some 29) (v := undef) (a' := ?_) #[tt,tt,tt,tt,tt,tt,tt,ff,ff,ff,ff,ff,ff] rfl rfl (by kernel_rfl) (fun _ _ _ h => h) (Or.inr ⟨by rfl, rfl⟩) ?_ ?_
  rotate_left
  · simp only [Act.put, pkA, pkB, pkC, i64_w, i32_w]
    rfl
  refine pure_ (i := 7) (N := some 30) (v := undef) (a' := ?_) #[tt,tt,tt,tt,tt,tt,tt,tt,ff,ff,ff,ff,ff] rfl rfl (by kernel_rfl) (fun _ _ _ h => h) (Or.inr ⟨by rfl, rfl⟩) ?_ ?_
  rotate_left
  · simp only [Act.put, pkA, pkB, pkC, i64_w, i32_w]
    rfl
  refine pure_ (i := 8) (N := some 31) (v := undef) (a' := ?_) #[tt,tt,tt,tt,tt,tt,tt,tt,tt,ff,ff,ff,ff] rfl rfl (by kernel_rfl) (fun _ _ _ h => h) (Or.inr ⟨by rfl, rfl⟩) ?_ ?_
  rotate_left
  · simp only [Act.put, pkA, pkB, pkC, i64_w, i32_w]
    rfl
  refine pure_ (i := 9) (N := some 32) (v := undef) (a' := ?_) #[tt,tt,tt,tt,tt,tt,tt,tt,tt,tt,ff,ff,ff] rfl rfl (by kernel_rfl) (fun _ _ _ h => h) (Or.inr ⟨by rfl, rfl⟩) ?_ ?_
  rotate_left
  · simp only [Act.put, pkA, pkB, pkC, i64_w, i32_w]
    rfl
  refine pure_ (i := 10) (N := some 33) (v := undef) (a' := ?_) #[tt,tt,tt,tt,tt,tt,tt,tt,tt,tt,tt,ff,ff] rfl rfl (by kernel_rfl) (fun _ _ _ h => h) (Or.inr ⟨by rfl, rfl⟩) ?_ ?_
  rotate_left
  · simp only [Act.put, pkA, pkB, pkC, i64_w, i32_w]
    rfl
  refine pure_ (i := 11) (N := some 34) (v := undef) (a' := ?_) #[tt,tt,tt,tt,tt,tt,tt,tt,tt,tt,tt,tt,ff] rfl rfl (by kernel_rfl) (fun _ _ _ h => h) (Or.inr ⟨by rfl, rfl⟩) ?_ ?_
  rotate_left
  · simp only [Act.put, pkA, pkB, pkC, i64_w, i32_w]
    rfl
  refine pure_ (i := 12) (N := some 35) (v := ?_) (a' := ?_) #[tt,tt,tt,tt,tt,tt,tt,tt,tt,tt,tt,tt,tt] rfl rfl (by kernel_rfl) (fun _ _ _ h => h) (Or.inl ⟨by rfl, ?_⟩) ?_ ?_
  rotate_left
  · intro w'
    go_simp
    with_reducible rfl
  rotate_left
  · simp only [Act.put, pkA, pkB, pkC, i64_w, i32_w]
    rfl
  refine done_ (by kernel_rfl) ?_
  go_wp2_with fail
  have HL6 := Aside0.mk (HLI.out.below HCW4.out.bel)
  have HE6 := Aside0.mk (HER.out.turn (Turn.of_below HCW4.out.bel))
  have HBV6 := Aside0.mk (HBV.out.turn (Turn.of_below HCW4.out.bel))
  by_cases h0 : D.armed = 0
  · have H0 := Aside0.mk h0
    have HC := Aside0.mk (step_off B p D L m1 m2 fv ov E (.func (Fn.func 129) #[] #[.pointer (some ⟨ga, 0, none⟩), .pointer (some ⟨w.heap.size, 0, none⟩), .pointer (some ⟨w.heap.size + 1, 0, none⟩)]) w6 HL6.out HE6.out h0)
    clear h0
    go_wp2_with (go_at_call 92; refine HC.out.mono ?_; rintro e w7 ⟨rfl, hl, hb, ht⟩; have HL7 := Aside0.mk hl; have HT7 := Aside0.mk ht; clear hl hb ht; rw [errV_some])
    go_ret
    exact ⟨by rw [HRS.out, if_pos H0.out]; rfl, by rw [HRS.out, if_pos H0.out]; exact ⟨_, _, _, _, _, HL7.out⟩, (Turn.of_below HCW4.out.bel).trans HT7.out⟩
  · have H0 := Aside0.mk h0
    have HC := Aside0.mk (step_changed B p D L m1 m2 fv ov ga w.heap.size (w.heap.size + 1) (fun w' => (∃ rv, Lies B w' p (setF (stepD D) i ⟨c.go f.now, f.sure, f.opn ++ [c]⟩) (L.set i (x.1, rv)) m1 m2 fv ov) ∧ Turn B w6 w') w6 HL6.out h0 HAR.out.1 HAR.out.2.1 HAR.out.2.2.1 HAR.out.2.2.2
      (fun w1 hl hb ht => cg_after HLI.out HXX.out HFX.out HKf.out HST.out HCW4.out HBV6.out hl hb ht))
    clear h0
    go_wp2_with (go_at_call 92; refine HC.out.mono ?_; rintro e w7 ⟨rfl, ⟨rv, hl⟩, ht⟩; have HL7 := Aside0.mk hl; have HT7 := Aside0.mk ht; clear hl ht)
    go_ret
    exact ⟨by rw [HRS.out, if_neg H0.out]; rfl, by rw [HRS.out, if_neg H0.out]; exact ⟨_, _, _, _, _, HL7.out⟩, (Turn.of_below HCW4.out.bel).trans HT7.out⟩
theorem changed_calls (B : Bx) (p : Nat) (D : Dsk) (L : List (Nat × Value)) (m1 m2 : Nat) (fv ov : Value) (i : Nat) (x : Nat × Value) (f : Fil) (c : Chg) (bv : Value) (E : Int → Addr) (w : World) (h : Lies B w p D L m1 m2 fv ov) (hE : ErrAt B w E) (hx : L[i]? = some x) (hf : D.files[i]? = some f)
    (hbv : BytesAt B w bv c.b) (hk : D.Ok) (hs : D.steps ≤ 1000000000) (hp : c.pos ≤ f.now.length) (hl2 : c.pos + c.b.length ≤ 1080000000) :
    Calls Tryz.prog 94 #[.pointer (some ⟨p, 0, none⟩), .pointer (some ⟨x.1, 0, none⟩), .agg #[.int .i64 (c.pos : Int), bv, .bool c.cut]] w fun en w' => en = .returned (errV E (changedD D i f c).1) ∧ DiskAt B w' p (changedD D i f c).2 ∧ Turn B w w' := by
  by_cases hno : noRoom D f c
  · exact changed_full B p D L m1 m2 fv ov i x f c bv E w h hE hx hf hbv hk hs hp hl2 hno
  · by_cases hgr : f.now.length < (c.go f.now).length
    · exact changed_fits B p D L m1 m2 fv ov i x f c bv E w h hE hx hf hbv hk hs hp hl2 hno hgr
    · exact changed_less B p D L m1 m2 fv ov i x f c bv E w h hE hx hf hbv hk hs hp hl2 hgr
end Go.Proofs.YtpcfnkmljchiiaaGreatDoor.DCh2
