/- Steps towards RBoth: OCom. -/
import Derived.Test.YtpcfnkmljchiiaaGreatDoorZ33
import Derived.Test.YtpcfnkmljchiiaaGreatDoorZ34
import Derived.Test.YtpcfnkmljchiiaaGreatDoorZ25
set_option linter.unusedVariables false
set_option linter.unusedSimpArgs false
/- Log.Commit. -/
namespace Go.Proofs.YtpcfnkmljchiiaaGreatDoor.OCom
open DRt DNam Go Go.RowKit Go.Maps Go.WideMaps Go.Proofs.YtpcfnkmljchiiaaGreatDoorW.PrintWords Go.Proofs.YtpcfnkmljchiiaaGreatDoorW.PrintLast Go.Proofs.YtpcfnkmljchiiaaGreatDoorW.PrintMore DBase DPl DAt DNw Go.Proofs.YtpcfnkmljchiiaaGreatDoor.Is DFil DUsd DOps DSyn DSd DDo DAk Go.Proofs.YtpcfnkmljchiiaaGreatDoor.OPl Go.Proofs.YtpcfnkmljchiiaaGreatDoor.OSz Go.Proofs.YtpcfnkmljchiiaaGreatDoor.OAll Go.Proofs.YtpcfnkmljchiiaaGreatDoor.OStp Go.Proofs.YtpcfnkmljchiiaaGreatDoor.OClo Go.Proofs.YtpcfnkmljchiiaaGreatDoor.OFmt Go.Proofs.YtpcfnkmljchiiaaGreatDoor.OChk Go.Proofs.YtpcfnkmljchiiaaGreatDoor.OEnc Go.Proofs.YtpcfnkmljchiiaaGreatDoor.OByt Go.Proofs.YtpcfnkmljchiiaaGreatDoor.ONeed Go.Proofs.YtpcfnkmljchiiaaGreatDoor.OList
/-- The record that a change lays. -/
def recL (L : List Rop) : List Int := Lib04.recS (encL L)
/-- A change's steps. -/
def stepsL (L : List Rop) (D : Dsk) : Option Int × Dsk := runs [fun D => appendD D kRedo (recL L), fun D => syncD D kRedo, allL L, emptyL] D
/-- What Commit answers; is the log dead; the disk. -/
def commitL (dead : Bool) (D : Dsk) (L : List Rop) : Option Int × Bool × Dsk :=
  if dead = true then (some 9, true, D) else
  if checkL L ≠ none then (checkL L, false, D) else
  if D.off = true then (some 8, true, D) else
  if (needL D L).sizes = false then (some 1, false, D) else
  if 64 < ((keepN D.now).length : Int) + 1 + (needL D L).most then (some 11, false, D) else
  if D.quota - (usedD D : Int) < (needL D L).room then (some 7, false, D) else
  ((stepsL L D).1, (stepsL L D).1.isSome, (stepsL L D).2)
variable {B : Bx} {p l : Nat} {dead : Bool} {D : Dsk} {E : Int → Addr} {w W V : World} {A : Option Addr} {c : Nat} {L : List Rop}
set_option maxRecDepth 100000 in
set_option maxHeartbeats 4000000 in
theorem commit1_calls (bx br : Nat) (Ar : Option Addr) (cr : Nat) (r : List Int) (hx : w.heap[bx]? = some (.cells #[.pointer (some ⟨l, 0, none⟩)] 69 (0, 0))) (hb : w.heap[br]? = some (.cells #[.slice Ar r.length cr] 32 (0, 0))) (hl : LogAt w l p dead) (h : DiskAt B w p D) (hE : ErrAt B w E) (hk : D.Ok) (hst : D.steps ≤ 900000000) (hC : ∀ V, Turn B w V → Kd.C kb V Ar r.length r) (hc : r.length ≤ cr) (hrl : r.length ≤ 1000000) :
    Calls Tryz.prog 85 #[.pointer (some ⟨bx, 0, none⟩), .pointer (some ⟨br, 0, none⟩)] w fun e V => e = .returned (errV E (appendD D kRedo r).1) ∧ DiskAt B V p (appendD D kRedo r).2 ∧ Turn B w V := by
  have HT := Aside0.mk (Turn.of_below (B := B) (Below.refl w.heap.size w).drew)
  have HL := Aside0.mk hl
  have HX := Aside0.mk hx
  have HB := Aside0.mk hb
  have HC := Aside0.mk (append_calls B p D E w.drew (h := h.below (Below.refl _ _).drew) (hE := hE.turn HT.out) (hk := hk) (hst := by omega) (s := kRedo) (hs := by decide) (A0 := Ar) (c0 := cr) (b := r) (hC := hC _ HT.out) (hc0 := hc) (hbl := hrl))
  clear h hE hk hl hx hb hC hc
  go_enter Tryz.func85, Tryz.ntmps85
  go_upto_region 1 with (fail)
  refine start_ (n := 7) (S := fun w' => w'.cell? ⟨bx, 0, none⟩ = some (.pointer (some ⟨l, 0, none⟩)) ∧ w'.cell? ⟨l, 0, none⟩ = some (.pointer (some ⟨p, 0, none⟩)) ∧ w'.cell? ⟨br, 0, none⟩ = some (.slice Ar r.length cr)) (ds := [5]) #[ff,ff,ff,ff,ff,ff,ff] (by kernel_rfl) rfl rfl ⟨((blk_cell HX.out 0).trans rfl), (HL.out.disk), ((blk_cell HB.out 0).trans rfl)⟩ (fun hHeld => ?_)
  generalize w.drew = w1 at HC HT hHeld ⊢
  refine take_ (i := 0) (N := some 3) (v := ?_) (a' := ?_) #[tt,ff,ff,ff,ff,ff,ff] rfl rfl (by kernel_rfl) (fun _ _ _ h => h) (Or.inl ⟨by rfl, ?_⟩) hHeld ?_ ?_
  rotate_left
  · rintro w' ⟨s0, s1, s2⟩
    go_simp
    with_reducible rfl
  rotate_left
  · simp only [Act.put, pkA, pkB, pkC, i64_w, i32_w]
    rfl
  refine pure_ (i := 1) (N := some 4) (v := ?_) (a' := ?_) #[tt,tt,ff,ff,ff,ff,ff] rfl rfl (by kernel_rfl) (fun _ _ _ h => h) (Or.inl ⟨by rfl, ?_⟩) ?_ ?_
  rotate_left
  · intro w'
    go_simp
    with_reducible rfl
  rotate_left
  · simp only [Act.put, pkA, pkB, pkC, i64_w, i32_w]
    rfl
  refine pure_ (i := 2) (N := some 5) (v := ?_) (a' := ?_) #[tt,tt,tt,ff,ff,ff,ff] rfl rfl (by kernel_rfl) (fun _ _ _ h => h) (Or.inl ⟨by rfl, ?_⟩) ?_ ?_
  rotate_left
  · intro w'
    go_simp
    with_reducible rfl
  rotate_left
  · simp only [Act.put, pkA, pkB, pkC, i64_w, i32_w]
    rfl
  refine take_ (i := 3) (N := some 6) (v := ?_) (a' := ?_) #[tt,tt,tt,tt,ff,ff,ff] rfl rfl (by kernel_rfl) (fun _ _ _ h => h) (Or.inl ⟨by rfl, ?_⟩) hHeld ?_ ?_
  rotate_left
  · rintro w' ⟨s0, s1, s2⟩
    go_simp
    with_reducible rfl
  rotate_left
  · simp only [Act.put, pkA, pkB, pkC, i64_w, i32_w]
    rfl
  refine take_ (i := 4) (N := some 7) (v := ?_) (a' := ?_) #[tt,tt,tt,tt,tt,ff,ff] rfl rfl (by kernel_rfl) (fun _ _ _ h => h) (Or.inl ⟨by rfl, ?_⟩) hHeld ?_ ?_
  rotate_left
  · rintro w' ⟨s0, s1, s2⟩
    go_simp
    with_reducible rfl
  rotate_left
  · simp only [Act.put, pkA, pkB, pkC, i64_w, i32_w]
    rfl
  refine last_ (i := 5) (N := some 8) #[tt,tt,tt,tt,tt,tt,ff] rfl rfl (by kernel_rfl) (by decide) (fun K hK => ?_)
  refine goes_ Tryz.func36 (by kernel_rfl) rfl #[.pointer (some ⟨p, 0, none⟩), .string kRedo, .slice Ar r.length cr] (by rfl) rfl rfl (by simp only [List.map_toArray, List.map_cons, List.map_nil]; rfl) ?_
  with_reducible refine (HC.out).mono ?_
  rintro e w2 ⟨rfl, hd, ht⟩
  refine ⟨_, rfl, ?_⟩
  have HR := Aside0.mk (And.intro hd (HT.out.trans ht))
  clear hd ht
  refine hK.out _ _ ?_
  clear hK K
  refine norm_ (a' := ?_) ?_ ?_
  rotate_left
  · show Act.put _ (some 8) _ = _
    simp only [Act.put, pkA, pkB, pkC, i64_w, i32_w]
    rfl
  refine pure_ (i := 6) (N := some 2) (v := ?_) (a' := ?_) #[tt,tt,tt,tt,tt,tt,tt] rfl rfl (by kernel_rfl) (fun _ _ _ h => h) (Or.inl ⟨by rfl, ?_⟩) ?_ ?_
  rotate_left
  · intro w'
    go_simp
    with_reducible rfl
  rotate_left
  · simp only [Act.put, pkA, pkB, pkC, i64_w, i32_w]
    rfl
  refine done_ (by kernel_rfl) ?_
  go_wp2
  go_ret
  exact ⟨rfl, HR.out⟩
theorem commit_steps (bx br bo gb : Nat) (Ar : Option Addr) (cr : Nat) (r : List Int) (hx : W.heap[bx]? = some (.cells #[.pointer (some ⟨l, 0, none⟩)] 69 (0, 0))) (hb : W.heap[br]? = some (.cells #[.slice Ar r.length cr] 32 (0, 0))) (ho : W.heap[bo]? = some (.cells #[.slice A L.length c] 54 (0, 0)))
    (hf : W.heap[gb]? = some (.cells #[.func (Fn.func 85) #[] #[.pointer (some ⟨bx, 0, none⟩), .pointer (some ⟨br, 0, none⟩)], .func (Fn.func 86) #[] #[.pointer (some ⟨bx, 0, none⟩)], .func (Fn.func 87) #[] #[.pointer (some ⟨bx, 0, none⟩), .pointer (some ⟨bo, 0, none⟩)], .func (Fn.func 89) #[.pointer (some ⟨l, 0, none⟩)] #[]] 81 (0, 0)))
    (hl : LogAt W l p dead) (h : DiskAt B W p D) (hE : ErrAt B W E) (hk : D.Ok) (hst : D.steps ≤ 100000000) (hC : ∀ V, Turn B W V → Kd.C kb V Ar r.length r) (hcr : r.length ≤ cr) (hrl : r.length ≤ 1000000) (hO : OpsAt B W A L) (hF : OpsFew L) (hc : L.length ≤ c) :
    Calls Tryz.prog 80 #[.slice (some ⟨gb, 0, none⟩) 4 4] W fun e w' => e = .returned (errV E (runs [fun D => appendD D kRedo r, fun D => syncD D kRedo, allL L, emptyL] D).1) ∧ DiskAt B w' p (runs [fun D => appendD D kRedo r, fun D => syncD D kRedo, allL L, emptyL] D).2 ∧ Turn B W w' :=
  steps_com (B := B) (p := p) (D := D) (E := E) (w := W) gb l bx br bo (fun D => appendD D kRedo r) (fun D => syncD D kRedo) (allL L) emptyL hf h hE hk (by omega)
    (fun U D1 ht he hd hk1 hs1 => commit1_calls bx br Ar cr r (ht.kind _ _ hx rfl) (ht.kind _ _ hb rfl) (hl.turn ht) hd he hk1 (by omega) (fun V hV => hC V (ht.trans hV)) hcr hrl) (fun D1 hk1 => (Kq.of (kp_append hk1 _ _)).up (by omega))
    (fun U D1 ht he hd hk1 hs1 => commit2_calls bx ((blk_cell (ht.kind _ _ hx rfl) 0).trans rfl) (hl.turn ht) hd he hk1 (by omega)) (fun D1 hk1 => (Kq.of (kp_sync hk1 _)).up (by omega))
    (fun U D1 ht he hd hk1 hs1 => commit3_calls bx bo A c L ((blk_cell (ht.kind _ _ hx rfl) 0).trans rfl) ((blk_cell (ht.kind _ _ ho rfl) 0).trans rfl) (hl.turn ht) hd he hk1 (by omega) (hO.turn ht) hF hc) (fun D1 hk1 => (kq_all L D1 hk1).up (by have := hF.1; omega))
    (fun U D1 ht he hd hk1 hs1 => empty_calls (hl.turn ht) hd he hk1 (by omega)) (fun D1 hk1 => (kq_empty hk1).up (by omega))
/-- What the walk of Commit knows. -/
structure CmW (B : Bx) (w : World) (p l : Nat) (dead : Bool) (E : Int → Addr) (D : Dsk) (A : Option Addr) (c : Nat) (L : List Rop) (W : World) : Prop where
  turn : Turn B w W
  errs : AllAt B W E
  disk : DiskAt B W p D
  log : LogAt W l p dead
  x : W.heap[w.heap.size]? = some (.cells #[.pointer (some ⟨l, 0, none⟩)] 69 (0, 0))
  o : W.heap[w.heap.size + 1]? = some (.cells #[.slice A L.length c] 54 (0, 0))
theorem CmW.below (h : CmW B w p l dead E D A c L W) (hb : Below W.heap.size W V) : CmW B w p l dead E D A c L V :=
  ⟨h.turn.trans (Turn.of_below hb), h.errs.turn (Turn.of_below hb), h.disk.below hb, h.log.below hb, (hb.block _ (blk_lt h.x)).trans h.x, (hb.block _ (blk_lt h.o)).trans h.o⟩
theorem CmW.xc (h : CmW B w p l dead E D A c L W) : W.cell? ⟨w.heap.size, 0, none⟩ = some (.pointer (some ⟨l, 0, none⟩)) := (blk_cell h.x 0).trans rfl
theorem CmW.oc (h : CmW B w p l dead E D A c L W) : W.cell? ⟨w.heap.size + 1, 0, none⟩ = some (.slice A L.length c) := (blk_cell h.o 0).trans rfl
/-- A change's operations as Commit is given them. -/
structure OpsIn (B : Bx) (w : World) (A : Option Addr) (c : Nat) (L : List Rop) : Prop where
  at_ : OpsAt B w A L
  rd : ∀ V, Turn B w V → Kd.C GSix.k62 V A L.length L
  cap : L.length ≤ c
  len : L.length ≤ 1000000
  each : ∀ o ∈ L, o.f1.size < 9223372036854775807 ∧ o.f3.length < 9223372036854775807
  bytes : ∀ o ∈ L, Lib04.isB o.f3
theorem isB_bI (s : ByteArray) : Lib04.isB (bI s) := fun x hx => by
  unfold bI at hx
  obtain ⟨c, _, rfl⟩ := List.mem_map.1 hx
  have := c.toNat_lt
  omega
theorem isB_mod (n : Int) : 0 ≤ n % 256 ∧ n % 256 ≤ 255 := by omega
theorem isB_four (n : Int) : Lib04.isB (four4 n) := Lib04.four_B n
theorem isB_encOp {o : Rop} (h : Lib04.isB o.f3) : Lib04.isB (encOp o) := by
  unfold encOp
  refine Lib04.isB_append (Lib04.isB_append (Lib04.isB_append (Lib04.isB_append ?_ (isB_bI _)) (isB_four _)) (isB_four _)) h
  intro x hx
  simp only [List.mem_cons, List.not_mem_nil, or_false] at hx
  rcases hx with rfl | rfl
  · exact isB_mod _
  · exact isB_mod _
theorem isB_encAll : ∀ (l : List Rop), (∀ o ∈ l, Lib04.isB o.f3) → Lib04.isB (encAll l)
  | [], _ => fun x hx => by cases hx
  | o :: r, h => Lib04.isB_append (isB_encOp (h o (List.mem_cons_self ..))) (isB_encAll r (fun x hx => h x (List.mem_cons_of_mem _ hx)))
theorem isB_encL {l : List Rop} (h : ∀ o ∈ l, Lib04.isB o.f3) : Lib04.isB (encL l) := fun x hx => by
  unfold encL at hx
  rcases List.mem_cons.1 hx with rfl | hx
  · exact isB_mod _
  · exact isB_encAll l h x hx
theorem checkGo_len : ∀ (l : List Rop) (seen : List ByteArray) (sz : Int), checkGo l seen sz = none → sz + ((encAll l).length : Int) ≤ 400000
  | [], seen, sz, h => by
    unfold checkGo at h
    split at h
    · cases h
    · simp only [encAll, List.length_nil]; omega
  | o :: r, seen, sz, h => by
    unfold checkGo at h
    split at h
    · cases h
    · split at h
      · cases h
      · have := checkGo_len r _ _ h
        rw [encAll, List.length_append, encOp_len]
        omega
theorem check_len {L : List Rop} (h : checkL L = none) : (encL L).length ≤ 400000 := by
  unfold checkL at h
  split at h
  · cases h
  · have := checkGo_len _ _ _ h
    rw [encL, List.length_cons]
    omega
theorem used_at3 {w : World} (h : DiskAt B w p D) (hk : D.Ok) (hs : D.steps ≤ 900000000) : Calls Tryz.prog 52 #[.pointer (some ⟨p, 0, none⟩)] w fun e w' => e = .returned (.int .i64 (usedD D : Nat)) ∧ Below w.heap.size w w' := by
  obtain ⟨L, m1, m2, fv, ov, hl⟩ := h
  exact used_calls p D w hl hk (by omega)
theorem gState9 : gOf 9 = 8 := by decide
theorem gPower8 : gOf 8 = 7 := by decide
theorem gRange1 : gOf 1 = 0 := by decide
theorem gFull11 : gOf 11 = 10 := by decide
theorem gQuota7 : gOf 7 = 6 := by decide
theorem CmW.lo (h : CmW B w p l dead E D A c L W) : B.n ≤ W.heap.size := by
  obtain ⟨_, _, _, _, _, hl⟩ := h.disk
  have := hl.lop
  have := blk_lt hl.obj
  omega
theorem errAt (h : AllAt B W E) (c : Int) (hc : All c) : W.cell? ⟨gOf c, 0, none⟩ = some (.iface 212 (.pointer (some (E c)))) := h.errs.var c hc
theorem used_le2 (hk : D.Ok) (hst : D.steps ≤ 900000000) : (usedD D : Int) ≤ 2000000000000000000 := by
  have h1 := hk.nowF
  have h2 := gone_le (szOf D.files) 1073741824 (szOf_le hk) (fun _ => false) D.now
  rw [gone_end (szOf D.files) D.now _ (fun _ => rfl)] at h2
  have h3 := now_len hk
  have h4 : usedD D = (D.now.map fun p => szOf D.files p.2).sum := rfl
  have h5 : D.now.length * 1073741824 ≤ 1000000000 * 1073741824 := Nat.mul_le_mul_right _ (by omega)
  omega
theorem row_C2 {α : Type} {d : Kd α} {t n base c : Nat} {ok : Nat → Prop} {w : World} {A : Option Addr} {l : List α} (h : d.R t w base ok (.slice A n c) l) (hn : n = l.length) : n ≤ c ∧ Kd.C d w A n l := by
  obtain ⟨A2, c2, e, hc, hC⟩ := Kd.R_reads h
  simp only [Value.slice.injEq] at e
  obtain ⟨rfl, rfl, rfl⟩ := e
  exact ⟨hc, hC⟩
theorem record_calls (b : List Int) (A : Option Addr) (c : Nat) (w : World) (hr : Kd.C (Kd.int .u8) w A b.length b) (hc : b.length ≤ c) (hB : Lib04.isB b) (hl : b.length ≤ 400000) :
    Calls Tryz.prog 84 #[.slice A b.length c] w fun e w' => ∃ v : Value, e = .returned (.tuple #[v, .nilIface]) ∧ Kd.R (Kd.int .u8) 5 w' w.heap.size (fun _ => True) v (Lib04.recS b) ∧ Below w.heap.size w w' :=
  GChk.check_Record.calls (b.length + 1) A c b (Lib04.recS b) none w hr hc (Lib04.crecord_f hB hl _ (Nat.lt_succ_self _))
/-- What an act of a log leaves as it was: all but the disk's blocks and the log's own. -/
structure TurnL (B l : Nat) (w w' : World) : Prop where
  os : w'.os = w.os
  tape : w'.tape = w.tape
  output : w'.output = w.output
  size : w.heap.size ≤ w'.heap.size
  low : ∀ k, k < B → k < w.heap.size → w'.heap[k]? = w.heap[k]?
  kind : ∀ (k : Nat) (o : Obj), k ≠ l → w.heap[k]? = some o → dk o = false → w'.heap[k]? = some o
theorem TurnL.of {B l : Nat} (h : Turn B w V) : TurnL B l w V := ⟨h.os, h.tape, h.output, h.size, h.low, fun k o _ hk hd => h.kind k o hk hd⟩
theorem TurnL.trans {B l : Nat} {U : World} (h : TurnL B l w V) (k : TurnL B l V U) : TurnL B l w U :=
  ⟨k.os.trans h.os, k.tape.trans h.tape, k.output.trans h.output, Nat.le_trans h.size k.size, fun i hi hs => (k.low i hi (Nat.lt_of_lt_of_le hs h.size)).trans (h.low i hi hs), fun i o hn ho hd => k.kind i o hn (h.kind i o hn ho hd) hd⟩
theorem TurnL.set {B l : Nat} (h : TurnL B l w V) (hB : B ≤ l) (i : Nat) (u : Value) : TurnL B l w (V.setCell ⟨l, i, none⟩ u) := by
  have hk : ∀ k, k ≠ l → (V.setCell ⟨l, i, none⟩ u).heap[k]? = V.heap[k]? := fun k hk => Below.heap_setCell V ⟨l, i, none⟩ u k hk
  exact ⟨h.os, h.tape, h.output, by simpa [World.setCell] using h.size, fun k h1 h2 => (hk k (by omega)).trans (h.low k h1 h2), fun k o hn ho hd => (hk k hn).trans (h.kind k o hn ho hd)⟩
theorem TurnL.toBelow {B l : Nat} (h : TurnL B l w V) (hB : B ≤ w.heap.size) : Below B w V := ⟨h.os, h.tape, h.output, h.size, fun k hk => h.low k hk (by omega)⟩
theorem AllAt.turnL {B l : Nat} (h : AllAt B w E) (ht : TurnL B l w V) : AllAt B V E := by
  refine ⟨⟨fun c hc => ?_, fun c hc => ?_, h.errs.ne⟩, h.lo⟩
  · have hv := h.errs.var c hc
    have hl := World.block_lt_of_cell? w _ hv
    rw [World.cell?_of_block (w := w) (ht.low _ (h.lo c hc).1 hl)]
    exact hv
  · obtain ⟨cs, t, hr⟩ := h.errs.row c hc
    exact ⟨cs, t, (ht.low _ (h.lo c hc).2 (blk_lt hr)).trans hr⟩
theorem disk_dead {q : Nat} (h : DiskAt B w p D) (hl : LogAt w l q dead) (u : Value) : DiskAt B (w.setCell ⟨l, 1, none⟩ u) p D := by
  obtain ⟨L, m1, m2, fv, ov, h⟩ := h
  have hk := But.setCell w ⟨l, 1, none⟩ u
  have hn : ∀ qs : List Nat, 129 ∉ qs → Not w (some l) qs := fun qs hq => Not.cells (t := 129) (fun g hg => by obtain rfl := Option.some.inj hg; exact ⟨_, _, hl⟩) (fun q hq2 e => hq (e ▸ hq2))
  have np : some p ≠ some l := fun e => by
    obtain rfl := Option.some.inj e
    have := h.obj.symm.trans hl
    have := Option.some.inj this
    injection this with _ this _
    exact absurd this (by decide)
  have nm : ∀ {m : Nat} {N : Nms}, NamesAt w m N → some m ≠ some l := fun hm e => by
    obtain rfl := Option.some.inj e
    obtain ⟨es, cl, h1⟩ := hm.obj
    have := h1.symm.trans hl
    cases Option.some.inj this
  exact ⟨L, m1, m2, fv, ov, hk.obj h.obj np, h.lop, h.lo1, h.lo2, h.ne, h.now.same (hk.2 _ h.now.lt (nm h.now)), h.sure.same (hk.2 _ h.sure.lt (nm h.sure)), R_row h.ptrs hk (hn _ (by rw [kPtrE]; decide)), R_row h.opn hk (hn _ (by rw [kEntE]; decide)), h.files.row hk (hn _ (by decide)), Nat.lt_of_lt_of_le h.lt hk.1⟩
set_option maxRecDepth 100000 in
set_option maxHeartbeats 16000000 in
theorem commit_calls (hlg : LogAt w l p dead) (h : DiskAt B w p D) (hE : AllAt B w E) (hk : D.Ok) (hst : D.steps ≤ 100000000) (hri : Rising D.now) (hp : 0 < D.now.length) (hnl : D.now.length ≤ 1000000000) (hin : OpsIn B w A c L) (hlB : B.n ≤ l) :
    Calls Tryz.prog 28 #[.pointer (some ⟨l, 0, none⟩), .slice A L.length c] w fun e w' => e = .returned (errV E (commitL dead D L).1) ∧ LogAt w' l p (commitL dead D L).2.1 ∧ DiskAt B w' p (commitL dead D L).2.2 ∧ TurnL B l w w' := by
  obtain ⟨hb, h1, h2⟩ := alloc2 w (.cells #[.pointer (some ⟨l, 0, none⟩)] 69 (0, 0)) (.cells #[.slice A L.length c] 54 (0, 0))
  have HW := Aside0.mk (show CmW B w p l dead E D A c L _ from ⟨Turn.of_below hb, hE.turn (Turn.of_below hb), h.below hb, hlg.below hb, h1, h2⟩)
  obtain ⟨W0, hW0⟩ : ∃ W0, W0 = (w.alloc (.cells #[.pointer (some ⟨l, 0, none⟩)] 69 (0, 0))).alloc (.cells #[.slice A L.length c] 54 (0, 0)) := ⟨_, rfl⟩
  rw [← hW0] at HW
  have HIn := Aside0.mk hin
  have HK := Aside0.mk hk
  have HRi := Aside0.mk hri
  clear hb h1 h2 h hE hlg hin hk hri
  obtain ⟨R, hR⟩ : ∃ R, R = commitL dead D L := ⟨_, rfl⟩
  rw [← hR]
  have HRR := Aside0.mk hR
  clear hR
  go_enter Tryz.func28, Tryz.ntmps28
  go_upto_region 1 with (fail)
  rw [← hW0]
  clear hW0
  have x0 := HW.out.xc
  have o0 := HW.out.oc
  have l1 := HW.out.log.dead
  cases dead with
  | true =>
    have c9 := errAt HW.out.errs 9 (by simp [All])
    rw [gState9] at c9
    go_wp2
    go_ret
    rw [show R = (some 9, true, D) by rw [HRR.out]; rfl]
    exact ⟨rfl, HW.out.log, HW.out.disk, TurnL.of HW.out.turn⟩
  | false =>
    cases hck : checkL L with
    | some x =>
      have HCk := Aside0.mk hck
      go_wp2_with (go_at_call 18; refine (bytes_no L A c B.n E W0 x HW.out.errs HW.out.lo (HIn.out.rd _ HW.out.turn) HIn.out.cap (by have := HIn.out.len; omega) HIn.out.each HCk.out).mono ?_; rw [errV_some]; rintro e w1 ⟨rfl, hb⟩; have HW1 := Aside0.mk (HW.out.below hb); clear hb)
      go_ret
      rw [show R = (some x, false, D) by rw [HRR.out]; unfold commitL; rw [if_neg (by decide), if_pos (by rw [HCk.out]; simp), HCk.out]]
      exact ⟨rfl, HW1.out.log, HW1.out.disk, TurnL.of HW1.out.turn⟩
    | none =>
      have HCk := Aside0.mk hck
      have HCo := Aside0.mk (check_ok hck)
      clear hck
      go_upto_region 6 with (go_at_call 18; refine (bytes_ok L A c B.n E W0 HW.out.errs HW.out.lo (HIn.out.rd _ HW.out.turn) HIn.out.cap (by have := HIn.out.len; omega) HIn.out.each HCk.out).mono ?_; rintro e w1 ⟨v, rfl, hv, hb⟩; have HW1 := Aside0.mk (HW.out.below hb); have HV1 := Aside0.mk (Kd.R_lower (base' := B.n) hv HW.out.lo); clear hv hb x0 o0 l1)
      obtain ⟨Av, cv, rfl⟩ := Kd.R_slice HV1.out
      have x1 := HW1.out.xc
      have o1 := HW1.out.oc
      have p1 := HW1.out.log.disk
      by_cases ho : D.off = true
      · have HOf := Aside0.mk ho
        have f1 := blk_frozen HW1.out.log 1
        have l1b := HW1.out.log.dead
        have c8 := errAt HW1.out.errs 8 (by simp [All])
        rw [gPower8] at c8
        have c8b : (w1.setCell ⟨l, 1, none⟩ (.bool true)).cell? ⟨7, 0, none⟩ = some (.iface 212 (.pointer (some (E 8)))) := cell_far2 c8 (fun e => by have h9 := (HW1.out.errs.lo 8 (by simp [All])).1; rw [gPower8] at h9; have h10 : 7 = l := e; omega) _
        have HOff := Aside0.mk (off_calls B p D w1 HW1.out.disk)
        rw [ho] at HOff
        clear ho
        go_wp2_with (go_at_call 55; refine HOff.out.mono ?_; rintro e w2 ⟨rfl, rfl⟩)
        go_ret
        rw [show R = (some 8, true, D) by rw [HRR.out]; unfold commitL; rw [if_neg (by decide), if_neg (by rw [HCk.out]; simp), if_pos HOf.out]]
        exact ⟨rfl, blk_put HW1.out.log 1 (.bool true) rfl, disk_dead HW1.out.disk HW1.out.log _, (TurnL.of HW1.out.turn).set hlB 1 _⟩
      · have ho2 : D.off = false := by simpa using ho
        have HOf := Aside0.mk ho2
        have HOff := Aside0.mk (off_calls B p D w1 HW1.out.disk)
        rw [ho2] at HOff
        clear ho ho2
        obtain ⟨n, hn⟩ : ∃ n, n = needL D L := ⟨_, rfl⟩
        have HNd := Aside0.mk (fun (U : World) (hu : CmW B w p l false E D A c L U) => need_calls (B := B) (p := p) (l := l) (dead := false) (D := D) (E := E) (w := U) L A c hu.log hu.disk hu.errs.disk HK.out (by omega) (HIn.out.rd _ hu.turn) HIn.out.cap HCo.out.1 HCo.out.2.2)
        rw [← hn] at HNd
        have HN := Aside0.mk hn
        clear hn
        obtain ⟨rm, sz, ms, mr⟩ := n
        go_upto_region 10 with (first
          | (go_at_call 55; refine HOff.out.mono ?_; rintro e w2 ⟨rfl, rfl⟩)
          | (go_at_call 82; refine (HNd.out _ HW1.out).mono ?_; rintro e w3 ⟨rfl, hb, hbd⟩; have HW3 := Aside0.mk (HW1.out.below hb); have HV3 := Aside0.mk (Kd.R_below HV1.out hb); have HBd := Aside0.mk hbd; clear hb hbd x1 o1 p1))
        cases sz with
        | false =>
          have c1 := errAt HW3.out.errs 1 (by simp [All])
          rw [gRange1] at c1
          go_wp2
          go_ret
          rw [show R = (some 1, false, D) by rw [HRR.out]; unfold commitL; rw [if_neg (by decide), if_neg (by rw [HCk.out]; simp), if_neg (by rw [HOf.out]; decide), ← HN.out]; rfl]
          exact ⟨rfl, HW3.out.log, HW3.out.disk, TurnL.of HW3.out.turn⟩
        | true =>
          obtain ⟨kn, hkn⟩ : ∃ kn, kn = (keepN D.now).length := ⟨_, rfl⟩
          have hkl : kn ≤ 1000000000 := by rw [hkn]; exact Nat.le_trans (List.length_filter_le _ _) hnl
          have HLs := Aside0.mk (fun (U : World) (hu : CmW B w p l false E D A c L U) => llist_calls (B := B) (p := p) (l := l) (dead := false) (D := D) (E := E) (w := U) hu.log hu.disk hu.errs.disk HK.out (by omega) HOf.out HRi.out hnl hp)
          rw [← hkn] at HLs
          have HKn := Aside0.mk hkn
          have hms0 : 0 ≤ ms := HBd.out.2.2.1
          have hms1 : ms ≤ 16 := HBd.out.2.2.2
          have hrm0 : 0 ≤ rm := HBd.out.1
          have hrm1 : rm ≤ 40000000000 := HBd.out.2.1
          have x3 := HW3.out.xc
          clear hkn
          by_cases hfull : 64 < (kn : Int) + 1 + ms
          · have t6 : decide (64 < (kn : Int) + 1 + ms) = true := decide_eq_true hfull
            have HFu := Aside0.mk hfull
            clear hfull
            go_wp2_with (go_at_call 83; refine (HLs.out _ HW3.out).mono ?_; rintro e w4 ⟨A4, c4, rfl, hc4, hC4, hb⟩; have HW4 := Aside0.mk (HW3.out.below hb); have c11 := errAt (HW3.out.below hb).errs 11 (by simp [All]); rw [gFull11] at c11; clear hc4 hC4 hb x3)
            go_ret
            rw [show R = (some 11, false, D) by rw [HRR.out]; unfold commitL; rw [if_neg (by decide), if_neg (by rw [HCk.out]; simp), if_neg (by rw [HOf.out]; decide), ← HN.out, ← HKn.out, if_neg (by intro h; cases h)]; exact if_pos (by have := HFu.out; omega)]
            exact ⟨rfl, HW4.out.log, HW4.out.disk, TurnL.of HW4.out.turn⟩
          · have t6 : decide (64 < (kn : Int) + 1 + ms) = false := decide_eq_false hfull
            have HFu := Aside0.mk hfull
            clear hfull
            go_upto_region 14 with (go_at_call 83; refine (HLs.out _ HW3.out).mono ?_; rintro e w4 ⟨A4, c4, rfl, hc4, hC4, hb⟩; have HW4 := Aside0.mk (HW3.out.below hb); have HV4 := Aside0.mk (Kd.R_below HV3.out hb); clear hc4 hC4 hb x3)
            have hq0 := HK.out.quota0
            have hq1 := HK.out.quota1
            have hu1 := used_le2 HK.out (by omega)
            obtain ⟨us, hus⟩ : ∃ us, us = usedD D := ⟨_, rfl⟩
            have HUs := Aside0.mk (fun (U : World) (hu : CmW B w p l false E D A c L U) => used_at3 hu.disk HK.out (by omega))
            rw [← hus] at HUs hu1
            have HUe := Aside0.mk hus
            obtain ⟨qt, hqt⟩ : ∃ qt, qt = D.quota := ⟨_, rfl⟩
            have HQs := Aside0.mk (fun (U : World) (hu : CmW B w p l false E D A c L U) => quota_calls B p D U hu.disk)
            rw [← hqt] at HQs hq0 hq1
            have HQe := Aside0.mk hqt
            clear hus hqt
            refine start_ (n := 14) (S := fun w' => w'.cell? ⟨w.heap.size, 0, none⟩ = some (.pointer (some ⟨l, 0, none⟩)) ∧ w'.cell? ⟨l, 0, none⟩ = some (.pointer (some ⟨p, 0, none⟩))) (ds := []) #[ff,ff,ff,ff,ff,ff,ff,ff,ff,ff,ff,ff,ff,ff] (by kernel_rfl) rfl rfl ⟨(HW4.out.xc), (HW4.out.log.disk)⟩ (fun hHeld => ?_)
            have HW5 := Aside0.mk (HW4.out.below (Below.refl _ _).drew)
            have HV5 := Aside0.mk (Kd.R_below HV4.out (Below.refl _ _).drew)
            generalize w4.drew = w5 at HW5 HV5 hHeld ⊢
            refine pure_ (i := 0) (N := some 54) (v := ?_) (a' := ?_) #[tt,ff,ff,ff,ff,ff,ff,ff,ff,ff,ff,ff,ff,ff] rfl rfl (by kernel_rfl) (fun _ _ _ h => h) (Or.inl ⟨by rfl, ?_⟩) ?_ ?_
            rotate_left
            · intro w'
              go_simp
              with_reducible rfl
            rotate_left
            · simp only [Act.put, pkA, pkB, pkC, i64_w, i32_w]
              rfl
            refine take_ (i := 1) (N := some 55) (v := ?_) (a' := ?_) #[tt,tt,ff,ff,ff,ff,ff,ff,ff,ff,ff,ff,ff,ff] rfl rfl (by kernel_rfl) (fun _ _ _ h => h) (Or.inl ⟨by rfl, ?_⟩) hHeld ?_ ?_
            rotate_left
            · rintro w' ⟨s0, s1⟩
              go_simp
              with_reducible rfl
            rotate_left
            · simp only [Act.put, pkA, pkB, pkC, i64_w, i32_w]
              rfl
            refine pure_ (i := 2) (N := some 56) (v := ?_) (a' := ?_) #[tt,tt,tt,ff,ff,ff,ff,ff,ff,ff,ff,ff,ff,ff] rfl rfl (by kernel_rfl) (fun _ _ _ h => h) (Or.inl ⟨by rfl, ?_⟩) ?_ ?_
            rotate_left
            · intro w'
              go_simp
              with_reducible rfl
            rotate_left
            · simp only [Act.put, pkA, pkB, pkC, i64_w, i32_w]
              rfl
            refine pure_ (i := 3) (N := some 57) (v := ?_) (a' := ?_) #[tt,tt,tt,tt,ff,ff,ff,ff,ff,ff,ff,ff,ff,ff] rfl rfl (by kernel_rfl) (fun _ _ _ h => h) (Or.inl ⟨by rfl, ?_⟩) ?_ ?_
            rotate_left
            · intro w'
              go_simp
              with_reducible rfl
            rotate_left
            · simp only [Act.put, pkA, pkB, pkC, i64_w, i32_w]
              rfl
            refine take_ (i := 4) (N := some 58) (v := ?_) (a' := ?_) #[tt,tt,tt,tt,tt,ff,ff,ff,ff,ff,ff,ff,ff,ff] rfl rfl (by kernel_rfl) (fun _ _ _ h => h) (Or.inl ⟨by rfl, ?_⟩) hHeld ?_ ?_
            rotate_left
            · rintro w' ⟨s0, s1⟩
              go_simp
              with_reducible rfl
            rotate_left
            · simp only [Act.put, pkA, pkB, pkC, i64_w, i32_w]
              rfl
            refine take_ (i := 6) (N := some 60) (v := ?_) (a' := ?_) #[tt,tt,tt,tt,tt,ff,tt,ff,ff,ff,ff,ff,ff,ff] rfl rfl (by kernel_rfl) (fun _ _ _ h => h) (Or.inl ⟨by rfl, ?_⟩) hHeld ?_ ?_
            rotate_left
            · rintro w' ⟨s0, s1⟩
              go_simp
              with_reducible rfl
            rotate_left
            · simp only [Act.put, pkA, pkB, pkC, i64_w, i32_w]
              rfl
            refine pure_ (i := 7) (N := some 61) (v := ?_) (a' := ?_) #[tt,tt,tt,tt,tt,ff,tt,tt,ff,ff,ff,ff,ff,ff] rfl rfl (by kernel_rfl) (fun _ _ _ h => h) (Or.inl ⟨by rfl, ?_⟩) ?_ ?_
            rotate_left
            · intro w'
              go_simp
              with_reducible rfl
            rotate_left
            · simp only [Act.put, pkA, pkB, pkC, i64_w, i32_w]
              rfl
            refine pure_ (i := 8) (N := some 62) (v := ?_) (a' := ?_) #[tt,tt,tt,tt,tt,ff,tt,tt,tt,ff,ff,ff,ff,ff] rfl rfl (by kernel_rfl) (fun _ _ _ h => h) (Or.inl ⟨by rfl, ?_⟩) ?_ ?_
            rotate_left
            · intro w'
              go_simp
              with_reducible rfl
            rotate_left
            · simp only [Act.put, pkA, pkB, pkC, i64_w, i32_w]
              rfl
            refine take_ (i := 9) (N := some 63) (v := ?_) (a' := ?_) #[tt,tt,tt,tt,tt,ff,tt,tt,tt,tt,ff,ff,ff,ff] rfl rfl (by kernel_rfl) (fun _ _ _ h => h) (Or.inl ⟨by rfl, ?_⟩) hHeld ?_ ?_
            rotate_left
            · rintro w' ⟨s0, s1⟩
              go_simp
              with_reducible rfl
            rotate_left
            · simp only [Act.put, pkA, pkB, pkC, i64_w, i32_w]
              rfl
            refine one_ (i := 5) (N := some 59) #[tt,tt,tt,tt,tt,tt,tt,tt,tt,tt,ff,ff,ff,ff] rfl rfl (by kernel_rfl) (by decide) (fun K hK => ?_)
            refine goes_ Tryz.func54 (by kernel_rfl) rfl #[.pointer (some ⟨p, 0, none⟩)] (by rfl) rfl rfl (by simp only [List.map_toArray, List.map_cons, List.map_nil]; rfl) ?_
            with_reducible refine (HQs.out w5 HW5.out).mono ?_
            rintro e w6 ⟨rfl, rfl⟩
            refine ⟨_, rfl, ?_⟩
            refine hK.out _ _ ⟨(HW5.out.xc), (HW5.out.log.disk)⟩ (fun hHeld => ?_)
            clear hK K
            refine norm_ (a' := ?_) ?_ ?_
            rotate_left
            · show Act.put _ (some 59) _ = _
              simp only [Act.put, pkA, pkB, pkC, i64_w, i32_w]
              rfl
            refine one_ (i := 10) (N := some 64) #[tt,tt,tt,tt,tt,tt,tt,tt,tt,tt,tt,ff,ff,ff] rfl rfl (by kernel_rfl) (by decide) (fun K hK => ?_)
            refine goes_ Tryz.func52 (by kernel_rfl) rfl #[.pointer (some ⟨p, 0, none⟩)] (by rfl) rfl rfl (by simp only [List.map_toArray, List.map_cons, List.map_nil]; rfl) ?_
            with_reducible refine (HUs.out _ HW5.out).mono ?_
            rintro e w7 ⟨rfl, hb⟩
            refine ⟨_, rfl, ?_⟩
            have HW7 := Aside0.mk (HW5.out.below hb)
            have HV7 := Aside0.mk (Kd.R_below HV5.out hb)
            clear hb
            refine hK.out _ _ ⟨(HW7.out.xc), (HW7.out.log.disk)⟩ (fun hHeld => ?_)
            clear hK K
            refine norm_ (a' := ?_) ?_ ?_
            rotate_left
            · show Act.put _ (some 64) _ = _
              simp only [Act.put, pkA, pkB, pkC, i64_w, i32_w]
              rfl
            refine pure_ (i := 11) (N := some 65) (v := ?_) (a' := ?_) #[tt,tt,tt,tt,tt,tt,tt,tt,tt,tt,tt,tt,ff,ff] rfl rfl (by kernel_rfl) (fun _ _ _ h => h) (Or.inl ⟨by rfl, ?_⟩) ?_ ?_
            rotate_left
            · intro w'
              go_simp
              with_reducible rfl
            rotate_left
            · simp only [Act.put, pkA, pkB, pkC, i64_w, i32_w]
              rfl
            refine pure_ (i := 12) (N := some 66) (v := ?_) (a' := ?_) #[tt,tt,tt,tt,tt,tt,tt,tt,tt,tt,tt,tt,tt,ff] rfl rfl (by kernel_rfl) (fun _ _ _ h => h) (Or.inl ⟨by rfl, ?_⟩) ?_ ?_
            rotate_left
            · intro w'
              go_simp
              with_reducible rfl
            rotate_left
            · simp only [Act.put, pkA, pkB, pkC, i64_w, i32_w]
              rfl
            refine pure_ (i := 13) (N := some 53) (v := ?_) (a' := ?_) #[tt,tt,tt,tt,tt,tt,tt,tt,tt,tt,tt,tt,tt,tt] rfl rfl (by kernel_rfl) (fun _ _ _ h => h) (Or.inl ⟨by rfl, ?_⟩) ?_ ?_
            rotate_left
            · intro w'
              go_simp
              with_reducible rfl
            rotate_left
            · simp only [Act.put, pkA, pkB, pkC, i64_w, i32_w]
              rfl
            refine done_ (by kernel_rfl) ?_
            have x7 := HW7.out.xc
            have ew : wrap64 (qt - (us : Int)) = qt - (us : Int) := by unfold wrap64; omega
            by_cases hroom : qt - (us : Int) < rm
            · have t7 : decide (qt - (us : Int) < rm) = true := decide_eq_true hroom
              have HRo := Aside0.mk hroom
              have HEw := Aside0.mk ew
              clear hroom ew
              have c7 := errAt HW7.out.errs 7 (by simp [All])
              rw [gQuota7] at c7
              go_upto_region 15 with (fail)
              all_goals try (exfalso; have h9 := HRo.out; have h8 := HEw.out; omega)
              go_wp2
              go_ret
              rw [show R = (some 7, false, D) by rw [HRR.out]; unfold commitL; rw [if_neg (by decide), if_neg (by rw [HCk.out]; simp), if_neg (by rw [HOf.out]; decide), ← HN.out, ← HKn.out, ← HUe.out, ← HQe.out, if_neg (by intro h; cases h), if_neg (show ¬ 64 < (kn : Int) + 1 + ms by have := HFu.out; omega)]; exact if_pos (by have := HRo.out; omega)]
              exact ⟨rfl, HW7.out.log, HW7.out.disk, TurnL.of HW7.out.turn⟩
            · have t7 : decide (qt - (us : Int) < rm) = false := decide_eq_false hroom
              have HRo := Aside0.mk hroom
              have HEw := Aside0.mk ew
              clear hroom ew
              have HRe := Aside0.mk (show R = ((stepsL L D).1, (stepsL L D).1.isSome, (stepsL L D).2) by rw [HRR.out]; unfold commitL; rw [if_neg (by decide), if_neg (by rw [HCk.out]; simp), if_neg (by rw [HOf.out]; decide), ← HN.out, ← HKn.out, ← HUe.out, ← HQe.out, if_neg (by intro h; cases h), if_neg (show ¬ 64 < (kn : Int) + 1 + ms by have := HFu.out; omega)]; exact if_neg (show ¬ qt - (us : Int) < rm by have := HRo.out; omega))
              go_upto_region 16 with (fail)
              all_goals try (exfalso; have h9 := HRo.out; have h8 := HEw.out; omega)
              have HRl := Aside0.mk (show (recL L).length ≤ 1000000 by unfold recL; rw [Lib04.recS_len]; have := check_len HCk.out; omega)
              have HRc := Aside0.mk (record_calls (encL L) Av cv w7 (row_C2 HV7.out rfl).2 (row_C2 HV7.out rfl).1 (isB_encL HIn.out.bytes) (check_len HCk.out))
              go_upto_region 17 with (first
                | (go_at_call 84; refine HRc.out.mono ?_; rintro e w8 ⟨v8, rfl, hv8, hb⟩; have HW8 := Aside0.mk (HW7.out.below hb); obtain ⟨Ar, cr, rfl⟩ := Kd.R_slice hv8; have HV8 := Aside0.mk (show Kd.R (Kd.int .u8) 5 w8 w7.heap.size (fun _ => True) (.slice Ar (recL L).length cr) (recL L) from hv8); clear hb hv8 x7)
                | ((with_reducible refine gate_dst (N := 10) rfl ?_); refine box_event ?hg (N := 10) ?hd (cs := #[.slice none 0 0]) (t := 32) ?hr ?_; (case hd => rfl); (case hg => rfl); (case hr => first | (go_simp; done) | (go_simp; rfl)); intro gb hg w9 hbox hb; have HBk := Aside0.mk hbox; have HGb := Aside0.mk (show w8.heap.size ≤ gb by rw [hg]; exact Nat.le_refl _); have HB9 := Aside0.mk hb; clear hb hbox hg; have hcz0 : w9.cell? ⟨gb, 0, none⟩ = some (.slice none 0 0) := (blk_cell HBk.out 0).trans rfl; have hfz0 := blk_frozen HBk.out 0))
              have HB10 := Aside0.mk (show Below w8.heap.size w8 (w9.setCell ⟨gb, 0, none⟩ (.slice Ar (Lib04.recS (encL L)).length cr)) from HB9.out.setCell HGb.out _)
              have HK10 := Aside0.mk (show (w9.setCell ⟨gb, 0, none⟩ (.slice Ar (Lib04.recS (encL L)).length cr)).heap[gb]? = some (.cells #[.slice Ar (recL L).length cr] 32 (0, 0)) from blk_put HBk.out 0 _ rfl)
              clear hcz0 hfz0 HBk HB9
              generalize w9.setCell ⟨gb, 0, none⟩ (.slice Ar (Lib04.recS (encL L)).length cr) = w10 at HB10 HK10 ⊢
              have HW10 := Aside0.mk (HW8.out.below HB10.out)
              have HV10 := Aside0.mk (Kd.R_below HV8.out HB10.out)
              have x10 := HW10.out.xc
              have HB11 := Aside0.mk (show Below w10.heap.size w10 (w10.alloc (.cells #[.func (Fn.func 85) #[] #[.pointer (some ⟨w.heap.size, 0, none⟩), .pointer (some ⟨gb, 0, none⟩)], .func (Fn.func 86) #[] #[.pointer (some ⟨w.heap.size, 0, none⟩)], .func (Fn.func 87) #[] #[.pointer (some ⟨w.heap.size, 0, none⟩), .pointer (some ⟨w.heap.size + 1, 0, none⟩)], .func (Fn.func 89) #[.pointer (some ⟨l, 0, none⟩)] #[]] 81)) from (Below.refl _ _).alloc (Nat.le_refl _) _)
              have HN11 := Aside0.mk (heap_alloc_new w10 (.cells #[.func (Fn.func 85) #[] #[.pointer (some ⟨w.heap.size, 0, none⟩), .pointer (some ⟨gb, 0, none⟩)], .func (Fn.func 86) #[] #[.pointer (some ⟨w.heap.size, 0, none⟩)], .func (Fn.func 87) #[] #[.pointer (some ⟨w.heap.size, 0, none⟩), .pointer (some ⟨w.heap.size + 1, 0, none⟩)], .func (Fn.func 89) #[.pointer (some ⟨l, 0, none⟩)] #[]] 81))
              have HW11 := Aside0.mk (HW10.out.below HB11.out)
              have HV11 := Aside0.mk (Kd.R_below HV10.out HB11.out)
              have HSt := Aside0.mk (commit_steps (W := w10.alloc (.cells #[.func (Fn.func 85) #[] #[.pointer (some ⟨w.heap.size, 0, none⟩), .pointer (some ⟨gb, 0, none⟩)], .func (Fn.func 86) #[] #[.pointer (some ⟨w.heap.size, 0, none⟩)], .func (Fn.func 87) #[] #[.pointer (some ⟨w.heap.size, 0, none⟩), .pointer (some ⟨w.heap.size + 1, 0, none⟩)], .func (Fn.func 89) #[.pointer (some ⟨l, 0, none⟩)] #[]] 81)) (B := B) (p := p) (l := l) (dead := false) (D := D) (E := E) (A := A) (c := c) (L := L) w.heap.size gb (w.heap.size + 1) w10.heap.size Ar cr (recL L) HW11.out.x ((HB11.out.block _ (blk_lt HK10.out)).trans HK10.out) HW11.out.o HN11.out HW11.out.log HW11.out.disk HW11.out.errs.disk HK.out hst (fun V hV => (row_C2 (R_turn HV11.out hV.kind (by decide)) rfl).2) (row_C2 HV11.out rfl).1 HRl.out (HIn.out.at_.turn HW11.out.turn) ⟨HIn.out.len, fun o ho => ⟨(HIn.out.each o ho).1, by have := (HCo.out.2.2 o ho).len; omega⟩⟩ HIn.out.cap)
              obtain ⟨r1, D2, hr1⟩ : ∃ r1 D2, stepsL L D = (r1, D2) := ⟨_, _, rfl⟩
              rw [show runs [fun D => appendD D kRedo (recL L), fun D => syncD D kRedo, allL L, emptyL] D = (r1, D2) from hr1] at HSt
              rw [hr1] at HRe
              clear hr1
              go_upto_region 20 with (go_at_call 80; refine HSt.out.mono ?_; rintro e w12 ⟨rfl, hd, ht⟩; have HD12 := Aside0.mk hd; have HT12 := Aside0.mk (HW11.out.turn.trans ht); have HL12 := Aside0.mk (HW11.out.log.turn ht); have x12 : w12.cell? ⟨w.heap.size, 0, none⟩ = some (.pointer (some ⟨l, 0, none⟩)) := (blk_cell (ht.kind _ _ HW11.out.x rfl) 0).trans rfl; clear hd ht x10)
              cases r1 with
              | none =>
                rw [errV_none]
                go_wp2
                go_ret
                rw [HRe.out]
                exact ⟨rfl, HL12.out, HD12.out, TurnL.of HT12.out⟩
              | some y =>
                rw [errV_some]
                have l12 := HL12.out.dead
                have f12 := blk_frozen HL12.out 1
                go_wp2
                go_ret
                rw [HRe.out]
                exact ⟨rfl, blk_put HL12.out 1 (.bool true) rfl, disk_dead HD12.out HL12.out _, (TurnL.of HT12.out).set hlB 1 _⟩
end Go.Proofs.YtpcfnkmljchiiaaGreatDoor.OCom
