/- Steps towards RBoth: OOpn, OWr, OWa, OWo, OWf. -/
import Derived.Test.YtpcfnkmljchiiaaGreatDoorZ26
import Derived.Test.YtpcfnkmljchiiaaGreatDoorZ35
import Derived.Test.YtpcfnkmljchiiaaGreatDoorZ27
set_option linter.unusedVariables false
set_option linter.unusedSimpArgs false
section
/- redo.Open. -/
namespace Go.Proofs.YtpcfnkmljchiiaaGreatDoor.OOpn
open DRt Go Go.RowKit Go.Maps Go.WideMaps Go.Proofs.YtpcfnkmljchiiaaGreatDoorW.PrintWords Go.Proofs.YtpcfnkmljchiiaaGreatDoorW.PrintLast Go.Proofs.YtpcfnkmljchiiaaGreatDoorW.PrintMore DBase DPl DAt DNw Go.Proofs.YtpcfnkmljchiiaaGreatDoor.Is DFil DUsd DOps DSyn DSd DDo DAk Go.Proofs.YtpcfnkmljchiiaaGreatDoor.OPl Go.Proofs.YtpcfnkmljchiiaaGreatDoor.OSz Go.Proofs.YtpcfnkmljchiiaaGreatDoor.OAll Go.Proofs.YtpcfnkmljchiiaaGreatDoor.OStp Go.Proofs.YtpcfnkmljchiiaaGreatDoor.OClo Go.Proofs.YtpcfnkmljchiiaaGreatDoor.OFmt Go.Proofs.YtpcfnkmljchiiaaGreatDoor.OChk Go.Proofs.YtpcfnkmljchiiaaGreatDoor.OEnc Go.Proofs.YtpcfnkmljchiiaaGreatDoor.OByt Go.Proofs.YtpcfnkmljchiiaaGreatDoor.ORdr Go.Proofs.YtpcfnkmljchiiaaGreatDoor.ORdb Go.Proofs.YtpcfnkmljchiiaaGreatDoor.OOps Go.Proofs.YtpcfnkmljchiiaaGreatDoor.OCom
/-- Operations that the code has made itself. -/
theorem opsAt_own {B base c : Nat} {w : World} {A : Option Addr} {L : List Rop} (h : Kd.R GSix.k62 62 w base (fun _ => True) (.slice A L.length c) L) : OpsAt B w A L := by
  intro j o hj
  obtain ⟨hjl, hx⟩ := List.getElem?_eq_some_iff.1 hj
  obtain ⟨hok, inner, ho, hr⟩ := h
  rcases ho.2 with ⟨e, hz⟩ | ⟨g, cap, cur, e, hbase, hgb, r1, r2, r3, r4⟩
  · omega
  · simp only [Value.slice.injEq] at e
    obtain ⟨rfl, _, rfl⟩ := e
    have hM := hr.2 j o hj
    obtain ⟨v3, hcs, h3⟩ := GSix.k62_openM hM
    obtain ⟨A3, c3, rfl⟩ := Kd.R_slice h3
    refine ⟨⟨g, 0, none⟩, A3, c3, rfl, (row_C2 h3 rfl).1, fun V hV => ?_⟩
    have hgV := hV.kind g _ hgb rfl
    have hcell : ∀ (i : Nat) (u : Value), [Value.int .i64 o.f0, .string o.f1, .int .i64 o.f2, .slice A3 o.f3.length c3][i]? = some u → V.cell? ⟨g, j * 4 + i, none⟩ = some u := fun i u hu => by
      have hi : i < 4 := by simpa using (List.getElem?_eq_some_iff.1 hu).1
      rw [← hcs] at hu
      have h9 : inner[j * 4 + i]? = some u := by
        rw [List.getElem?_take, if_pos (show i < GSix.k62.sz from hi), List.getElem?_drop] at hu
        exact hu
      refine (blk_cell hgV (j * 4 + i)).trans ?_
      rw [← r4, List.getElem?_take] at h9
      split at h9
      · rw [← Array.getElem?_toList]
        exact h9
      · cases h9
    refine ⟨⟨?_, ?_, ?_, ?_⟩, (row_C2 (R_turn h3 hV.kind (by decide)) rfl).2⟩
    · rw [add_plain]
      exact hcell 0 _ rfl
    · rw [add_plain]
      exact hcell 1 _ rfl
    · rw [add_plain]
      exact hcell 2 _ rfl
    · rw [add_plain]
      exact hcell 3 _ rfl
/-- The change of a record, where it is whole and its bytes are a change's. -/
def redoL (b : List Int) : Option (List Rop) :=
  match Lib04.wholeS b with
  | none => none
  | some n => if (opsP ((b.drop 8).take n)).2.2 = false ∧ (opsP ((b.drop 8).take n)).2.1 = [] ∧ checkL (opsP ((b.drop 8).take n)).1 = none then some (opsP ((b.drop 8).take n)).1 else none
/-- What is done again. -/
def againL (b : List Int) (D : Dsk) : Option Int × Dsk := match redoL b with | some L => allL L D | none => (none, D)
/-- Another quota. -/
def setQ (D : Dsk) (q : Int) : Dsk := { D with quota := q }
def thenEmptyL (b : List Int) (r : Option Int × Dsk) : Option Int × Dsk := if r.1 = none ∧ 0 < b.length then emptyL r.2 else r
/-- What Open answers, and the disk. -/
def openL (D : Dsk) : Option Int × Dsk :=
  match fileE D kRedo with
  | some c => (some c, D)
  | none =>
    let r := thenEmptyL (readD D kRedo) (againL (readD D kRedo) (setQ D 1073741824))
    (r.1, setQ r.2 D.quota)
variable {B : Bx} {p : Nat} {D : Dsk} {E : Int → Addr} {w : World}
/-- What Open's answer is. -/
def OpenPost (B : Bx) (E : Int → Addr) (p : Nat) (w : World) (R : Option Int × Dsk) (e : Ending) (w' : World) : Prop :=
  DiskAt B w' p R.2 ∧ Turn B w w' ∧ match R.1 with
    | some c => e = .returned (.tuple #[.pointer none, errV E (some c)])
    | none => ∃ l, w.heap.size ≤ l ∧ LogAt w' l p false ∧ e = .returned (.tuple #[.pointer (some ⟨l, 0, none⟩), .nilIface])
theorem read_len (hk : D.Ok) (s : ByteArray) : (readD D s).length ≤ 1073741824 := by
  unfold readD
  split
  · rename_i f hf
    exact (hk.fil f (List.mem_of_getElem? hf)).nowL
  · simp
/-- What the walk of Open knows. -/
structure NpW (B : Bx) (w : World) (p l : Nat) (E : Int → Addr) (W : World) (D : Dsk) : Prop where
  turn : Turn B w W
  errs : AllAt B W E
  disk : DiskAt B W p D
  log : LogAt W l p false
theorem NpW.below {l : Nat} {W V : World} (h : NpW B w p l E W D) (hb : Below W.heap.size W V) : NpW B w p l E V D :=
  ⟨h.turn.trans (Turn.of_below hb), h.errs.turn (Turn.of_below hb), h.disk.below hb, h.log.below hb⟩
theorem NpW.next {l : Nat} {W V : World} {D2 : Dsk} (h : NpW B w p l E W D) (ht : Turn B W V) (hd : DiskAt B V p D2) : NpW B w p l E V D2 :=
  ⟨h.turn.trans ht, h.errs.turn ht, hd, h.log.turn ht⟩
theorem quota_ok {D : Dsk} (h : D.Ok) (q : Int) (h0 : 0 ≤ q) (h1 : q ≤ 1073741824) : (setQ D q).Ok :=
  ⟨h.nowF, h.sureF, h.opnF, h.nowE, h.fil, h0, h1, h.armed0, h.armed1, h.steps0, h.cntF, h.cntN⟩
theorem redoL_few {b : List Int} {L : List Rop} (h : redoL b = some L) : checkL L = none := by
  unfold redoL at h
  split at h
  · cases h
  · split at h
    · rename_i hh
      injection h with h
      subst h
      exact hh.2.2
    · cases h
theorem kq_again (hk : D.Ok) (b : List Int) : Kq 49 D (againL b D).2 := by
  unfold againL
  cases hr : redoL b with
  | none => exact (Kq.refl hk).up (by omega)
  | some L =>
    have := (check_ok (redoL_few hr)).1
    exact (kq_all L D hk).up (by omega)
theorem kq_thenEmpty (b : List Int) (r : Option Int × Dsk) (hk : r.2.Ok) : Kq 2 r.2 (thenEmptyL b r).2 := by
  unfold thenEmptyL
  split
  · exact kq_empty hk
  · exact (Kq.refl hk).up (by omega)
theorem setQ_calls (h : DiskAt B w p D) (hE : ErrAt B w E) (n : Int) (h0 : 0 ≤ n) (h1 : n ≤ 1073741824) : Calls Tryz.prog 37 #[.pointer (some ⟨p, 0, none⟩), .int .i64 n] w fun e w' => e = .returned .nilIface ∧ DiskAt B w' p (setQ D n) ∧ Turn B w w' := by
  have h := setQuota_calls B p D E w h hE n
  rw [show setQuotaD D n = (none, setQ D n) from if_neg (by omega), errV_none] at h
  exact h
set_option maxRecDepth 100000 in
set_option maxHeartbeats 16000000 in
theorem open_calls (h : DiskAt B w p D) (hE : AllAt B w E) (hk : D.Ok) (hst : D.steps ≤ 100000000) (hbB : Lib04.isB (readD D kRedo)) (hB : B.n ≤ w.heap.size) :
    Calls Tryz.prog 33 #[.pointer (some ⟨p, 0, none⟩)] w fun e w' => OpenPost B E p w (openL D) e w' := by
  obtain ⟨R, hR⟩ : ∃ R, R = openL D := ⟨_, rfl⟩
  rw [← hR]
  have HK := Aside0.mk hk
  have HBy := Aside0.mk hbB
  have HE := Aside0.mk hE
  have HD := Aside0.mk h
  cases hq : fileE D kRedo with
  | some c =>
    have HR := Aside0.mk (read_no B p D E w h hE.disk kRedo (by decide) c hq)
    rw [errV_some] at HR
    have HRR := Aside0.mk (show R = (some c, D) by rw [hR]; unfold openL; rw [hq])
    clear h hE hk hq hR hbB
    go_enter Tryz.func33, Tryz.ntmps33
    go_wp2_with (go_at_call 13; refine HR.out.mono ?_; rintro e w1 ⟨rfl, hb⟩; have HB1 := Aside0.mk hb; clear hb)
    go_ret2
    rw [HRR.out]
    exact ⟨HD.out.below HB1.out, Turn.of_below HB1.out, rfl⟩
  | none =>
    have HR := Aside0.mk (read_ok B p D E w h hE.disk hk (by omega) kRedo (by decide) hq)
    have HRR := Aside0.mk (show R = ((thenEmptyL (readD D kRedo) (againL (readD D kRedo) (setQ D 1073741824))).1, setQ (thenEmptyL (readD D kRedo) (againL (readD D kRedo) (setQ D 1073741824))).2 D.quota) by rw [hR]; unfold openL; rw [hq])
    have hfl := read_len hk kRedo
    obtain ⟨b, hb⟩ : ∃ b, b = readD D kRedo := ⟨_, rfl⟩
    rw [← hb] at HR HRR HBy hfl
    clear h hE hk hq hR hbB hb
    go_enter Tryz.func33, Tryz.ntmps33
    go_upto_region 4 with (go_at_call 13; refine HR.out.mono ?_; rintro e w1 ⟨v, rfl, hv, hb⟩; have HV1 := Aside0.mk hv; have HB1 := Aside0.mk hb; clear hb hv)
    obtain ⟨Ab, cb, rfl⟩ := Kd.R_slice HV1.out
    have HB2 := Aside0.mk (show Below w1.heap.size w1 (w1.alloc (.cells #[.pointer (some ⟨p, 0, none⟩), .bool false] 129)) from (Below.refl _ _).alloc (Nat.le_refl _) _)
    have HW2 := Aside0.mk (show NpW B w p w1.heap.size E (w1.alloc (.cells #[.pointer (some ⟨p, 0, none⟩), .bool false] 129)) D from ⟨(Turn.of_below HB1.out).trans (Turn.of_below HB2.out), (HE.out.turn (Turn.of_below HB1.out)).turn (Turn.of_below HB2.out), (HD.out.below HB1.out).below HB2.out, heap_alloc_new w1 _⟩)
    have HV2 := Aside0.mk (Kd.R_below HV1.out HB2.out)
    have HLo := Aside0.mk (show w.heap.size ≤ w1.heap.size from HB1.out.size)
    go_upto_region 5 with (fail)
    obtain ⟨l, hl⟩ : ∃ l, l = w1.heap.size := ⟨_, rfl⟩
    rw [← hl] at HW2 HLo ⊢
    have HLe := Aside0.mk hl
    clear hl
    generalize w1.alloc (.cells #[.pointer (some ⟨p, 0, none⟩), .bool false] 129) = w2 at HB2 HV2 HW2 ⊢
    have hq0 := HK.out.quota0
    have hq1 := HK.out.quota1
    obtain ⟨D1, hD1⟩ : ∃ D1, D1 = setQ D 1073741824 := ⟨_, rfl⟩
    have HK1 := Aside0.mk (show D1.Ok by rw [hD1]; exact quota_ok HK.out _ (by decide) (by decide))
    have HS1 := Aside0.mk (show D1.steps = D.steps by rw [hD1]; rfl)
    have HSQ := Aside0.mk (setQ_calls HW2.out.disk HW2.out.errs.disk 1073741824 (by decide) (by decide))
    have HQ := Aside0.mk (quota_calls B p D w2 HW2.out.disk)
    rw [← hD1] at HRR HSQ
    clear hD1
    go_upto_region 9 with (first
      | (go_at_call 54; refine HQ.out.mono ?_; rintro e w9 ⟨rfl, rfl⟩)
      | (go_at_call 37; refine HSQ.out.mono ?_; rintro e w3 ⟨rfl, hd, ht⟩; have HW3 := Aside0.mk (HW2.out.next ht hd); have HV3 := Aside0.mk (R_turn HV2.out ht.kind (by decide)); clear hd ht))
    obtain ⟨r1, hr1⟩ : ∃ r1, r1 = againL b D1 := ⟨_, rfl⟩
    rw [← hr1] at HRR
    have HK2 := Aside0.mk (show r1.2.Ok ∧ r1.2.steps ≤ D1.steps + 49 by rw [hr1]; exact ⟨(kq_again HK1.out b).ok, (kq_again HK1.out b).steps⟩)
    have HR1 := Aside0.mk hr1
    clear hr1
    obtain ⟨x, y, z, hxyz⟩ : ∃ x y z, (match Lib04.wholeS b with | some n => ((b.drop 8).take n, b.drop (8 + n), true) | none => ([], [], false)) = (x, y, z) := ⟨_, _, _, rfl⟩
    have HXZ := Aside0.mk hxyz
    have HTk := Aside0.mk (GChk.check_Take.calls (b.length + 1) Ab cb b x y z w3 (row_C2 HV3.out rfl).2 (row_C2 HV3.out rfl).1 (by rw [Lib04.take_f HBy.out (by omega) _ (Nat.lt_succ_self _), ← hxyz]; cases Lib04.wholeS b <;> rfl))
    clear hxyz
    go_upto_if 39 with (go_at_call 90; refine HTk.out.mono ?_; rintro e w4 ⟨vx, vy, rfl, hx, hy, hb⟩; have HW4 := Aside0.mk (HW3.out.below hb); have HX4 := Aside0.mk hx; clear hx hy hb)
    go_cut [5] (fun s wx => s = errV E r1.1 ∧ Aside0 (NpW B w p l E wx r1.2))
    case first =>
      cases z with
      | false =>
        have HZ := Aside0.mk (show againL b D1 = (none, D1) by
          have h9 := HXZ.out
          unfold againL redoL
          cases hw : Lib04.wholeS b with
          | none => rfl
          | some n => rw [hw] at h9; cases h9)
        go_wp2
        go_meet
        case rel =>
          rw [HR1.out, HZ.out]
          exact ⟨rfl, HW4⟩
      | true =>
        have hn : ∃ n, Lib04.wholeS b = some n ∧ x = (b.drop 8).take n := by
          have h9 := HXZ.out
          cases hw : Lib04.wholeS b with
          | none => rw [hw] at h9; cases h9
          | some n => rw [hw] at h9; injection h9 with h9; exact ⟨n, rfl, h9.symm⟩
        obtain ⟨n, hw, hxn⟩ := hn
        obtain ⟨Ax, cx, rfl⟩ := Kd.R_slice HX4.out
        have hn4 : n ≤ 400000 := by
          unfold Lib04.wholeS at hw
          split at hw
          · rename_i h9
            injection hw with hw
            omega
          · cases hw
        have hxl : x.length ≤ 1000000 := by rw [hxn, List.length_take]; omega
        have hxB : Lib04.isB x := by
          intro u hu
          rw [hxn] at hu
          exact HBy.out u (List.mem_of_mem_drop (List.mem_of_mem_take hu))
        have HOp := Aside0.mk (ops_calls x Ax cx B.n E w4 HW4.out.errs (by have := HW4.out.turn.size; omega) (row_C2 HX4.out rfl).2 (row_C2 HX4.out rfl).1 hxB hxl)
        have HWn := Aside0.mk (And.intro hw hxn)
        clear hw hxn hn4 hxl hxB
        obtain ⟨P, hP⟩ : ∃ P, P = opsP x := ⟨_, rfl⟩
        rw [← hP] at HOp
        have HP := Aside0.mk hP
        clear hP
        by_cases hg : P.2.2 = false ∧ P.2.1 = [] ∧ checkL P.1 = none
        · have HG := Aside0.mk hg
          have HRd := Aside0.mk (show redoL b = some P.1 by
            unfold redoL
            rw [HWn.out.1]
            simp only [← HWn.out.2]
            rw [← HP.out]
            exact if_pos HG.out)
          have HRa := Aside0.mk (show r1 = allL P.1 D1 by rw [HR1.out]; unfold againL; rw [HRd.out])
          clear hg
          go_upto_if 46 with (go_at_call 21; refine HOp.out.mono ?_; rintro e w5 ⟨ho, hb⟩; unfold OpsPost at ho; rw [if_pos HG.out] at ho; obtain ⟨v, rfl, hv⟩ := ho; have HW5 := Aside0.mk (HW4.out.below hb); have HV5 := Aside0.mk hv; clear hb hv)
          obtain ⟨Ao, co, rfl⟩ := Kd.R_slice HV5.out
          have HAl := Aside0.mk (all_calls (B := B) (p := p) (l := l) (dead := false) (D := D1) (E := E) (w := w5) (A := Ao) (c := co) (L := P.1) HW5.out.log HW5.out.disk HW5.out.errs.disk HK1.out (by rw [HS1.out]; omega) (opsAt_own HV5.out) (by have h9 := check_ok HG.out.2.2; exact ⟨by have := h9.1; omega, fun o ho => ⟨by have := (h9.2.2 o ho).size; omega, by have := (h9.2.2 o ho).len; omega⟩⟩) (row_C2 HV5.out rfl).1)
          rw [← HRa.out] at HAl
          go_wp2_with (go_at_call 88; refine HAl.out.mono ?_; rintro e w6 ⟨rfl, hd, ht⟩; have HW6 := Aside0.mk (HW5.out.next ht hd); clear hd ht)
          go_meet
          case rel => exact ⟨rfl, HW6⟩
        · have HG := Aside0.mk hg
          have HRd := Aside0.mk (show redoL b = none by
            unfold redoL
            rw [HWn.out.1]
            simp only [← HWn.out.2]
            rw [← HP.out]
            exact if_neg HG.out)
          have HRa := Aside0.mk (show r1 = (none, D1) by rw [HR1.out]; unfold againL; rw [HRd.out])
          clear hg
          go_upto_if 46 with (go_at_call 21; refine HOp.out.mono ?_; rintro e w5 ⟨ho, hb⟩; unfold OpsPost at ho; rw [if_neg HG.out, errV_some] at ho; obtain rfl := ho; have HW5 := Aside0.mk (HW4.out.below hb); clear hb)
          go_wp2
          go_meet
          case rel =>
            rw [HRa.out]
            exact ⟨rfl, HW5⟩
    case rest =>
      obtain ⟨rfl, HW6⟩ := hcut
      obtain ⟨r2, hr2⟩ : ∃ r2, r2 = thenEmptyL b r1 := ⟨_, rfl⟩
      rw [← hr2] at HRR
      have HR2 := Aside0.mk hr2
      have HK3 := Aside0.mk (show r2.2.Ok ∧ r2.2.steps ≤ r1.2.steps + 2 by rw [hr2]; exact ⟨(kq_thenEmpty b r1 HK2.out.1).ok, (kq_thenEmpty b r1 HK2.out.1).steps⟩)
      clear hr2
      have HEm := Aside0.mk (empty_calls (B := B) (p := p) (l := l) (dead := false) (D := r1.2) (E := E) (w := wc) HW6.out.log HW6.out.disk HW6.out.errs.disk HK2.out.1 (by have := HK2.out.2; have := HS1.out; omega))
      clear HTk HXZ HSQ HQ HW4 HX4 HW3 HV3 HW2 HV2 HB2
      obtain ⟨e1, he1⟩ : ∃ e1, e1 = r1.1 := ⟨_, rfl⟩
      rw [← he1]
      have HE1 := Aside0.mk he1
      clear he1
      cases e1 with
      | some c =>
        rw [errV_some]
        have HY := Aside0.mk (show r2 = (some c, r1.2) by rw [HR2.out]; unfold thenEmptyL; rw [if_neg (by rw [← HE1.out]; intro h9; cases h9.1)]; exact Prod.ext HE1.out.symm rfl)
        have HSQ := Aside0.mk (setQ_calls HW6.out.disk HW6.out.errs.disk D.quota hq0 hq1)
        go_wp2_with (go_at_call 37; refine HSQ.out.mono ?_; rintro e w9 ⟨rfl, hd, ht⟩; have HW9 := Aside0.mk (HW6.out.next ht hd); clear hd ht)
        go_ret2
        rw [HRR.out, HY.out]
        exact ⟨HW9.out.disk, HW9.out.turn, rfl⟩
      | none =>
        rw [errV_none]
        by_cases hb0 : 0 < b.length
        · have t0 : decide ((0 : Int) < (b.length : Int)) = true := decide_eq_true (by omega)
          have t0' : decide (0 < b.length) = true := decide_eq_true hb0
          have HY0 := Aside0.mk (show r2 = emptyL r1.2 by rw [HR2.out]; unfold thenEmptyL; rw [if_pos ⟨HE1.out.symm, hb0⟩])
          obtain ⟨x2, D2, hx2⟩ : ∃ x2 D2, emptyL r1.2 = (x2, D2) := ⟨_, _, rfl⟩
          rw [hx2] at HEm HY0
          clear hx2 hb0
          go_upto_region 16 with (go_at_call 89; refine HEm.out.mono ?_; rintro e w8 ⟨rfl, hd, ht⟩; have HW8 := Aside0.mk (HW6.out.next ht hd); clear hd ht)
          cases x2 with
          | some c =>
            rw [errV_some]
            have HY := HY0
            have HSQ := Aside0.mk (setQ_calls HW8.out.disk HW8.out.errs.disk D.quota hq0 hq1)
            go_wp2_with (go_at_call 37; refine HSQ.out.mono ?_; rintro e w9 ⟨rfl, hd, ht⟩; have HW9 := Aside0.mk (HW8.out.next ht hd); clear hd ht)
            go_ret2
            rw [HRR.out, HY.out]
            exact ⟨HW9.out.disk, HW9.out.turn, rfl⟩
          | none =>
            rw [errV_none]
            have HY := HY0
            have HSQ := Aside0.mk (setQ_calls HW8.out.disk HW8.out.errs.disk D.quota hq0 hq1)
            go_wp2_with (go_at_call 37; refine HSQ.out.mono ?_; rintro e w9 ⟨rfl, hd, ht⟩; have HW9 := Aside0.mk (HW8.out.next ht hd); clear hd ht)
            go_ret2
            rw [HRR.out, HY.out]
            exact ⟨HW9.out.disk, HW9.out.turn, ⟨l, HLo.out, HW9.out.log, rfl⟩⟩
        · have t0 : decide ((0 : Int) < (b.length : Int)) = false := decide_eq_false (by omega)
          have t0' : decide (0 < b.length) = false := decide_eq_false hb0
          have HY := Aside0.mk (show r2 = (none, r1.2) by rw [HR2.out]; unfold thenEmptyL; rw [if_neg (fun h9 => hb0 h9.2)]; exact Prod.ext HE1.out.symm rfl)
          clear hb0
          have HSQ := Aside0.mk (setQ_calls HW6.out.disk HW6.out.errs.disk D.quota hq0 hq1)
          go_wp2_with (go_at_call 37; refine HSQ.out.mono ?_; rintro e w9 ⟨rfl, hd, ht⟩; have HW9 := Aside0.mk (HW6.out.next ht hd); clear hd ht)
          go_ret2
          rw [HRR.out, HY.out]
          exact ⟨HW9.out.disk, HW9.out.turn, ⟨l, HLo.out, HW9.out.log, rfl⟩⟩
theorem kq_open {D : Dsk} (hk : D.Ok) : Kq 51 D (openL D).2 := by
  unfold openL
  split
  · exact (Kq.refl hk).up (by omega)
  · have h0 := quota_ok hk 1073741824 (by decide) (by decide)
    have h1 := kq_again h0 (readD D kRedo)
    have h2 := kq_thenEmpty (readD D kRedo) _ h1.ok
    have h3 := h1.trans h2
    exact ⟨quota_ok h3.ok _ hk.quota0 hk.quota1, by have := h3.steps; exact this, fun x => h3.live x⟩
end Go.Proofs.YtpcfnkmljchiiaaGreatDoor.OOpn
end
section
/- What may be found behind a loss of power: the contents that a name may have, kept by every step. -/
namespace Go.Proofs.YtpcfnkmljchiiaaGreatDoor.OWr
open Go Go.RowKit DPl DOk DOk2 DCra DCrc DSyn DSd DCr DCh2 DOps DFil DDo DAk DSu Right
/-- A name's file. -/
def lk (N : Nms) (k : List UInt8) : Option Int := (key k N).map fun p => p.2
variable {P Q : List UInt8 → Option (List Int) → Prop} {D : Dsk}
end Go.Proofs.YtpcfnkmljchiiaaGreatDoor.OWr
end
section
/- The acts of a disk, where each name's bytes may be these or those: the step is done, or the power went. -/
namespace Go.Proofs.YtpcfnkmljchiiaaGreatDoor.OWa
open Go Go.RowKit DPl DOk DOk2 DCra DCrc DSyn DSd DCr DCh2 DOps DFil DDo DAk DSu DAc DRpa Right Go.Proofs.YtpcfnkmljchiiaaGreatDoor.OWr Go.Proofs.YtpcfnkmljchiiaaGreatDoor.OPl
variable {P Q : List UInt8 → Option (List Int) → Prop} {D D1 D2 : Dsk} {q : Nat} {s : ByteArray} {i : Int} {f : Fil}
theorem app_go (l b : List Int) : (⟨l.length, b, false⟩ : Chg).go l = l ++ b := by
  unfold Chg.go
  rw [if_neg (by simp)]
  simp only [List.take_length]
  rw [List.drop_eq_nil_of_le (by omega), List.append_nil]
end Go.Proofs.YtpcfnkmljchiiaaGreatDoor.OWa
end
section
/- A change is cut anywhere, openings are cut anywhere: all of the change is there, or nothing. -/
namespace Go.Proofs.YtpcfnkmljchiiaaGreatDoor.OWo
open Go Go.RowKit DPl DOk DOk2 DCra DCrc DSyn DSd DCr DCh2 DOps DFil DDo DAk DSu Right Go.Proofs.YtpcfnkmljchiiaaGreatDoor.ORight Go.Proofs.YtpcfnkmljchiiaaGreatDoor.OChk Go.Proofs.YtpcfnkmljchiiaaGreatDoor.OEnc Go.Proofs.YtpcfnkmljchiiaaGreatDoor.OWr Go.Proofs.YtpcfnkmljchiiaaGreatDoor.OWa  Go.Proofs.YtpcfnkmljchiiaaGreatDoor.OPl Go.Proofs.YtpcfnkmljchiiaaGreatDoor.OSz Go.Proofs.YtpcfnkmljchiiaaGreatDoor.ONeed Go.Proofs.YtpcfnkmljchiiaaGreatDoor.OStp Go.Proofs.YtpcfnkmljchiiaaGreatDoor.OCom Go.Proofs.YtpcfnkmljchiiaaGreatDoor.OOps Go.Proofs.YtpcfnkmljchiiaaGreatDoor.OPar Go.Proofs.YtpcfnkmljchiiaaGreatDoor.OOpn Go.Proofs.YtpcfnkmljchiiaaGreatDoor.OList
abbrev Fls := List UInt8 → Option (List Int)
variable {was : Fls} {L : List Rop} {P : List UInt8 → Option (List Int) → Prop} {D D1 D2 : Dsk} {q : Nat} {o : Rop} {i : Int} {f : Fil}
/-! ### a step is done, or the power went -/
/-! ### the classes of disks -/
/-! ### what stays open -/
/-! ### changes that fit -/
/-! ### the record -/
/-! ### Commit -/
/-! ### Open -/
end Go.Proofs.YtpcfnkmljchiiaaGreatDoor.OWo
end
section
/- Plain files: what the document's change makes of them; a disk's files; how much may be there. -/
namespace Go.Proofs.YtpcfnkmljchiiaaGreatDoor.OWf
open Go Go.RowKit Go.Proofs.YtpcfnkmljchiiaaGreatDoorW.PrintWords DPl DSyn DDo DSu DFil Right DRl Go.Proofs.YtpcfnkmljchiiaaGreatDoor.OChk Go.Proofs.YtpcfnkmljchiiaaGreatDoor.OEnc Go.Proofs.YtpcfnkmljchiiaaGreatDoor.OWr Go.Proofs.YtpcfnkmljchiiaaGreatDoor.OWa  Go.Proofs.YtpcfnkmljchiiaaGreatDoor.OWo Go.Proofs.YtpcfnkmljchiiaaGreatDoor.OPl Go.Proofs.YtpcfnkmljchiiaaGreatDoor.OPar Go.Proofs.YtpcfnkmljchiiaaGreatDoor.OCom Go.Proofs.YtpcfnkmljchiiaaGreatDoor.OList
theorem ba_ext {a b : ByteArray} (h : a.data.toList = b.data.toList) : a = b := by
  apply ByteArray.ext
  exact Array.ext' h
/-! ### a disk's files -/
/-! ### how much may be there -/
/-- How long a change is. -/
def lenL (L : List Rop) : Nat := (L.map fun o => o.f1.size + o.f3.length).sum
end Go.Proofs.YtpcfnkmljchiiaaGreatDoor.OWf
end
