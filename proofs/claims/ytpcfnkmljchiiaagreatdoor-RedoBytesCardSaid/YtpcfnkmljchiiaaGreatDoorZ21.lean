/- Steps towards RBoth: ODo, OAll, ORight, OSee. -/
import Derived.Test.YtpcfnkmljchiiaaGreatDoorZ20
import Derived.Test.YtpcfnkmljchiiaaGreatDoorZ06
import Derived.Test.YtpcfnkmljchiiaaGreatDoorZ05
import Derived.Maps.Views
set_option linter.unusedVariables false
set_option linter.unusedSimpArgs false
section
/- Log.do: an operation of a change. -/
namespace Go.Proofs.YtpcfnkmljchiiaaGreatDoor.ODo
open Go Go.RowKit Go.Maps Go.WideMaps Go.Proofs.YtpcfnkmljchiiaaGreatDoorW.PrintWords Go.Proofs.YtpcfnkmljchiiaaGreatDoorW.PrintLast DBase DPl DAt DEnt DNam Go.Proofs.YtpcfnkmljchiiaaGreatDoor.Is DFil DUsd DChg DCg DStp DCh2 DBy DOps DSyn DSd DCr DAk Go.Proofs.YtpcfnkmljchiiaaGreatDoor.OPl Go.Proofs.YtpcfnkmljchiiaaGreatDoor.OSz Go.Proofs.YtpcfnkmljchiiaaGreatDoor.OMade
variable {B : Bx} {p l b : Nat} {dead : Bool} {D D1 : Dsk} {E : Int → Addr} {w W V : World} {o : Rop} {A : Option Addr} {c : Nat}
/-- What the walk of do knows. -/
structure OW (B : Bx) (w : World) (p l b : Nat) (dead : Bool) (o : Rop) (A : Option Addr) (c : Nat) (E : Int → Addr) (D : Dsk) (W : World) : Prop where
  turn : Turn B w W
  errs : ErrAt B W E
  disk : DiskAt B W p D
  log : LogAt W l p dead
  box : W.heap[b]? = some (.cells #[.int .i64 o.f0, .string o.f1, .int .i64 o.f2, .slice A o.f3.length c] 62 (0, 0))
theorem OW.next (h : OW B w p l b dead o A c E D W) (hd : DiskAt B V p D1) (ht : Turn B W V) : OW B w p l b dead o A c E D1 V :=
  ⟨h.turn.trans ht, h.errs.turn ht, hd, h.log.turn ht, ht.kind _ _ h.box rfl⟩
theorem OW.below (h : OW B w p l b dead o A c E D W) (hb : Below W.heap.size W V) : OW B w p l b dead o A c E D V := h.next (h.disk.below hb) (Turn.of_below hb)
theorem OW.drew (h : OW B w p l b dead o A c E D W) : OW B w p l b dead o A c E D W.drew := h.below (Below.refl _ _).drew
theorem OW.cell (h : OW B w p l b dead o A c E D W) (i : Nat) (v : Value) (hv : #[Value.int .i64 o.f0, .string o.f1, .int .i64 o.f2, .slice A o.f3.length c][i]? = some v) : W.cell? ⟨b, i, none⟩ = some v := (blk_cell h.box i).trans hv
theorem op_in {K : Nat → Fil → Option Int × Dsk} {s : ByteArray} (hK : ∀ i f x, (K i f).1 = some x → dErr x) : ∀ x, (fileOp D s K).1 = some x → dErr x := by
  intro x hx
  unfold fileOp at hx
  cases hq : fileE D s with
  | some y =>
    rw [hq] at hx
    simp only [Option.some.injEq] at hx
    subst hx
    exact fileE_in hq
  | none =>
    rw [hq] at hx
    simp only at hx
    split at hx
    · exact hK _ _ _ hx
    · cases hx
theorem remove_in {s : ByteArray} : ∀ x, (removeD D s).1 = some x → dErr x := by
  refine op_in (fun i f x hx => ?_)
  unfold namedD at hx
  split at hx
  · simp only [Option.some.injEq] at hx
    subst hx
    simp [dErr]
  · cases hx
set_option maxRecDepth 100000 in
set_option maxHeartbeats 8000000 in
theorem do_calls (hl : LogAt w l p dead) (h : DiskAt B w p D) (hE : ErrAt B w E) (hk : D.Ok) (hst : D.steps ≤ 999999000) (hs : o.f1.size < 9223372036854775807) (hC : ∀ V, Turn B w V → Kd.C kb V A o.f3.length o.f3) (hc : o.f3.length ≤ c) (hbl : o.f3.length ≤ 1000000) :
    Calls Tryz.prog 124 #[.pointer (some ⟨l, 0, none⟩), .agg #[.int .i64 o.f0, .string o.f1, .int .i64 o.f2, .slice A o.f3.length c]] w fun e w' => e = .returned (errV E (doL D o).1) ∧ DiskAt B w' p (doL D o).2 ∧ Turn B w w' := by
  have HK := Aside0.mk hk
  have HC := Aside0.mk hC
  have HO := Aside0.mk (show OW B w p l w.heap.size dead o A c E D (w.alloc (.cells #[.int .i64 o.f0, .string o.f1, .int .i64 o.f2, .slice A o.f3.length c] 62)) from by
    have hb : Below w.heap.size w (w.alloc (.cells #[.int .i64 o.f0, .string o.f1, .int .i64 o.f2, .slice A o.f3.length c] 62)) := (Below.refl _ _).alloc (Nat.le_refl _) _
    exact ⟨Turn.of_below hb, hE.turn (Turn.of_below hb), h.below hb, hl.below hb, heap_alloc_new w _⟩)
  clear h hE hl hC hk
  by_cases h3 : o.f0 = 3
  · have e3 : (o.f0 == 3) = true := by simp [h3]
    have eD : doL D o = removeL D o.f1 := by unfold doL; rw [if_pos h3]
    rw [eD]
    have HI := Aside0.mk (remove_in (D := D) (s := o.f1))
    clear eD h3
    obtain ⟨r, D1, hr⟩ : ∃ r D1, removeD D o.f1 = (r, D1) := ⟨_, _, rfl⟩
    have HRm := Aside0.mk (fun (U : World) (hu : OW B w p l w.heap.size dead o A c E D U) => remove_calls (h := hu.disk) (hE := hu.errs) (hk := HK.out) (hst := (by omega)) (s := o.f1) (hs := hs))
    rw [hr] at HRm HI
    have HRE := Aside0.mk hr
    obtain ⟨rr, hrr⟩ : ∃ rr, rr = removeL D o.f1 := ⟨_, rfl⟩
    rw [← hrr]
    have HRR := Aside0.mk hrr
    clear hr hrr
    have k0 := HO.out.cell 0 _ rfl
    go_enter Tryz.func124, Tryz.ntmps124
    go_upto_region 2 with (fail)
    generalize w.alloc (.cells #[.int .i64 o.f0, .string o.f1, .int .i64 o.f2, .slice A o.f3.length c] 62) = W1 at HO k0 ⊢
    refine start_ (n := 8) (S := fun w' => w'.cell? ⟨l, 0, none⟩ = some (.pointer (some ⟨p, 0, none⟩)) ∧ w'.cell? ⟨w.heap.size, 1, none⟩ = some (.string o.f1)) (ds := [6]) #[ff,ff,ff,ff,ff,ff,ff,ff] (by kernel_rfl) rfl rfl ⟨(HO.out.log.disk), (HO.out.cell 1 _ rfl)⟩ (fun hHeld => ?_)
    have HO2 := Aside0.mk HO.out.drew
    generalize W1.drew = W2 at HO2 hHeld ⊢
    refine pure_ (i := 0) (N := some 11) (v := ?_) (a' := ?_) #[tt,ff,ff,ff,ff,ff,ff,ff] rfl rfl (by kernel_rfl) (fun _ _ _ h => h) (Or.inl ⟨by rfl, ?_⟩) ?_ ?_
    rotate_left
    · intro w'
      go_simp
      with_reducible rfl
    rotate_left
    · simp only [Act.put, pkA, pkB, pkC, i64_w, i32_w]
      rfl
    refine pure_ (i := 1) (N := some 12) (v := ?_) (a' := ?_) #[tt,tt,ff,ff,ff,ff,ff,ff] rfl rfl (by kernel_rfl) (fun _ _ _ h => h) (Or.inl ⟨by rfl, ?_⟩) ?_ ?_
    rotate_left
    · intro w'
      go_simp
      with_reducible rfl
    rotate_left
    · simp only [Act.put, pkA, pkB, pkC, i64_w, i32_w]
      rfl
    refine pure_ (i := 2) (N := some 13) (v := ?_) (a' := ?_) #[tt,tt,tt,ff,ff,ff,ff,ff] rfl rfl (by kernel_rfl) (fun _ _ _ h => h) (Or.inl ⟨by rfl, ?_⟩) ?_ ?_
    rotate_left
    · intro w'
      go_simp
      with_reducible rfl
    rotate_left
    · simp only [Act.put, pkA, pkB, pkC, i64_w, i32_w]
      rfl
    refine pure_ (i := 4) (N := some 15) (v := ?_) (a' := ?_) #[tt,tt,tt,ff,tt,ff,ff,ff] rfl rfl (by kernel_rfl) (fun _ _ _ h => h) (Or.inl ⟨by rfl, ?_⟩) ?_ ?_
    rotate_left
    · intro w'
      go_simp
      with_reducible rfl
    rotate_left
    · simp only [Act.put, pkA, pkB, pkC, i64_w, i32_w]
      rfl
    refine take_ (i := 3) (N := some 14) (v := ?_) (a' := ?_) #[tt,tt,tt,tt,tt,ff,ff,ff] rfl rfl (by kernel_rfl) (fun _ _ _ h => h) (Or.inl ⟨by rfl, ?_⟩) hHeld ?_ ?_
    rotate_left
    · rintro w' ⟨s0, s1⟩
      go_simp
      with_reducible rfl
    rotate_left
    · simp only [Act.put, pkA, pkB, pkC, i64_w, i32_w]
      rfl
    refine take_ (i := 5) (N := some 16) (v := ?_) (a' := ?_) #[tt,tt,tt,tt,tt,tt,ff,ff] rfl rfl (by kernel_rfl) (fun _ _ _ h => h) (Or.inl ⟨by rfl, ?_⟩) hHeld ?_ ?_
    rotate_left
    · rintro w' ⟨s0, s1⟩
      go_simp
      with_reducible rfl
    rotate_left
    · simp only [Act.put, pkA, pkB, pkC, i64_w, i32_w]
      rfl
    refine last_ (i := 6) (N := some 17) #[tt,tt,tt,tt,tt,tt,tt,ff] rfl rfl (by kernel_rfl) (by decide) (fun K hK => ?_)
    refine goes_ Tryz.func44 (by kernel_rfl) rfl #[.pointer (some ⟨p, 0, none⟩), .string o.f1] (by rfl) rfl rfl (by simp only [List.map_toArray, List.map_cons, List.map_nil]; rfl) ?_
    with_reducible refine (HRm.out W2 HO2.out).mono ?_
    rintro e W3 ⟨rfl, hd, ht⟩
    refine ⟨_, rfl, ?_⟩
    have HO3 := Aside0.mk (HO2.out.next hd ht)
    clear hd ht
    refine hK.out _ _ ?_
    clear hK K
    refine norm_ (a' := ?_) ?_ ?_
    rotate_left
    · show Act.put _ (some 17) _ = _
      simp only [Act.put, pkA, pkB, pkC, i64_w, i32_w]
      rfl
    refine pure_ (i := 7) (N := some 5) (v := ?_) (a' := ?_) #[tt,tt,tt,tt,tt,tt,tt,tt] rfl rfl (by kernel_rfl) (fun _ _ _ h => h) (Or.inl ⟨by rfl, ?_⟩) ?_ ?_
    rotate_left
    · intro w'
      go_simp
      with_reducible rfl
    rotate_left
    · simp only [Act.put, pkA, pkB, pkC, i64_w, i32_w]
      rfl
    refine done_ (by kernel_rfl) ?_
    have c5 := HO3.out.errs.errs.var 5 (by simp [dErr])
    rw [gNone5] at c5
    cases r with
    | none =>
      rw [errV_none]
      go_wp2
      go_ret
      rw [show rr = (none, D1) by rw [HRR.out]; unfold removeL; rw [HRE.out]; rfl]
      exact ⟨rfl, HO3.out.disk, HO3.out.turn⟩
    | some x =>
      rw [errV_some]
      by_cases h5 : x = 5
      · subst h5
        go_wp2_with (go_at_call 75; refine (is_same _ W3).mono ?_; rintro e W4 ⟨rfl, rfl⟩)
        go_ret
        rw [show rr = (none, D1) by rw [HRR.out]; unfold removeL; rw [HRE.out]; rfl]
        exact ⟨rfl, HO3.out.disk, HO3.out.turn⟩
      · have H5 := Aside0.mk h5
        clear h5
        go_wp2_with (go_at_call 75; refine (is_no HO3.out.errs x 5 (HI.out x rfl) (by simp [dErr]) H5.out).mono ?_; rintro e W4 ⟨rfl, rfl⟩)
        go_ret
        rw [show rr = (some x, D1) by rw [HRR.out]; unfold removeL; rw [HRE.out]; exact if_neg (fun e => H5.out (Option.some.inj e))]
        exact ⟨rfl, HO3.out.disk, HO3.out.turn⟩
  · have e3 : (o.f0 == 3) = false := by simpa using h3
    obtain ⟨m1, D1, hm⟩ : ∃ m1 D1, madeL D o.f1 o.f2 (o.f0 == 2) = (m1, D1) := ⟨_, _, rfl⟩
    have eD : doL D o = andThen (m1, D1) fun D1 => andThen (putL D1 o.f1 o.f3) fun D2 => syncD D2 o.f1 := by unfold doL; rw [if_neg h3, hm]
    rw [eD]
    have HQ := Aside0.mk (kq_made HK.out o.f1 o.f2 (o.f0 == 2))
    have HMd := Aside0.mk (fun (U : World) (hu : OW B w p l w.heap.size dead o A c E D U) => made_calls hu.log hu.disk hu.errs HK.out (by omega) o.f1 hs o.f2 (o.f0 == 2))
    rw [hm] at HQ HMd
    clear eD h3 hm
    obtain ⟨a2, ha2⟩ : ∃ a2, a2 = (o.f0 == 2) := ⟨_, rfl⟩
    rw [← ha2] at HMd
    have k0 := HO.out.cell 0 _ rfl
    have k1 := HO.out.cell 1 _ rfl
    have k2 := HO.out.cell 2 _ rfl
    go_enter Tryz.func124, Tryz.ntmps124
    go_upto_region 6 with (fail)
    generalize w.alloc (.cells #[.int .i64 o.f0, .string o.f1, .int .i64 o.f2, .slice A o.f3.length c] 62) = W1 at HO k0 k1 k2 ⊢
    cases m1 with
    | some x =>
      rw [errV_some] at HMd
      go_wp2_with (go_at_call 139; rw [← ha2]; refine (HMd.out W1 HO.out).mono ?_; rintro e W3 ⟨rfl, hd, ht⟩; have HO3 := Aside0.mk (HO.out.next hd ht); clear hd ht)
      go_ret
      exact ⟨rfl, HO3.out.disk, HO3.out.turn⟩
    | none =>
      rw [errV_none] at HMd
      go_upto_region 9 with (go_at_call 139; rw [← ha2]; refine (HMd.out W1 HO.out).mono ?_; rintro e W3 ⟨rfl, hd, ht⟩; have HO3 := Aside0.mk (HO.out.next hd ht); clear hd ht)
      have HW3 := Aside0.mk HQ.out.ok
      have HS3 := Aside0.mk (show D1.steps ≤ 999999100 by have := HQ.out.steps; omega)
      by_cases hz : o.f3.length = 0
      · have t1 : decide ((0 : Int) < (o.f3.length : Int)) = false := decide_eq_false (by omega)
        have t1' : decide (0 < o.f3.length) = false := decide_eq_false (by omega)
        have HP := Aside0.mk (show putL D1 o.f1 o.f3 = (none, D1) from if_pos hz)
        have k3 := HO3.out.cell 3 _ rfl
        clear hz
        go_upto_region 13 with (fail)
        refine start_ (n := 8) (S := fun w' => w'.cell? ⟨l, 0, none⟩ = some (.pointer (some ⟨p, 0, none⟩)) ∧ w'.cell? ⟨w.heap.size, 1, none⟩ = some (.string o.f1)) (ds := [6]) #[ff,ff,ff,ff,ff,ff,ff,ff] (by kernel_rfl) rfl rfl ⟨(HO3.out.log.disk), (HO3.out.cell 1 _ rfl)⟩ (fun hHeld => ?_)
        have HO4 := Aside0.mk HO3.out.drew
        generalize W3.drew = W4 at HO4 hHeld ⊢
        refine pure_ (i := 0) (N := some 55) (v := ?_) (a' := ?_) #[tt,ff,ff,ff,ff,ff,ff,ff] rfl rfl (by kernel_rfl) (fun _ _ _ h => h) (Or.inl ⟨by rfl, ?_⟩) ?_ ?_
        rotate_left
        · intro w'
          go_simp
          with_reducible rfl
        rotate_left
        · simp only [Act.put, pkA, pkB, pkC, i64_w, i32_w]
          rfl
        refine pure_ (i := 1) (N := some 56) (v := ?_) (a' := ?_) #[tt,tt,ff,ff,ff,ff,ff,ff] rfl rfl (by kernel_rfl) (fun _ _ _ h => h) (Or.inl ⟨by rfl, ?_⟩) ?_ ?_
        rotate_left
        · intro w'
          go_simp
          with_reducible rfl
        rotate_left
        · simp only [Act.put, pkA, pkB, pkC, i64_w, i32_w]
          rfl
        refine pure_ (i := 2) (N := some 57) (v := ?_) (a' := ?_) #[tt,tt,tt,ff,ff,ff,ff,ff] rfl rfl (by kernel_rfl) (fun _ _ _ h => h) (Or.inl ⟨by rfl, ?_⟩) ?_ ?_
        rotate_left
        · intro w'
          go_simp
          with_reducible rfl
        rotate_left
        · simp only [Act.put, pkA, pkB, pkC, i64_w, i32_w]
          rfl
        refine pure_ (i := 4) (N := some 59) (v := ?_) (a' := ?_) #[tt,tt,tt,ff,tt,ff,ff,ff] rfl rfl (by kernel_rfl) (fun _ _ _ h => h) (Or.inl ⟨by rfl, ?_⟩) ?_ ?_
        rotate_left
        · intro w'
          go_simp
          with_reducible rfl
        rotate_left
        · simp only [Act.put, pkA, pkB, pkC, i64_w, i32_w]
          rfl
        refine take_ (i := 3) (N := some 58) (v := ?_) (a' := ?_) #[tt,tt,tt,tt,tt,ff,ff,ff] rfl rfl (by kernel_rfl) (fun _ _ _ h => h) (Or.inl ⟨by rfl, ?_⟩) hHeld ?_ ?_
        rotate_left
        · rintro w' ⟨s0, s1⟩
          go_simp
          with_reducible rfl
        rotate_left
        · simp only [Act.put, pkA, pkB, pkC, i64_w, i32_w]
          rfl
        refine take_ (i := 5) (N := some 60) (v := ?_) (a' := ?_) #[tt,tt,tt,tt,tt,tt,ff,ff] rfl rfl (by kernel_rfl) (fun _ _ _ h => h) (Or.inl ⟨by rfl, ?_⟩) hHeld ?_ ?_
        rotate_left
        · rintro w' ⟨s0, s1⟩
          go_simp
          with_reducible rfl
        rotate_left
        · simp only [Act.put, pkA, pkB, pkC, i64_w, i32_w]
          rfl
        refine last_ (i := 6) (N := some 61) #[tt,tt,tt,tt,tt,tt,tt,ff] rfl rfl (by kernel_rfl) (by decide) (fun K hK => ?_)
        refine goes_ Tryz.func46 (by kernel_rfl) rfl #[.pointer (some ⟨p, 0, none⟩), .string o.f1] (by rfl) rfl rfl (by simp only [List.map_toArray, List.map_cons, List.map_nil]; rfl) ?_
        with_reducible refine (sync_calls (h := HO4.out.disk) (hE := HO4.out.errs) (hk := HW3.out) (hst := by have := HS3.out; omega) (s := o.f1) (hs := hs)).mono ?_
        rintro e W5 ⟨rfl, hd, ht⟩
        refine ⟨_, rfl, ?_⟩
        have HO5 := Aside0.mk (HO4.out.next hd ht)
        clear hd ht
        refine hK.out _ _ ?_
        clear hK K
        refine norm_ (a' := ?_) ?_ ?_
        rotate_left
        · show Act.put _ (some 61) _ = _
          simp only [Act.put, pkA, pkB, pkC, i64_w, i32_w]
          rfl
        refine pure_ (i := 7) (N := some 4) (v := ?_) (a' := ?_) #[tt,tt,tt,tt,tt,tt,tt,tt] rfl rfl (by kernel_rfl) (fun _ _ _ h => h) (Or.inl ⟨by rfl, ?_⟩) ?_ ?_
        rotate_left
        · intro w'
          go_simp
          with_reducible rfl
        rotate_left
        · simp only [Act.put, pkA, pkB, pkC, i64_w, i32_w]
          rfl
        refine done_ (by kernel_rfl) ?_
        go_wp2
        go_ret
        rw [andThen_none rfl, HP.out, andThen_none rfl]
        exact ⟨rfl, HO5.out.disk, HO5.out.turn⟩
      · have t1 : decide ((0 : Int) < (o.f3.length : Int)) = true := decide_eq_true (by omega)
        have t1' : decide (0 < o.f3.length) = true := decide_eq_true (by omega)
        have k3 := HO3.out.cell 3 _ rfl
        obtain ⟨m2, D2, hm2⟩ : ∃ m2 D2, appendD D1 o.f1 o.f3 = (m2, D2) := ⟨_, _, rfl⟩
        have HP := Aside0.mk (show putL D1 o.f1 o.f3 = (m2, D2) from (if_neg hz).trans hm2)
        have HQ2 := Aside0.mk (Kq.of (kp_append HW3.out o.f1 o.f3))
        rw [hm2] at HQ2
        have HAp := Aside0.mk (fun (U : World) (hu : OW B w p l w.heap.size dead o A c E D1 U) => append_calls (h := hu.disk) (hE := hu.errs) (hk := HW3.out) (hst := by have := HS3.out; omega) (s := o.f1) (hs := hs) (A0 := A) (c0 := c) (b := o.f3) (hC := HC.out U hu.turn) (hc0 := hc) (hbl := hbl))
        rw [hm2] at HAp
        clear hz hm2
        go_upto_region 10 with (fail)
        refine start_ (n := 10) (S := fun w' => w'.cell? ⟨l, 0, none⟩ = some (.pointer (some ⟨p, 0, none⟩)) ∧ w'.cell? ⟨w.heap.size, 1, none⟩ = some (.string o.f1) ∧ w'.cell? ⟨w.heap.size, 3, none⟩ = some (.slice A o.f3.length c)) (ds := [8]) #[ff,ff,ff,ff,ff,ff,ff,ff,ff,ff] (by kernel_rfl) rfl rfl ⟨(HO3.out.log.disk), (HO3.out.cell 1 _ rfl), (HO3.out.cell 3 _ rfl)⟩ (fun hHeld => ?_)
        have HO4 := Aside0.mk HO3.out.drew
        generalize W3.drew = W4 at HO4 hHeld ⊢
        refine pure_ (i := 0) (N := some 43) (v := ?_) (a' := ?_) #[tt,ff,ff,ff,ff,ff,ff,ff,ff,ff] rfl rfl (by kernel_rfl) (fun _ _ _ h => h) (Or.inl ⟨by rfl, ?_⟩) ?_ ?_
        rotate_left
        · intro w'
          go_simp
          with_reducible rfl
        rotate_left
        · simp only [Act.put, pkA, pkB, pkC, i64_w, i32_w]
          rfl
        refine pure_ (i := 1) (N := some 44) (v := ?_) (a' := ?_) #[tt,tt,ff,ff,ff,ff,ff,ff,ff,ff] rfl rfl (by kernel_rfl) (fun _ _ _ h => h) (Or.inl ⟨by rfl, ?_⟩) ?_ ?_
        rotate_left
        · intro w'
          go_simp
          with_reducible rfl
        rotate_left
        · simp only [Act.put, pkA, pkB, pkC, i64_w, i32_w]
          rfl
        refine pure_ (i := 2) (N := some 45) (v := ?_) (a' := ?_) #[tt,tt,tt,ff,ff,ff,ff,ff,ff,ff] rfl rfl (by kernel_rfl) (fun _ _ _ h => h) (Or.inl ⟨by rfl, ?_⟩) ?_ ?_
        rotate_left
        · intro w'
          go_simp
          with_reducible rfl
        rotate_left
        · simp only [Act.put, pkA, pkB, pkC, i64_w, i32_w]
          rfl
        refine pure_ (i := 4) (N := some 47) (v := ?_) (a' := ?_) #[tt,tt,tt,ff,tt,ff,ff,ff,ff,ff] rfl rfl (by kernel_rfl) (fun _ _ _ h => h) (Or.inl ⟨by rfl, ?_⟩) ?_ ?_
        rotate_left
        · intro w'
          go_simp
          with_reducible rfl
        rotate_left
        · simp only [Act.put, pkA, pkB, pkC, i64_w, i32_w]
          rfl
        refine pure_ (i := 6) (N := some 49) (v := ?_) (a' := ?_) #[tt,tt,tt,ff,tt,ff,tt,ff,ff,ff] rfl rfl (by kernel_rfl) (fun _ _ _ h => h) (Or.inl ⟨by rfl, ?_⟩) ?_ ?_
        rotate_left
        · intro w'
          go_simp
          with_reducible rfl
        rotate_left
        · simp only [Act.put, pkA, pkB, pkC, i64_w, i32_w]
          rfl
        refine take_ (i := 3) (N := some 46) (v := ?_) (a' := ?_) #[tt,tt,tt,tt,tt,ff,tt,ff,ff,ff] rfl rfl (by kernel_rfl) (fun _ _ _ h => h) (Or.inl ⟨by rfl, ?_⟩) hHeld ?_ ?_
        rotate_left
        · rintro w' ⟨s0, s1, s2⟩
          go_simp
          with_reducible rfl
        rotate_left
        · simp only [Act.put, pkA, pkB, pkC, i64_w, i32_w]
          rfl
        refine take_ (i := 5) (N := some 48) (v := ?_) (a' := ?_) #[tt,tt,tt,tt,tt,tt,tt,ff,ff,ff] rfl rfl (by kernel_rfl) (fun _ _ _ h => h) (Or.inl ⟨by rfl, ?_⟩) hHeld ?_ ?_
        rotate_left
        · rintro w' ⟨s0, s1, s2⟩
          go_simp
          with_reducible rfl
        rotate_left
        · simp only [Act.put, pkA, pkB, pkC, i64_w, i32_w]
          rfl
        refine take_ (i := 7) (N := some 50) (v := ?_) (a' := ?_) #[tt,tt,tt,tt,tt,tt,tt,tt,ff,ff] rfl rfl (by kernel_rfl) (fun _ _ _ h => h) (Or.inl ⟨by rfl, ?_⟩) hHeld ?_ ?_
        rotate_left
        · rintro w' ⟨s0, s1, s2⟩
          go_simp
          with_reducible rfl
        rotate_left
        · simp only [Act.put, pkA, pkB, pkC, i64_w, i32_w]
          rfl
        refine last_ (i := 8) (N := some 51) #[tt,tt,tt,tt,tt,tt,tt,tt,tt,ff] rfl rfl (by kernel_rfl) (by decide) (fun K hK => ?_)
        refine goes_ Tryz.func36 (by kernel_rfl) rfl #[.pointer (some ⟨p, 0, none⟩), .string o.f1, .slice A o.f3.length c] (by rfl) rfl rfl (by simp only [List.map_toArray, List.map_cons, List.map_nil]; rfl) ?_
        with_reducible refine (HAp.out W4 HO4.out).mono ?_
        rintro e W5 ⟨rfl, hd, ht⟩
        refine ⟨_, rfl, ?_⟩
        have HO5 := Aside0.mk (HO4.out.next hd ht)
        clear hd ht
        refine hK.out _ _ ?_
        clear hK K
        refine norm_ (a' := ?_) ?_ ?_
        rotate_left
        · show Act.put _ (some 51) _ = _
          simp only [Act.put, pkA, pkB, pkC, i64_w, i32_w]
          rfl
        refine pure_ (i := 9) (N := some 7) (v := ?_) (a' := ?_) #[tt,tt,tt,tt,tt,tt,tt,tt,tt,tt] rfl rfl (by kernel_rfl) (fun _ _ _ h => h) (Or.inl ⟨by rfl, ?_⟩) ?_ ?_
        rotate_left
        · intro w'
          go_simp
          with_reducible rfl
        rotate_left
        · simp only [Act.put, pkA, pkB, pkC, i64_w, i32_w]
          rfl
        refine done_ (by kernel_rfl) ?_
        cases m2 with
        | some x =>
          rw [errV_some]
          go_wp2
          go_ret
          rw [andThen_none rfl, HP.out, andThen_some rfl]
          exact ⟨rfl, HO5.out.disk, HO5.out.turn⟩
        | none =>
          rw [errV_none]
          go_upto_region 13 with (fail)
          refine start_ (n := 8) (S := fun w' => w'.cell? ⟨l, 0, none⟩ = some (.pointer (some ⟨p, 0, none⟩)) ∧ w'.cell? ⟨w.heap.size, 1, none⟩ = some (.string o.f1)) (ds := [6]) #[ff,ff,ff,ff,ff,ff,ff,ff] (by kernel_rfl) rfl rfl ⟨(HO5.out.log.disk), (HO5.out.cell 1 _ rfl)⟩ (fun hHeld => ?_)
          have HO6 := Aside0.mk HO5.out.drew
          generalize W5.drew = W6 at HO6 hHeld ⊢
          refine pure_ (i := 0) (N := some 55) (v := ?_) (a' := ?_) #[tt,ff,ff,ff,ff,ff,ff,ff] rfl rfl (by kernel_rfl) (fun _ _ _ h => h) (Or.inl ⟨by rfl, ?_⟩) ?_ ?_
          rotate_left
          · intro w'
            go_simp
            with_reducible rfl
          rotate_left
          · simp only [Act.put, pkA, pkB, pkC, i64_w, i32_w]
            rfl
          refine pure_ (i := 1) (N := some 56) (v := ?_) (a' := ?_) #[tt,tt,ff,ff,ff,ff,ff,ff] rfl rfl (by kernel_rfl) (fun _ _ _ h => h) (Or.inl ⟨by rfl, ?_⟩) ?_ ?_
          rotate_left
          · intro w'
            go_simp
            with_reducible rfl
          rotate_left
          · simp only [Act.put, pkA, pkB, pkC, i64_w, i32_w]
            rfl
          refine pure_ (i := 2) (N := some 57) (v := ?_) (a' := ?_) #[tt,tt,tt,ff,ff,ff,ff,ff] rfl rfl (by kernel_rfl) (fun _ _ _ h => h) (Or.inl ⟨by rfl, ?_⟩) ?_ ?_
          rotate_left
          · intro w'
            go_simp
            with_reducible rfl
          rotate_left
          · simp only [Act.put, pkA, pkB, pkC, i64_w, i32_w]
            rfl
          refine pure_ (i := 4) (N := some 59) (v := ?_) (a' := ?_) #[tt,tt,tt,ff,tt,ff,ff,ff] rfl rfl (by kernel_rfl) (fun _ _ _ h => h) (Or.inl ⟨by rfl, ?_⟩) ?_ ?_
          rotate_left
          · intro w'
            go_simp
            with_reducible rfl
          rotate_left
          · simp only [Act.put, pkA, pkB, pkC, i64_w, i32_w]
            rfl
          refine take_ (i := 3) (N := some 58) (v := ?_) (a' := ?_) #[tt,tt,tt,tt,tt,ff,ff,ff] rfl rfl (by kernel_rfl) (fun _ _ _ h => h) (Or.inl ⟨by rfl, ?_⟩) hHeld ?_ ?_
          rotate_left
          · rintro w' ⟨s0, s1⟩
            go_simp
            with_reducible rfl
          rotate_left
          · simp only [Act.put, pkA, pkB, pkC, i64_w, i32_w]
            rfl
          refine take_ (i := 5) (N := some 60) (v := ?_) (a' := ?_) #[tt,tt,tt,tt,tt,tt,ff,ff] rfl rfl (by kernel_rfl) (fun _ _ _ h => h) (Or.inl ⟨by rfl, ?_⟩) hHeld ?_ ?_
          rotate_left
          · rintro w' ⟨s0, s1⟩
            go_simp
            with_reducible rfl
          rotate_left
          · simp only [Act.put, pkA, pkB, pkC, i64_w, i32_w]
            rfl
          refine last_ (i := 6) (N := some 61) #[tt,tt,tt,tt,tt,tt,tt,ff] rfl rfl (by kernel_rfl) (by decide) (fun K hK => ?_)
          refine goes_ Tryz.func46 (by kernel_rfl) rfl #[.pointer (some ⟨p, 0, none⟩), .string o.f1] (by rfl) rfl rfl (by simp only [List.map_toArray, List.map_cons, List.map_nil]; rfl) ?_
          with_reducible refine (sync_calls (h := HO6.out.disk) (hE := HO6.out.errs) (hk := HQ2.out.ok) (hst := by have := HS3.out; have := HQ2.out.steps; omega) (s := o.f1) (hs := hs)).mono ?_
          rintro e W7 ⟨rfl, hd, ht⟩
          refine ⟨_, rfl, ?_⟩
          have HO7 := Aside0.mk (HO6.out.next hd ht)
          clear hd ht
          refine hK.out _ _ ?_
          clear hK K
          refine norm_ (a' := ?_) ?_ ?_
          rotate_left
          · show Act.put _ (some 61) _ = _
            simp only [Act.put, pkA, pkB, pkC, i64_w, i32_w]
            rfl
          refine pure_ (i := 7) (N := some 4) (v := ?_) (a' := ?_) #[tt,tt,tt,tt,tt,tt,tt,tt] rfl rfl (by kernel_rfl) (fun _ _ _ h => h) (Or.inl ⟨by rfl, ?_⟩) ?_ ?_
          rotate_left
          · intro w'
            go_simp
            with_reducible rfl
          rotate_left
          · simp only [Act.put, pkA, pkB, pkC, i64_w, i32_w]
            rfl
          refine done_ (by kernel_rfl) ?_
          go_wp2
          go_ret
          rw [andThen_none rfl, HP.out, andThen_none rfl]
          exact ⟨rfl, HO7.out.disk, HO7.out.turn⟩
end Go.Proofs.YtpcfnkmljchiiaaGreatDoor.ODo
end
section
/- Log.all: the operations of a change, one behind the other. -/
namespace Go.Proofs.YtpcfnkmljchiiaaGreatDoor.OAll
open Go Go.RowKit Go.Maps Go.WideMaps Go.Proofs.YtpcfnkmljchiiaaGreatDoorW.PrintWords Go.Proofs.YtpcfnkmljchiiaaGreatDoorW.PrintLast Go.Proofs.YtpcfnkmljchiiaaGreatDoorW.PrintMore DBase DPl DAt DEnt DNam Go.Proofs.YtpcfnkmljchiiaaGreatDoor.Is DFil DUsd DChg DCg DStp DCh2 DBy DOps DSyn DSd DCr DAk Go.Proofs.YtpcfnkmljchiiaaGreatDoor.OPl Go.Proofs.YtpcfnkmljchiiaaGreatDoor.OSz Go.Proofs.YtpcfnkmljchiiaaGreatDoor.OMade Go.Proofs.YtpcfnkmljchiiaaGreatDoor.ODo
/-- An operation's cells. -/
structure OpAt (W : World) (ad : Addr) (o : Rop) (A : Option Addr) (c : Nat) : Prop where
  c0 : W.cell? ad = some (.int .i64 o.f0)
  c1 : W.cell? ⟨ad.block, ad.off + 1, none⟩ = some (.string o.f1)
  c2 : W.cell? ⟨ad.block, ad.off + 2, none⟩ = some (.int .i64 o.f2)
  c3 : W.cell? ⟨ad.block, ad.off + 3, none⟩ = some (.slice A o.f3.length c)
/-- Operations lie here, whatever the disk does. -/
def OpsAt (B : Nat) (w : World) (A : Option Addr) (L : List Rop) : Prop :=
  ∀ (j : Nat) (o : Rop), L[j]? = some o → ∃ ad A3 c3, A = some ad ∧ o.f3.length ≤ c3 ∧ ∀ V, Turn B w V → OpAt V (ad.add (j * 4)) o A3 c3 ∧ Kd.C kb V A3 o.f3.length o.f3
variable {B : Bx} {p l : Nat} {dead : Bool} {D D1 : Dsk} {E : Int → Addr} {w W V : World} {A : Option Addr} {c : Nat} {L : List Rop}
theorem OpsAt.turn {B : Nat} (h : OpsAt B w A L) (ht : Turn B w W) : OpsAt B W A L := fun j o hj => by
  obtain ⟨ad, A3, c3, e, hc, hv⟩ := h j o hj
  exact ⟨ad, A3, c3, e, hc, fun V hV => hv V (ht.trans hV)⟩
/-- Operations whose names and bytes are not too long. -/
def OpsFew (L : List Rop) : Prop := L.length ≤ 1000000 ∧ ∀ o ∈ L, o.f1.size < 9223372036854775807 ∧ o.f3.length ≤ 1000000
/-- What the loop carries. -/
structure AW (B : Bx) (w : World) (p l : Nat) (dead : Bool) (E : Int → Addr) (L : List Rop) (D : Dsk) (j : Nat) (D1 : Dsk) (W : World) : Prop where
  turn : Turn B w W
  errs : ErrAt B W E
  disk : DiskAt B W p D1
  log : LogAt W l p dead
  ok : D1.Ok
  steps : D1.steps ≤ D.steps + 3 * j
  eq : allL L D = allL (L.drop j) D1
theorem AW.next {j : Nat} {D2 : Dsk} (h : AW B w p l dead E L D j D1 W) (ht : Turn B W V) (hd : DiskAt B V p D2) (hk : D2.Ok) (hs : D2.steps ≤ D1.steps + 3) (he : allL (L.drop j) D1 = allL (L.drop (j + 1)) D2) : AW B w p l dead E L D (j + 1) D2 V :=
  ⟨h.turn.trans ht, h.errs.turn ht, hd, h.log.turn ht, hk, by have := h.steps; omega, h.eq.trans he⟩
set_option maxRecDepth 100000 in
set_option maxHeartbeats 8000000 in
theorem all_calls (hl : LogAt w l p dead) (h : DiskAt B w p D) (hE : ErrAt B w E) (hk : D.Ok) (hst : D.steps ≤ 900000000) (hO : OpsAt B w A L) (hF : OpsFew L) (hc : L.length ≤ c) :
    Calls Tryz.prog 88 #[.pointer (some ⟨l, 0, none⟩), .slice A L.length c] w fun e w' => e = .returned (errV E (allL L D).1) ∧ DiskAt B w' p (allL L D).2 ∧ Turn B w w' := by
  have HO := Aside0.mk hO
  have HF := Aside0.mk hF
  have HA0 := Aside0.mk (show AW B w p l dead E L D 0 D w from ⟨Turn.refl _ _, hE, h, hl, hk, by omega, by rw [List.drop_zero]⟩)
  have hLl : L.length ≤ 1000000 := hF.1
  obtain ⟨R, hR⟩ : ∃ R, R = allL L D := ⟨_, rfl⟩
  rw [← hR]
  have HR := Aside0.mk hR
  clear h hE hl hk hO hF hR
  go_enter Tryz.func88, Tryz.ntmps88
  go_wp2
  go_loopw [10] (fun ix wx => ∃ (j : Nat) (D1 : Dsk), j ≤ L.length ∧ ix = .int .i64 j ∧ Aside0 (AW B w p l dead E L D j D1 wx)) (fun ix _ => L.length - (Go.RowKit.intOf ix).toNat)
  case atStart => exact ⟨0, D, Nat.zero_le _, rfl, HA0⟩
  case round =>
    obtain ⟨j, D1, hj, rfl, HA⟩ := hrel
    clear HA0
    by_cases hlt : j < L.length
    · have t3 : decide (j < L.length) = true := decide_eq_true hlt
      have t3' : decide ((j : Int) < (L.length : Int)) = true := decide_eq_true (by omega)
      obtain ⟨o, ho⟩ : ∃ o, L[j]? = some o := ⟨_, List.getElem?_eq_getElem hlt⟩
      obtain ⟨ad, A3, c3, rfl, hc3, hv⟩ := HO.out j o ho
      obtain ⟨x0, x1, x2, x3⟩ := (hv wr HA.out.turn).1
      have HV := Aside0.mk (fun (V : World) (hV : Turn B w V) => (hv V hV).2)
      have HC3 := Aside0.mk hc3
      have HFo := Aside0.mk (HF.out.2 o (List.mem_of_getElem? ho))
      have HD := Aside0.mk (show L.drop j = o :: L.drop (j + 1) by rw [List.drop_eq_getElem_cons hlt, (List.getElem?_eq_some_iff.1 ho).2])
      clear ho hv hc3
      have a0 : (0 : Int) ≤ (j : Int) := by omega
      have a1 : (j : Int) < (L.length : Int) := by omega
      go_upto_region 4 with (first | ((with_reducible refine gate_dst (N := 6) rfl ?_); refine box_event ?hg (N := 6) ?hd (cs := #[.int .i64 0, .string (⟨#[]⟩ : ByteArray), .int .i64 0, .slice none 0 0]) (t := 62) ?hr ?_; (case hd => rfl); (case hg => rfl); (case hr => first | (go_simp; done) | (go_simp; rfl)); intro gb hg w13 hbox hb; have HBk := Aside0.mk hbox; have HGb := Aside0.mk (show wr.heap.size ≤ gb by rw [hg]; exact Nat.le_refl _); have HB13 := Aside0.mk hb; clear hb hbox hg; have hcz0 : w13.cell? ⟨gb, 0, none⟩ = some (.int .i64 0) := (blk_cell HBk.out 0).trans rfl; have hcz1 : w13.cell? ⟨gb, 1, none⟩ = some (.string (⟨#[]⟩ : ByteArray)) := (blk_cell HBk.out 1).trans rfl; have hcz2 : w13.cell? ⟨gb, 2, none⟩ = some (.int .i64 0) := (blk_cell HBk.out 2).trans rfl; have hcz3 : w13.cell? ⟨gb, 3, none⟩ = some (.slice none 0 0) := (blk_cell HBk.out 3).trans rfl; have hfz0 := blk_frozen HBk.out 0; have hfz1 := blk_frozen HBk.out 1; have hfz2 := blk_frozen HBk.out 2; have hfz3 := blk_frozen HBk.out 3))
      have HB14 := Aside0.mk (show Below wr.heap.size wr ((((w13.setCell ⟨gb, 0, none⟩ (.int .i64 o.f0)).setCell ⟨gb, 1, none⟩ (.string o.f1)).setCell ⟨gb, 2, none⟩ (.int .i64 o.f2)).setCell ⟨gb, 3, none⟩ (.slice A3 o.f3.length c3)) from (((HB13.out.setCell HGb.out _).setCell HGb.out _).setCell HGb.out _).setCell HGb.out _)
      have HK14 := Aside0.mk (show ((((w13.setCell ⟨gb, 0, none⟩ (.int .i64 o.f0)).setCell ⟨gb, 1, none⟩ (.string o.f1)).setCell ⟨gb, 2, none⟩ (.int .i64 o.f2)).setCell ⟨gb, 3, none⟩ (.slice A3 o.f3.length c3)).heap[gb]? = some (.cells #[.int .i64 o.f0, .string o.f1, .int .i64 o.f2, .slice A3 o.f3.length c3] 62 (0, 0)) from blk_put (blk_put (blk_put (blk_put HBk.out 0 _ rfl) 1 _ rfl) 2 _ rfl) 3 _ rfl)
      clear hcz0 hcz1 hcz2 hcz3 hfz0 hfz1 hfz2 hfz3 HBk HB13 x0 x1 x2 x3
      generalize ((((w13.setCell ⟨gb, 0, none⟩ (.int .i64 o.f0)).setCell ⟨gb, 1, none⟩ (.string o.f1)).setCell ⟨gb, 2, none⟩ (.int .i64 o.f2)).setCell ⟨gb, 3, none⟩ (.slice A3 o.f3.length c3)) = w14 at HB14 HK14 ⊢
      have d0 := (blk_cell HK14.out 0).trans (rfl : _ = some (Value.int .i64 o.f0))
      have d1 := (blk_cell HK14.out 1).trans (rfl : _ = some (Value.string o.f1))
      have d2 := (blk_cell HK14.out 2).trans (rfl : _ = some (Value.int .i64 o.f2))
      have d3 := (blk_cell HK14.out 3).trans (rfl : _ = some (Value.slice A3 o.f3.length c3))
      have HT14 := Aside0.mk (Turn.of_below (B := B) HB14.out)
      obtain ⟨m1, D2, hm⟩ : ∃ m1 D2, doL D1 o = (m1, D2) := ⟨_, _, rfl⟩
      have HQ := Aside0.mk (kq_do HA.out.ok o)
      have HDo := Aside0.mk (do_calls (B := B) (D := D1) (E := E) (w := w14) (o := o) (A := A3) (c := c3) (HA.out.log.turn HT14.out) (HA.out.disk.below HB14.out) (HA.out.errs.turn HT14.out) HA.out.ok (by have := HA.out.steps; omega) HFo.out.1 (fun V hV => HV.out V (HA.out.turn.trans (HT14.out.trans hV))) HC3.out HFo.out.2)
      have HAt := Aside0.mk (show allL (L.drop j) D1 = andThen (m1, D2) (allL (L.drop (j + 1))) by rw [HD.out]; show andThen (doL D1 o) _ = _; rw [hm])
      rw [hm] at HDo HQ
      clear hm
      cases m1 with
      | some x =>
        rw [errV_some] at HDo
        go_wp2_with (go_at_call 124; refine HDo.out.mono ?_; rintro e w15 ⟨rfl, hd, ht⟩; have HR5 := Aside0.mk (And.intro hd (HA.out.turn.trans (HT14.out.trans ht))); clear hd ht)
        go_ret
        rw [show R = (some x, D2) by rw [HR.out, HA.out.eq, HAt.out]; rfl]
        exact ⟨rfl, HR5.out⟩
      | none =>
        rw [errV_none] at HDo
        go_wp2_with (go_at_call 124; refine HDo.out.mono ?_; rintro e w15 ⟨rfl, hd, ht⟩; have HA5 := Aside0.mk (HA.out.next (HT14.out.trans ht) hd HQ.out.ok HQ.out.steps HAt.out); clear hd ht)
        exact ⟨⟨j + 1, D2, by omega, by simp, HA5⟩, by simp [Go.RowKit.intOf]; omega⟩
    · have t3 : decide (j < L.length) = false := decide_eq_false hlt
      have t3' : decide ((j : Int) < (L.length : Int)) = false := decide_eq_false (by omega)
      have l0 := HA.out.log.disk
      have HE := Aside0.mk (show R = syncDirD D1 by rw [HR.out, HA.out.eq, List.drop_eq_nil_of_le (by omega)]; rfl)
      go_wp2_with (go_at_call 35; refine (syncDir_calls (h := HA.out.disk) (hE := HA.out.errs) (hk := HA.out.ok) (hst := by have := HA.out.steps; omega)).mono ?_; rintro e w5 ⟨rfl, hd, ht⟩; have HR5 := Aside0.mk (And.intro hd (HA.out.turn.trans ht)); clear hd ht)
      go_ret
      rw [HE.out]
      exact ⟨rfl, HR5.out⟩
end Go.Proofs.YtpcfnkmljchiiaaGreatDoor.OAll
end
section
/- redo.right: which names a log's files may have. -/
namespace Go.Proofs.YtpcfnkmljchiiaaGreatDoor.ORight
open Go Go.RowKit Go.Proofs.YtpcfnkmljchiiaaGreatDoorW.PrintWords Right
def rightL (s : ByteArray) : Bool := rightB s && !(s.toList == ([114, 101, 100, 111] : List UInt8))
set_option maxRecDepth 100000 in
set_option maxHeartbeats 4000000 in
theorem lright_calls (s : ByteArray) (hs : s.size < 9223372036854775807) (w : World) : Calls Tryz.prog 115 #[.string s] w fun e w' => e = .returned (.bool (rightL s)) ∧ Below w.heap.size w w' := by
  obtain ⟨r, hr⟩ : ∃ r, r = rightL s := ⟨_, rfl⟩
  have HR := Aside0.mk hr
  rw [← hr]
  clear hr
  have hcv := Lib.run_convert_string_bytes (P := Tryz.prog) w 9 32 5 s Tryz.underlying9 Tryz.underlying32 Tryz.underlying5
  obtain ⟨cap, hcap⟩ : ∃ c, c = grownCap w s.size 0 5 := ⟨_, rfl⟩
  have hcs : s.size ≤ cap := by rw [hcap]; exact grownCap_ge w _ _ _
  rw [← hcap] at hcv
  clear hcap
  have HB := Aside0.mk (bytes_below w 5 s)
  have HC := Aside0.mk (fun j hj => Lib.bytesWorld_cell w 5 s j hj)
  obtain ⟨W1, hW1⟩ : ∃ x, x = Lib.bytesWorld w 5 s := ⟨_, rfl⟩
  rw [← hW1] at hcv HB HC
  clear hW1
  go_enter Tryz.func115, Tryz.ntmps115
  go_wp2
  go_loopw [8] (fun i wr => ∃ m : Nat, m ≤ s.size ∧ i = .int .i64 m ∧ Aside0 ((s.data.toList.take m).all okC = true) ∧ wr = W1) (fun i _ => s.size - (Go.RowKit.intOf i).toNat)
  case atStart => exact ⟨0, Nat.zero_le _, rfl, ⟨by simp⟩, rfl⟩
  case round =>
    obtain ⟨m, hm, rfl, HA, rfl⟩ := hrel
    by_cases hlt : m < s.size
    · have t1 : decide ((m : Int) < (s.size : Int)) = true := decide_eq_true (by omega)
      have HT := Aside0.mk (all_take s m hlt)
      have HN := Aside0.mk (all_no s m hlt)
      have hcell := HC.out m hlt
      rw [show (s.data.toList.getD m 0) = s[m]'hlt by rw [List.getD_eq_getElem?_getD, List.getElem?_eq_getElem (by simpa using hlt)]; rfl] at hcell
      obtain ⟨x, hx⟩ : ∃ x : Int, ((s[m]'hlt).toNat : Int) = x := ⟨_, rfl⟩
      rw [hx] at hcell
      have HX := Aside0.mk (show okC (s[m]'hlt) = okI x by rw [okC, hx])
      have hw : IntKind.i64.wrap ((m : Int) + 1) = (m : Int) + 1 := IntWalk.i64_in _ ⟨by omega, by omega⟩
      clear hx
      by_cases e45 : x = 45
      · have HY : Aside0 (okI x = true) := ⟨by rw [e45]; rfl⟩
        have b45 : (x != 45) = false := by rw [e45]; rfl
        have q1 : decide (x < 97) = true := decide_eq_true (by omega)
        have q2 : decide (x < 48) = true := decide_eq_true (by omega)
        clear e45
        go_wp2
        all_goals
          go_roundw
          case rel => exact ⟨m + 1, by omega, by go_num, ⟨by rw [HT.out, HA.out, HX.out, HY.out]; rfl⟩, trivial⟩
          case measure => simp [Go.RowKit.intOf]; omega
      · by_cases e46 : x = 46
        · have HY : Aside0 (okI x = true) := ⟨by rw [e46]; rfl⟩
          have b45 : (x != 45) = true := bne_iff_ne.2 e45
          have b46 : (x != 46) = false := by rw [e46]; rfl
          have q1 : decide (x < 97) = true := decide_eq_true (by omega)
          have q2 : decide (x < 48) = true := decide_eq_true (by omega)
          clear e45 e46
          go_wp2
          all_goals
            go_roundw
            case rel => exact ⟨m + 1, by omega, by go_num, ⟨by rw [HT.out, HA.out, HX.out, HY.out]; rfl⟩, trivial⟩
            case measure => simp [Go.RowKit.intOf]; omega
        · have b45 : (x != 45) = true := bne_iff_ne.2 e45
          have b46 : (x != 46) = true := bne_iff_ne.2 e46
          have HE := Aside0.mk (And.intro e45 e46)
          clear e45 e46
          go_wp2
          all_goals first
            | (have HY : Aside0 (okI x = true) := ⟨by simp only [okI, decide_eq_true_eq]; omega⟩
               go_roundw
               case rel => exact ⟨m + 1, by omega, by go_num, ⟨by rw [HT.out, HA.out, HX.out, HY.out]; rfl⟩, trivial⟩
               case measure => simp [Go.RowKit.intOf]; omega)
            | (exfalso; rename_i hq; simp only [Bool.not_eq_eq_eq_not, Bool.not_false, decide_eq_true_eq] at hq; omega)
            | (have HZ : Aside0 (s.data.toList.all okC = false) := ⟨HN.out (HX.out.trans (by have := HE.out; simp only [okI, decide_eq_false_iff_not]; omega))⟩
               refine bodyPost_ret (v := .bool false) (by simp [results, Tryz.results115, go_sem]) rfl ⟨by rw [HR.out, rightL, rightB, HZ.out]; rfl, HB.out⟩)
    · have hms : m = s.size := by omega
      subst hms
      have t1 : decide ((s.size : Int) < (s.size : Int)) = false := decide_eq_false (by omega)
      have hall : s.data.toList.all okC = true := by
        have := HA.out
        rwa [List.take_of_length_le (by simp)] at this
      have HR2 : Aside0 (r = ((decide (0 < s.size) && decide (s.size ≤ 24)) && !(s.toList == ([114, 101, 100, 111] : List UInt8)))) := ⟨by rw [HR.out, rightL, rightB, hall, Bool.true_and]⟩
      by_cases h0 : 0 < s.size
      · by_cases h24 : s.size ≤ 24
        · have u1 : decide (1 ≤ (s.size : Int)) = true := decide_eq_true (by omega)
          have u2 : decide ((s.size : Int) ≤ 24) = true := decide_eq_true (by omega)
          cases hz : (s.toList == ([114, 101, 100, 111] : List UInt8)) with
          | true =>
            have hz2 : (s.toList != ([114, 101, 100, 111] : List UInt8)) = false := by rw [bne, hz]; rfl
            have HZ := Aside0.mk hz
            go_wp2
            go_ret
            exact ⟨by rw [HR2.out, decide_eq_true h0, decide_eq_true h24, HZ.out]; rfl, HB.out⟩
          | false =>
            have hz2 : (s.toList != ([114, 101, 100, 111] : List UInt8)) = true := by rw [bne, hz]; rfl
            have HZ := Aside0.mk hz
            go_wp2
            go_ret
            exact ⟨by rw [HR2.out, decide_eq_true h0, decide_eq_true h24, HZ.out]; rfl, HB.out⟩
        · have u1 : decide (1 ≤ (s.size : Int)) = true := decide_eq_true (by omega)
          have u2 : decide ((s.size : Int) ≤ 24) = false := decide_eq_false (by omega)
          go_wp2
          go_ret
          exact ⟨by rw [HR2.out, decide_eq_true h0, decide_eq_false h24]; rfl, HB.out⟩
      · have u1 : decide (1 ≤ (s.size : Int)) = false := decide_eq_false (by omega)
        go_wp2
        go_ret
        exact ⟨by rw [HR2.out, decide_eq_false h0]; rfl, HB.out⟩
end Go.Proofs.YtpcfnkmljchiiaaGreatDoor.ORight
end
section
/- The set of names that redo.checkOps keeps in a map. -/
namespace Go.Proofs.YtpcfnkmljchiiaaGreatDoor.OSee
open Go Go.RowKit Go.Maps Go.WideMaps Go.Proofs.YtpcfnkmljchiiaaGreatDoorW.PrintWords DPl DAt DEnt
/-- The names that are there. -/
def SeenAt (W : World) (m : Nat) (l : List ByteArray) : Prop :=
  ∃ D : DataW Unit, W.ownsMap Tryz.prog 9 (plainElem Tryz.prog 4) m l.length D ∧ ∀ k : List UInt8, D.atKey (.string k) (.lit (.bool false)) = .lit (.bool (l.any fun s => s.data.toList == k))
variable {W V : World} {m : Nat} {l : List ByteArray}
theorem SeenAt.lt (h : SeenAt W m l) : m < W.heap.size := by obtain ⟨D, h1, _⟩ := h; exact World.ownsMap.lt h1
theorem SeenAt.same (h : SeenAt W m l) (hk : V.heap[m]? = W.heap[m]?) : SeenAt V m l := by
  obtain ⟨D, ⟨es, clock, hb, F, hs, hD⟩, ha⟩ := h
  exact ⟨D, ⟨es, clock, hk.trans hb, F, hs, hD⟩, ha⟩
theorem SeenAt.below (h : SeenAt W m l) (hb : Below W.heap.size W V) : SeenAt V m l := h.same (hb.block _ h.lt)
theorem seen_new (w : World) : SeenAt (w.alloc (.map #[] 0)) w.heap.size [] :=
  ⟨_, World.ownsMap_made (H := Unit) w Tryz.prog 9 (plainElem Tryz.prog 4), fun k => rfl⟩
theorem zeroB (w : World) : (zeroValue 4).run Tryz.prog w = .ok (.bool false) w := by kernel_rfl
theorem bool_inv {v : Value} {z : DataW Unit × List MemPlace} (h : plainElem (H := Unit) Tryz.prog 4 v = some z) : ∃ x, v = .bool x ∧ z = (.lit (.bool x), []) := by
  have ht : Tryz.prog.underlying 4 = some .bool := Tryz.underlying4
  unfold plainElem at h
  rw [ht] at h
  cases v <;> simp at h
  exact ⟨_, rfl, h.symm⟩
theorem seen_look (h : SeenAt W m l) (s : ByteArray) (hs : s.size ≤ 24) : (Instr.lookup 159 (.map (some m)) (.string s) false).run Tryz.prog W = .ok (.bool (l.any fun x => x.data.toList == s.data.toList)) W := by
  obtain ⟨D, ho, ha⟩ := h
  obtain ⟨v, ps, hr, hv⟩ := ho.lookup law Tryz.underlying159 (zeroB W) (plainElem_bool Tryz.underlying4 false) (keyS s hs)
  obtain ⟨x, rfl, hz⟩ := bool_inv hv
  rw [ha] at hz
  simp only [Prod.mk.injEq, DataW.lit.injEq, Lit.bool.injEq] at hz
  rw [hr, hz.1]
theorem seen_put (h : SeenAt W m l) (s : ByteArray) (hs : s.size ≤ 24) (hl : l.length < 1000000) :
    ∃ V, (Instr.mapUpdate 159 (.map (some m)) (.string s) (.bool true)).run Tryz.prog W = .ok () V ∧ SeenAt V m (l ++ [s]) ∧ W.grownBy V (some m) := by
  obtain ⟨D, ho, ha⟩ := h
  obtain ⟨V, hr, ho2, hg⟩ := ho.update law Tryz.underlying159 (by unfold maxLen; omega) (keyS s hs) (plainElem_bool (H := Unit) Tryz.underlying4 true)
  have hm := ho.isMap
  refine ⟨V, hr, ⟨_, by rw [List.length_append]; exact ho2, fun k => ?_⟩, hg⟩
  rw [List.any_append]
  by_cases hk : s.data.toList = k
  · subst hk
    rw [Maps.atKey_put_same hm (show WideAt.IsKeyLit (.string s.data.toList) from trivial)]
    simp
  · rw [Maps.atKey_put_other (show (Lit.string k) ≠ Lit.string s.data.toList from fun e => hk (Lit.string.inj e).symm), ha]
    simp [hk]
end Go.Proofs.YtpcfnkmljchiiaaGreatDoor.OSee
end
