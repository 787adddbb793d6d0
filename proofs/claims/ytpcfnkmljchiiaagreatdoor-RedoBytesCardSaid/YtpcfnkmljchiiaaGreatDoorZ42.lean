/- Steps towards RBoth: OLb. -/
import Derived.Test.YtpcfnkmljchiiaaGreatDoorZ41
import Derived.Test.YtpcfnkmljchiiaaGreatDoorZ26
import Derived.Test.YtpcfnkmljchiiaaGreatDoorZ31
import Derived.Test.YtpcfnkmljchiiaaGreatDoorZ38
import Derived.Test.YtpcfnkmljchiiaaGreatDoorZ18
set_option linter.unusedVariables false
set_option linter.unusedSimpArgs false
/- RedoBytes: which changes are in form, what their bytes are. -/
namespace Go.Proofs.YtpcfnkmljchiiaaGreatDoor.OLb
open Go Go.RowKit Go.Maps Go.WideMaps Go.Proofs.YtpcfnkmljchiiaaGreatDoorW.PrintWords Go.Proofs.YtpcfnkmljchiiaaGreatDoorW.PrintLast Go.Proofs.YtpcfnkmljchiiaaGreatDoorW.PrintMore DPl DAt DNw Go.Proofs.YtpcfnkmljchiiaaGreatDoor.Is GPl Go.Proofs.YtpcfnkmljchiiaaGreatDoor.OPl Go.Proofs.YtpcfnkmljchiiaaGreatDoor.OChk Go.Proofs.YtpcfnkmljchiiaaGreatDoor.OEnc Go.Proofs.YtpcfnkmljchiiaaGreatDoor.OByt Go.Proofs.YtpcfnkmljchiiaaGreatDoor.ORdr Go.Proofs.YtpcfnkmljchiiaaGreatDoor.ORdb Go.Proofs.YtpcfnkmljchiiaaGreatDoor.OOps Go.Proofs.YtpcfnkmljchiiaaGreatDoor.OPar Go.Proofs.YtpcfnkmljchiiaaGreatDoor.OBr Go.Proofs.YtpcfnkmljchiiaaGreatDoor.OForm Go.Proofs.YtpcfnkmljchiiaaGreatDoor.OCom Go.Proofs.YtpcfnkmljchiiaaGreatDoor.ORow Go.Proofs.YtpcfnkmljchiiaaGreatDoor.OWf
theorem wf_B {l : List Int} (h : ∀ z ∈ l, (Lit.int .u8 z).wf = true) : Lib04.isB l := fun z hz => by
  have h9 := h z hz
  simp only [Lit.wf, IntKind.min, IntKind.max, IntKind.bits, IntKind.signed] at h9
  simp at h9
  omega
theorem checkGo_two : ∀ (l : List Rop) (seen : List ByteArray) (sz x : Int), checkGo l seen sz = some x → x = 2
  | [], seen, sz, x, h => by
    unfold checkGo at h
    split at h
    · exact (Option.some.inj h).symm
    · cases h
  | o :: r, seen, sz, x, h => by
    unfold checkGo at h
    split at h
    · exact (Option.some.inj h).symm
    · split at h
      · exact (Option.some.inj h).symm
      · exact checkGo_two r _ _ x h
theorem check_two {L : List Rop} {x : Int} (h : checkL L = some x) : x = 2 := by
  unfold checkL at h
  split at h
  · exact (Option.some.inj h).symm
  · exact checkGo_two _ _ _ x h
theorem same_f (l : List Int) : postbagnum_SameBytes.f l l = some true := by unfold postbagnum_SameBytes.f; simp
set_option maxRecDepth 100000 in
set_option maxHeartbeats 16000000 in
theorem bytes_law (L : List Rop) (A : Option Addr) (c : Nat) (E : Int → Addr) (w : World) (hE : Errs All w E) (hr : Kd.C GSix.k62 w A L.length L) (hc : L.length ≤ c) (hm : L.length ≤ reachBytes) (hq : ∀ o ∈ L, SmR o) :
    Calls Tryz.prog 4 #[.slice A L.length c] w fun e w' => e = .returned (.bool true) ∧ Below w.heap.size w w' := by
  have HE := Aside0.mk (AllAt.of hE)
  have HAl := Aside0.mk (OAlv.alive_calls w.heap.size E w (Nat.le_refl _) HE.out)
  have HC := Aside0.mk hr
  have HS := Aside0.mk hq
  have hrb : reachBytes ≤ 1000000000000000 := by decide
  obtain ⟨kl, rl, hlf, hll⟩ := long_f L hm hq
  have HLg := Aside0.mk (fun (U : World) (hU : Below w.heap.size w U) => GSix.postbaglaw06_long.calls kl A c L rl U (Kd.C_below HC.out hU) hc hlf)
  have HLl := Aside0.mk hll
  have hm2 : L.length ≤ 1000000000000000 := Nat.le_trans hm hrb
  clear hr hq hE hlf hll hm hrb
  cases rl with
  | true =>
    go_enter Tryz.func4, Tryz.ntmps4
    go_wp2_with (first
      | (go_at_call 16; refine HAl.out.mono ?_; rintro e w1 ⟨rfl, hb⟩; have HB1 := Aside0.mk hb; clear hb)
      | (go_at_call 17; refine (HLg.out _ HB1.out).mono ?_; rintro e w2 ⟨rfl, hb⟩; have HB2 := Aside0.mk (HB1.out.trans (hb.mono HB1.out.size)); clear hb))
    go_ret
    exact ⟨rfl, HB2.out⟩
  | false =>
    have hsm := HLl.out rfl
    have hl2 : L.length ≤ 20000 := by omega
    have HSm := Aside0.mk (fun (o : Rop) (ho : o ∈ L) => (show o.f1.size ≤ 20000 ∧ o.f3.length ≤ 20000 from by have := len_mem ho; omega))
    have HByt := Aside0.mk (fun (o : Rop) (ho : o ∈ L) => wf_B (HS.out o ho).byt)
    clear hsm
    obtain ⟨kf, hkf⟩ := form_f L (by omega) (fun o ho => ⟨by have := (HSm.out o ho).1; omega, by have := (HSm.out o ho).2; omega⟩)
    have HFo := Aside0.mk (fun (U : World) (hU : Below w.heap.size w U) => GSix.postbagref06_Form.calls kf A c L _ U (Kd.C_below HC.out hU) hc hkf)
    clear hkf
    have HL9 := Aside0.mk (fun (o : Rop) (ho : o ∈ L) => (show o.f1.size < 9223372036854775807 ∧ o.f3.length < 9223372036854775807 from ⟨by have := (HSm.out o ho).1; omega, by have := (HSm.out o ho).2; omega⟩))
    cases hck : checkL L with
    | some x =>
      obtain rfl := check_two hck
      have HBn := Aside0.mk (fun (U : World) (hU : Below w.heap.size w U) => bytes_no L A c w.heap.size E U 2 (HE.out.turn (Turn.of_below hU)) hU.size (Kd.C_below HC.out hU) hc (by omega) HL9.out hck)
      rw [hck, show decide ((some 2 : Option Int) = none) = false from rfl] at HFo
      have HNu := Aside0.mk (fun (U : World) (hU : Below w.heap.size w U) => num_calls (some 2) 2 E U (HE.out.turn (Turn.of_below hU)).errs rfl)
      rw [errV_some] at HBn HNu
      clear hck
      go_enter Tryz.func4, Tryz.ntmps4
      go_wp2_with (first
        | (go_at_call 16; refine HAl.out.mono ?_; rintro e w1 ⟨rfl, hb⟩; have HB1 := Aside0.mk hb; clear hb)
        | (go_at_call 17; refine (HLg.out _ HB1.out).mono ?_; rintro e w2 ⟨rfl, hb⟩; have HB2 := Aside0.mk (HB1.out.trans (hb.mono HB1.out.size)); clear hb)
        | (go_at_call 18; refine (HBn.out _ HB2.out).mono ?_; rintro e w3 ⟨rfl, hb⟩; have HB3 := Aside0.mk (HB2.out.trans (hb.mono HB2.out.size)); clear hb)
        | (go_at_call 19; refine (HFo.out _ HB3.out).mono ?_; rintro e w4 ⟨rfl, hb⟩; have HB4 := Aside0.mk (HB3.out.trans (hb.mono HB3.out.size)); clear hb)
        | (go_at_call 20; refine (HNu.out _ HB4.out).mono ?_; rintro e w5 ⟨rfl, hb⟩; have HB5 := Aside0.mk (HB4.out.trans (hb.mono HB4.out.size)); clear hb))
      go_ret
      exact ⟨rfl, HB5.out⟩
    | none =>
      have HCk := Aside0.mk (check_ok hck)
      have hL16 : L.length ≤ 16 := HCk.out.1
      have HBo := Aside0.mk (fun (U : World) (hU : Below w.heap.size w U) => bytes_ok L A c w.heap.size E U (HE.out.turn (Turn.of_below hU)) hU.size (Kd.C_below HC.out hU) hc (by omega) HL9.out hck)
      rw [hck, show decide ((none : Option Int) = none) = true from rfl] at HFo
      have HBe := Aside0.mk (show Lib04.isB (encL L) from isB_encL HByt.out)
      have HLe := Aside0.mk (check_len hck)
      have HPe := Aside0.mk (opsP_enc hck)
      have HRb := Aside0.mk (fun (U : World) (hU : Below w.heap.size w U) => rbytes_calls L A c U (Kd.C_below HC.out hU) hc (by omega) (fun o ho => ⟨by have := (HSm.out o ho).1; omega, by have := (HSm.out o ho).2; omega⟩) (fun j => by
        have h9 := encAll_len (L.take j) (fun o ho => HCk.out.2.2 o (List.mem_of_mem_take ho))
        rw [List.length_take] at h9
        omega))
      have HK := Aside0.mk hck
      clear hck
      go_enter Tryz.func4, Tryz.ntmps4
      go_upto_region 8 with (first
        | (go_at_call 16; refine HAl.out.mono ?_; rintro e w1 ⟨rfl, hb⟩; have HB1 := Aside0.mk hb; clear hb)
        | (go_at_call 17; refine (HLg.out _ HB1.out).mono ?_; rintro e w2 ⟨rfl, hb⟩; have HB2 := Aside0.mk (HB1.out.trans (hb.mono HB1.out.size)); clear hb)
        | (go_at_call 18; refine (HBo.out _ HB2.out).mono ?_; rintro e w3 ⟨v3, rfl, hv, hb⟩; have HB3 := Aside0.mk (HB2.out.trans (hb.mono HB2.out.size)); have HV3 := Aside0.mk hv; clear hv hb)
        | (go_at_call 19; refine (HFo.out _ HB3.out).mono ?_; rintro e w4 ⟨rfl, hb⟩; have HB4 := Aside0.mk (HB3.out.trans (hb.mono HB3.out.size)); have HV4 := Aside0.mk (Kd.R_below HV3.out hb); clear hb))
      obtain ⟨Ab, cb, rfl⟩ := Kd.R_slice HV4.out
      have HR4 := Aside0.mk (Kd.R_reads' HV4.out).2
      have HOp := Aside0.mk (ops_calls (encL L) Ab cb w.heap.size E w4 (HE.out.turn (Turn.of_below HB4.out)) HB4.out.size HR4.out.2 HR4.out.1 HBe.out (by have := HLe.out; omega))
      rw [HPe.out] at HOp
      go_upto_region 9 with (go_at_call 21; refine HOp.out.mono ?_; rintro e w5 ⟨ho, hb⟩; unfold OpsPost at ho; rw [if_pos ⟨rfl, rfl, HK.out⟩] at ho; obtain ⟨v5, rfl, hv⟩ := ho; have HB5 := Aside0.mk (HB4.out.trans (hb.mono HB4.out.size)); have HR5 := Aside0.mk (Kd.C_below HR4.out.2 hb); have HV5 := Aside0.mk hv; clear hv hb)
      obtain ⟨Ak, ck, rfl⟩ := Kd.R_slice HV5.out
      have HCv := Aside0.mk (fun (U : World) (hU : Below w5.heap.size w5 U) => Kd.C_string (P := Tryz.prog) (src := 32) (dst := 9) (e := 5) (w := U) (A := Ab) (c := cb) Tryz.underlying32 Tryz.underlying5 Tryz.underlying9 (Kd.C_below HR5.out hU))
      have HKb := Aside0.mk (Kd.R_reads' (show Kd.R GSix.k62 62 w5 w4.heap.size (fun _ => True) (.slice Ak L.length ck) L from HV5.out)).2
      have HBd := Aside0.mk ((Below.refl w5.heap.size w5).drew)
      refine start_ (n := 21) (S := fun w' => (convert 32 9 (.slice Ab (encL L).length cb)).run Tryz.prog w' = .ok (.string (strOfNums (encL L))) w') (ds := []) #[ff,ff,ff,ff,ff,ff,ff,ff,ff,ff,ff,ff,ff,ff,ff,ff,ff,ff,ff,ff,ff] (by kernel_rfl) rfl rfl ((HCv.out _ HBd.out)) (fun hHeld => ?_)
      generalize w5.drew = u0 at HBd hHeld ⊢
      refine pure_ (i := 0) (N := some 34) (v := ?_) (a' := ?_) #[tt,ff,ff,ff,ff,ff,ff,ff,ff,ff,ff,ff,ff,ff,ff,ff,ff,ff,ff,ff,ff] rfl rfl (by kernel_rfl) (fun _ _ _ h => h) (Or.inl ⟨by rfl, ?_⟩) ?_ ?_
      rotate_left
      · intro w'
        go_simp
        with_reducible rfl
      rotate_left
      · simp only [Act.put, pkA, pkB, pkC, i64_w, i32_w]
        rfl
      refine pure_ (i := 1) (N := some 35) (v := ?_) (a' := ?_) #[tt,tt,ff,ff,ff,ff,ff,ff,ff,ff,ff,ff,ff,ff,ff,ff,ff,ff,ff,ff,ff] rfl rfl (by kernel_rfl) (fun _ _ _ h => h) (Or.inl ⟨by rfl, ?_⟩) ?_ ?_
      rotate_left
      · intro w'
        go_simp
        with_reducible rfl
      rotate_left
      · simp only [Act.put, pkA, pkB, pkC, i64_w, i32_w]
        rfl
      refine pure_ (i := 2) (N := some 36) (v := ?_) (a' := ?_) #[tt,tt,tt,ff,ff,ff,ff,ff,ff,ff,ff,ff,ff,ff,ff,ff,ff,ff,ff,ff,ff] rfl rfl (by kernel_rfl) (fun _ _ _ h => h) (Or.inl ⟨by rfl, ?_⟩) ?_ ?_
      rotate_left
      · intro w'
        go_simp
        with_reducible rfl
      rotate_left
      · simp only [Act.put, pkA, pkB, pkC, i64_w, i32_w]
        rfl
      refine pure_ (i := 3) (N := some 37) (v := ?_) (a' := ?_) #[tt,tt,tt,tt,ff,ff,ff,ff,ff,ff,ff,ff,ff,ff,ff,ff,ff,ff,ff,ff,ff] rfl rfl (by kernel_rfl) (fun _ _ _ h => h) (Or.inl ⟨by rfl, ?_⟩) ?_ ?_
      rotate_left
      · intro w'
        go_simp
        with_reducible rfl
      rotate_left
      · simp only [Act.put, pkA, pkB, pkC, i64_w, i32_w]
        rfl
      refine pure_ (i := 4) (N := some 38) (v := ?_) (a' := ?_) #[tt,tt,tt,tt,tt,ff,ff,ff,ff,ff,ff,ff,ff,ff,ff,ff,ff,ff,ff,ff,ff] rfl rfl (by kernel_rfl) (fun _ _ _ h => h) (Or.inl ⟨by rfl, ?_⟩) ?_ ?_
      rotate_left
      · intro w'
        go_simp
        with_reducible rfl
      rotate_left
      · simp only [Act.put, pkA, pkB, pkC, i64_w, i32_w]
        rfl
      refine pure_ (i := 5) (N := some 39) (v := ?_) (a' := ?_) #[tt,tt,tt,tt,tt,tt,ff,ff,ff,ff,ff,ff,ff,ff,ff,ff,ff,ff,ff,ff,ff] rfl rfl (by kernel_rfl) (fun _ _ _ h => h) (Or.inl ⟨by rfl, ?_⟩) ?_ ?_
      rotate_left
      · intro w'
        go_simp
        with_reducible rfl
      rotate_left
      · simp only [Act.put, pkA, pkB, pkC, i64_w, i32_w]
        rfl
      refine pure_ (i := 6) (N := some 40) (v := ?_) (a' := ?_) #[tt,tt,tt,tt,tt,tt,tt,ff,ff,ff,ff,ff,ff,ff,ff,ff,ff,ff,ff,ff,ff] rfl rfl (by kernel_rfl) (fun _ _ _ h => h) (Or.inl ⟨by rfl, ?_⟩) ?_ ?_
      rotate_left
      · intro w'
        go_simp
        with_reducible rfl
      rotate_left
      · simp only [Act.put, pkA, pkB, pkC, i64_w, i32_w]
        rfl
      refine pure_ (i := 7) (N := some 41) (v := ?_) (a' := ?_) #[tt,tt,tt,tt,tt,tt,tt,tt,ff,ff,ff,ff,ff,ff,ff,ff,ff,ff,ff,ff,ff] rfl rfl (by kernel_rfl) (fun _ _ _ h => h) (Or.inl ⟨by rfl, ?_⟩) ?_ ?_
      rotate_left
      · intro w'
        go_simp
        with_reducible rfl
      rotate_left
      · simp only [Act.put, pkA, pkB, pkC, i64_w, i32_w]
        rfl
      refine pure_ (i := 9) (N := some 43) (v := ?_) (a' := ?_) #[tt,tt,tt,tt,tt,tt,tt,tt,ff,tt,ff,ff,ff,ff,ff,ff,ff,ff,ff,ff,ff] rfl rfl (by kernel_rfl) (fun _ _ _ h => h) (Or.inl ⟨by rfl, ?_⟩) ?_ ?_
      rotate_left
      · intro w'
        go_simp
        with_reducible rfl
      rotate_left
      · simp only [Act.put, pkA, pkB, pkC, i64_w, i32_w]
        rfl
      refine take_ (i := 8) (N := some 42) (v := ?_) (a' := ?_) #[tt,tt,tt,tt,tt,tt,tt,tt,tt,tt,ff,ff,ff,ff,ff,ff,ff,ff,ff,ff,ff] rfl rfl (by kernel_rfl) (fun _ _ _ h => h) (Or.inl ⟨by rfl, ?_⟩) hHeld ?_ ?_
      rotate_left
      · intro w' s0
        go_simp
        with_reducible rfl
      rotate_left
      · simp only [Act.put, pkA, pkB, pkC, i64_w, i32_w]
        rfl
      refine one_ (i := 10) (N := some 44) #[tt,tt,tt,tt,tt,tt,tt,tt,tt,tt,tt,ff,ff,ff,ff,ff,ff,ff,ff,ff,ff] rfl rfl (by kernel_rfl) (by decide) (fun K hK => ?_)
      refine goes_ Tryz.func22 (by kernel_rfl) rfl #[.slice A L.length c] (by rfl) rfl rfl (by simp only [List.map_toArray, List.map_cons, List.map_nil]; rfl) ?_
      with_reducible refine (HRb.out u0 (HB5.out.trans (HBd.out.mono HB5.out.size))).mono ?_
      rintro e u1 ⟨vb, rfl, ho, hb⟩
      refine ⟨_, rfl, ?_⟩
      obtain ⟨A6, c6, rfl⟩ := Kd.R_slice ho
      have HB6 := Aside0.mk (HBd.out.trans (hb.mono HBd.out.size))
      have cv6 := Kd.C_string (P := Tryz.prog) (src := 32) (dst := 9) (e := 5) (w := u1) (A := A6) (c := c6) Tryz.underlying32 Tryz.underlying5 Tryz.underlying9 (Kd.R_reads' ho).2.2
      clear hb ho
      refine hK.out _ _ ((HCv.out _ HB6.out)) (fun hHeld => ?_)
      clear hK K
      refine norm_ (a' := ?_) ?_ ?_
      rotate_left
      · show Act.put _ (some 44) _ = _
        simp only [Act.put, pkA, pkB, pkC, i64_w, i32_w]
        rfl
      refine one_ (i := 11) (N := some 45) #[tt,tt,tt,tt,tt,tt,tt,tt,tt,tt,tt,tt,ff,ff,ff,ff,ff,ff,ff,ff,ff] rfl rfl (by kernel_rfl) (by decide) (fun K hK => ?_)
      refine value_ (w1 := ?_) (v := ?_) (by rfl) rfl ?_ ?_
      rotate_left 2
      · go_simp
        constructor
        · rfl
        · rfl
      refine hK.out _ _ ((HCv.out _ HB6.out)) (fun hHeld => ?_)
      clear hK K
      refine norm_ (a' := ?_) ?_ ?_
      rotate_left
      · show Act.put _ (some 45) _ = _
        simp only [Act.put, pkA, pkB, pkC, i64_w, i32_w]
        rfl
      refine pure_ (i := 12) (N := some 46) (v := ?_) (a' := ?_) #[tt,tt,tt,tt,tt,tt,tt,tt,tt,tt,tt,tt,tt,ff,ff,ff,ff,ff,ff,ff,ff] rfl rfl (by kernel_rfl) (fun _ _ _ h => h) (Or.inl ⟨by rfl, ?_⟩) ?_ ?_
      rotate_left
      · intro w'
        go_simp
        with_reducible rfl
      rotate_left
      · simp only [Act.put, pkA, pkB, pkC, i64_w, i32_w]
        rfl
      refine pure_ (i := 13) (N := some 47) (v := ?_) (a' := ?_) #[tt,tt,tt,tt,tt,tt,tt,tt,tt,tt,tt,tt,tt,tt,ff,ff,ff,ff,ff,ff,ff] rfl rfl (by kernel_rfl) (fun _ _ _ h => h) (Or.inl ⟨by rfl, ?_⟩) ?_ ?_
      rotate_left
      · intro w'
        go_simp
        with_reducible rfl
      rotate_left
      · simp only [Act.put, pkA, pkB, pkC, i64_w, i32_w]
        rfl
      refine pure_ (i := 14) (N := some 48) (v := ?_) (a' := ?_) #[tt,tt,tt,tt,tt,tt,tt,tt,tt,tt,tt,tt,tt,tt,tt,ff,ff,ff,ff,ff,ff] rfl rfl (by kernel_rfl) (fun _ _ _ h => h) (Or.inl ⟨by rfl, ?_⟩) ?_ ?_
      rotate_left
      · intro w'
        go_simp
        with_reducible rfl
      rotate_left
      · simp only [Act.put, pkA, pkB, pkC, i64_w, i32_w]
        rfl
      refine pure_ (i := 15) (N := some 49) (v := ?_) (a' := ?_) #[tt,tt,tt,tt,tt,tt,tt,tt,tt,tt,tt,tt,tt,tt,tt,tt,ff,ff,ff,ff,ff] rfl rfl (by kernel_rfl) (fun _ _ _ h => h) (Or.inl ⟨by rfl, ?_⟩) ?_ ?_
      rotate_left
      · intro w'
        go_simp
        with_reducible rfl
      rotate_left
      · simp only [Act.put, pkA, pkB, pkC, i64_w, i32_w]
        rfl
      refine pure_ (i := 16) (N := some 50) (v := ?_) (a' := ?_) #[tt,tt,tt,tt,tt,tt,tt,tt,tt,tt,tt,tt,tt,tt,tt,tt,tt,ff,ff,ff,ff] rfl rfl (by kernel_rfl) (fun _ _ _ h => h) (Or.inl ⟨by rfl, ?_⟩) ?_ ?_
      rotate_left
      · intro w'
        go_simp
        with_reducible rfl
      rotate_left
      · simp only [Act.put, pkA, pkB, pkC, i64_w, i32_w]
        rfl
      refine pure_ (i := 17) (N := some 51) (v := ?_) (a' := ?_) #[tt,tt,tt,tt,tt,tt,tt,tt,tt,tt,tt,tt,tt,tt,tt,tt,tt,tt,ff,ff,ff] rfl rfl (by kernel_rfl) (fun _ _ _ h => h) (Or.inl ⟨by rfl, ?_⟩) ?_ ?_
      rotate_left
      · intro w'
        go_simp
        with_reducible rfl
      rotate_left
      · simp only [Act.put, pkA, pkB, pkC, i64_w, i32_w]
        rfl
      refine pure_ (i := 18) (N := some 52) (v := ?_) (a' := ?_) #[tt,tt,tt,tt,tt,tt,tt,tt,tt,tt,tt,tt,tt,tt,tt,tt,tt,tt,tt,ff,ff] rfl rfl (by kernel_rfl) (fun _ _ _ h => h) (Or.inl ⟨by rfl, ?_⟩) ?_ ?_
      rotate_left
      · intro w'
        go_simp
        with_reducible rfl
      rotate_left
      · simp only [Act.put, pkA, pkB, pkC, i64_w, i32_w]
        rfl
      refine pure_ (i := 19) (N := some 53) (v := ?_) (a' := ?_) #[tt,tt,tt,tt,tt,tt,tt,tt,tt,tt,tt,tt,tt,tt,tt,tt,tt,tt,tt,tt,ff] rfl rfl (by kernel_rfl) (fun _ _ _ h => h) (Or.inl ⟨by rfl, ?_⟩) ?_ ?_
      rotate_left
      · intro w'
        go_simp
        with_reducible rfl
      rotate_left
      · simp only [Act.put, pkA, pkB, pkC, i64_w, i32_w]
        rfl
      refine pure_ (i := 20) (N := some 54) (v := ?_) (a' := ?_) #[tt,tt,tt,tt,tt,tt,tt,tt,tt,tt,tt,tt,tt,tt,tt,tt,tt,tt,tt,tt,tt] rfl rfl (by kernel_rfl) (fun _ _ _ h => h) (Or.inl ⟨by rfl, ?_⟩) ?_ ?_
      rotate_left
      · intro w'
        go_simp
        with_reducible rfl
      rotate_left
      · simp only [Act.put, pkA, pkB, pkC, i64_w, i32_w]
        rfl
      refine done_ (by kernel_rfl) ?_
      go_upto_region 11 with (fail)
      have HW0 := Aside0.mk (Below.refl u1.heap.size u1)
      have HB7 := Aside0.mk (HB5.out.trans (HB6.out.mono HB5.out.size))
      go_wp2
      go_loopw [57] (fun ix wx => ∃ j : Nat, j ≤ L.length ∧ ix = .int .i64 j ∧ Aside0 (Below u1.heap.size u1 wx)) (fun ix _ => L.length - (Go.RowKit.intOf ix).toNat)
      case atStart => exact ⟨0, Nat.zero_le _, rfl, HW0⟩
      case round =>
        obtain ⟨j, hj, rfl, HA⟩ := hrel
        clear HW0
        by_cases hlt : j < L.length
        · have t3 : decide (j < L.length) = true := decide_eq_true hlt
          have t3' : decide ((j : Int) < (L.length : Int)) = true := decide_eq_true (by omega)
          obtain ⟨o, ho⟩ : ∃ o, L[j]? = some o := ⟨_, List.getElem?_eq_getElem hlt⟩
          have HB8 := Aside0.mk (HB7.out.trans (HA.out.mono HB7.out.size))
          have HB9 := Aside0.mk (HB6.out.trans (HA.out.mono HB6.out.size))
          obtain ⟨ad, A3, c3, rfl, x0, x1, x2, x3, hl3, hi3⟩ := GSix.at_T62 HC.out (j : Int) (by omega) (by omega)
          obtain ⟨adk, A7, c7, rfl, y0, y1, y2, y3, hl7, hi7⟩ := GSix.at_T62 HKb.out.2 (j : Int) (by omega) (by omega)
          rw [show GSix.rd_T62 L (j : Int) = o by unfold GSix.rd_T62; rw [Int.toNat_natCast, List.getD_eq_getElem?_getD, ho]; rfl] at x0 x1 x2 x3 hl3 hi3 y0 y1 y2 y3 hl7 hi7
          rw [Int.toNat_natCast] at x0 x1 x2 x3 y0 y1 y2 y3
          replace x0 := (HB8.out.cell (World.block_lt_of_cell? w _ x0)).trans x0
          replace x1 := (HB8.out.cell (World.block_lt_of_cell? w _ x1)).trans x1
          replace x2 := (HB8.out.cell (World.block_lt_of_cell? w _ x2)).trans x2
          replace x3 := (HB8.out.cell (World.block_lt_of_cell? w _ x3)).trans x3
          replace y0 := (HB9.out.cell (World.block_lt_of_cell? w5 _ y0)).trans y0
          replace y1 := (HB9.out.cell (World.block_lt_of_cell? w5 _ y1)).trans y1
          replace y2 := (HB9.out.cell (World.block_lt_of_cell? w5 _ y2)).trans y2
          replace y3 := (HB9.out.cell (World.block_lt_of_cell? w5 _ y3)).trans y3
          have HI3 := Aside0.mk (And.intro hl3 (Kd.C_below hi3 HB8.out))
          have HI7 := Aside0.mk (And.intro hl7 (Kd.C_below hi7 HB9.out))
          have HY := Aside0.mk (And.intro y0 (And.intro y1 (And.intro y2 y3)))
          clear ho hl3 hi3 hl7 hi7 y0 y1 y2 y3
          have a0 : (0 : Int) ≤ (j : Int) := by omega
          have a1 : (j : Int) < (L.length : Int) := by omega
          go_upto_region 14 with (first | ((with_reducible refine gate_dst (N := 8) rfl ?_); refine box_event ?hg (N := 8) ?hd (cs := #[.int .i64 0, .string (⟨#[]⟩ : ByteArray), .int .i64 0, .slice none 0 0]) (t := 62) ?hr ?_; (case hd => rfl); (case hg => rfl); (case hr => first | (go_simp; done) | (go_simp; rfl)); intro gb hg w13 hbox hb; have HBk := Aside0.mk hbox; have HGb := Aside0.mk (show wr.heap.size ≤ gb by rw [hg]; exact Nat.le_refl _); have HB13 := Aside0.mk hb; clear hb hbox hg; have hcz0 : w13.cell? ⟨gb, 0, none⟩ = some (.int .i64 0) := (blk_cell HBk.out 0).trans rfl; have hcz1 : w13.cell? ⟨gb, 1, none⟩ = some (.string (⟨#[]⟩ : ByteArray)) := (blk_cell HBk.out 1).trans rfl; have hcz2 : w13.cell? ⟨gb, 2, none⟩ = some (.int .i64 0) := (blk_cell HBk.out 2).trans rfl; have hcz3 : w13.cell? ⟨gb, 3, none⟩ = some (.slice none 0 0) := (blk_cell HBk.out 3).trans rfl; have hfz0 := blk_frozen HBk.out 0; have hfz1 := blk_frozen HBk.out 1; have hfz2 := blk_frozen HBk.out 2; have hfz3 := blk_frozen HBk.out 3))
          have HB14 := Aside0.mk (show Below wr.heap.size wr ((((w13.setCell ⟨gb, 0, none⟩ (.int .i64 o.f0)).setCell ⟨gb, 1, none⟩ (.string o.f1)).setCell ⟨gb, 2, none⟩ (.int .i64 o.f2)).setCell ⟨gb, 3, none⟩ (.slice A3 o.f3.length c3)) from (((HB13.out.setCell HGb.out _).setCell HGb.out _).setCell HGb.out _).setCell HGb.out _)
          have HK14 := Aside0.mk (show ((((w13.setCell ⟨gb, 0, none⟩ (.int .i64 o.f0)).setCell ⟨gb, 1, none⟩ (.string o.f1)).setCell ⟨gb, 2, none⟩ (.int .i64 o.f2)).setCell ⟨gb, 3, none⟩ (.slice A3 o.f3.length c3)).heap[gb]? = some (.cells #[.int .i64 o.f0, .string o.f1, .int .i64 o.f2, .slice A3 o.f3.length c3] 62 (0, 0)) from blk_put (blk_put (blk_put (blk_put HBk.out 0 _ rfl) 1 _ rfl) 2 _ rfl) 3 _ rfl)
          clear hcz0 hcz1 hcz2 hcz3 hfz0 hfz1 hfz2 hfz3 HBk HB13 x0 x1 x2 x3
          generalize ((((w13.setCell ⟨gb, 0, none⟩ (.int .i64 o.f0)).setCell ⟨gb, 1, none⟩ (.string o.f1)).setCell ⟨gb, 2, none⟩ (.int .i64 o.f2)).setCell ⟨gb, 3, none⟩ (.slice A3 o.f3.length c3)) = w14 at HB14 HK14 ⊢
          have d0 := (blk_cell HK14.out 0).trans (rfl : _ = some (Value.int .i64 o.f0))
          have d1 := (blk_cell HK14.out 1).trans (rfl : _ = some (Value.string o.f1))
          have d2 := (blk_cell HK14.out 2).trans (rfl : _ = some (Value.int .i64 o.f2))
          have d3 := (blk_cell HK14.out 3).trans (rfl : _ = some (Value.slice A3 o.f3.length c3))
          obtain ⟨y0, y1, y2, y3⟩ := HY.out
          have HBd2 := Aside0.mk (HB14.out.trans ((Below.refl w14.heap.size w14).drew.mono HB14.out.size))
          clear d0 d1 d2 d3
          have z0 := (HBd2.out.cell (World.block_lt_of_cell? wr _ y0)).trans y0
          have z1 := (HBd2.out.cell (World.block_lt_of_cell? wr _ y1)).trans y1
          have z2 := (HBd2.out.cell (World.block_lt_of_cell? wr _ y2)).trans y2
          have z3 := (HBd2.out.cell (World.block_lt_of_cell? wr _ y3)).trans y3
          have HYs := Aside0.mk (And.intro y0 (And.intro y1 (And.intro y2 y3)))
          clear y0 y1 y2 y3
          refine start_ (n := 39) (S := fun w' => w'.cell? (adk.add (j * 4)) = some (.int .i64 o.f0) ∧ w'.cell? ⟨(adk.add (j * 4)).block, (adk.add (j * 4)).off + 1, none⟩ = some (.string o.f1) ∧ w'.cell? ⟨(adk.add (j * 4)).block, (adk.add (j * 4)).off + 2, none⟩ = some (.int .i64 o.f2) ∧ w'.cell? ⟨(adk.add (j * 4)).block, (adk.add (j * 4)).off + 3, none⟩ = some (.slice A7 o.f3.length c7) ∧ w'.cell? ⟨gb, 0, none⟩ = some (.int .i64 o.f0) ∧ w'.cell? ⟨gb, 1, none⟩ = some (.string o.f1) ∧ w'.cell? ⟨gb, 2, none⟩ = some (.int .i64 o.f2) ∧ w'.cell? ⟨gb, 3, none⟩ = some (.slice A3 o.f3.length c3)) (ds := []) #[ff,ff,ff,ff,ff,ff,ff,ff,ff,ff,ff,ff,ff,ff,ff,ff,ff,ff,ff,ff,ff,ff,ff,ff,ff,ff,ff,ff,ff,ff,ff,ff,ff,ff,ff,ff,ff,ff,ff] (by kernel_rfl) rfl rfl ⟨z0, z1, z2, z3, ((blk_cell HK14.out 0).trans rfl), ((blk_cell HK14.out 1).trans rfl), ((blk_cell HK14.out 2).trans rfl), ((blk_cell HK14.out 3).trans rfl)⟩ (fun hHeld => ?_)
          have HKd := Aside0.mk (show w14.drew.heap[gb]? = _ from HK14.out)
          have HSa := Aside0.mk (postbagnum_SameBytes.calls A7 c7 o.f3 A3 c3 o.f3 true w14.drew (Kd.C_below HI7.out.2 HBd2.out) HI7.out.1 (Kd.C_below HI3.out.2 HBd2.out) HI3.out.1 (same_f o.f3))
          generalize w14.drew = u2 at HBd2 HKd HSa z0 z1 z2 z3 hHeld ⊢
          refine pure_ (i := 0) (N := some 62) (v := ?_) (a' := ?_) #[tt,ff,ff,ff,ff,ff,ff,ff,ff,ff,ff,ff,ff,ff,ff,ff,ff,ff,ff,ff,ff,ff,ff,ff,ff,ff,ff,ff,ff,ff,ff,ff,ff,ff,ff,ff,ff,ff,ff] rfl rfl (by kernel_rfl) (fun _ _ _ h => h) (Or.inl ⟨by rfl, ?_⟩) ?_ ?_
          rotate_left
          · intro w'
            go_simp
            with_reducible rfl
          rotate_left
          · simp only [Act.put, pkA, pkB, pkC, i64_w, i32_w]
            rfl
          refine pure_ (i := 1) (N := some 63) (v := ?_) (a' := ?_) #[tt,tt,ff,ff,ff,ff,ff,ff,ff,ff,ff,ff,ff,ff,ff,ff,ff,ff,ff,ff,ff,ff,ff,ff,ff,ff,ff,ff,ff,ff,ff,ff,ff,ff,ff,ff,ff,ff,ff] rfl rfl (by kernel_rfl) (fun _ _ _ h => h) (Or.inl ⟨by rfl, ?_⟩) ?_ ?_
          rotate_left
          · intro w'
            go_simp
            with_reducible rfl
          rotate_left
          · simp only [Act.put, pkA, pkB, pkC, i64_w, i32_w]
            rfl
          refine pure_ (i := 2) (N := some 64) (v := ?_) (a' := ?_) #[tt,tt,tt,ff,ff,ff,ff,ff,ff,ff,ff,ff,ff,ff,ff,ff,ff,ff,ff,ff,ff,ff,ff,ff,ff,ff,ff,ff,ff,ff,ff,ff,ff,ff,ff,ff,ff,ff,ff] rfl rfl (by kernel_rfl) (fun _ _ _ h => h) (Or.inl ⟨by rfl, ?_⟩) ?_ ?_
          rotate_left
          · intro w'
            go_simp
            with_reducible rfl
          rotate_left
          · simp only [Act.put, pkA, pkB, pkC, i64_w, i32_w]
            rfl
          refine pure_ (i := 3) (N := some 65) (v := ?_) (a' := ?_) #[tt,tt,tt,tt,ff,ff,ff,ff,ff,ff,ff,ff,ff,ff,ff,ff,ff,ff,ff,ff,ff,ff,ff,ff,ff,ff,ff,ff,ff,ff,ff,ff,ff,ff,ff,ff,ff,ff,ff] rfl rfl (by kernel_rfl) (fun _ _ _ h => h) (Or.inl ⟨by rfl, ?_⟩) ?_ ?_
          rotate_left
          · intro w'
            go_simp
            with_reducible rfl
          rotate_left
          · simp only [Act.put, pkA, pkB, pkC, i64_w, i32_w]
            rfl
          refine pure_ (i := 5) (N := some 67) (v := ?_) (a' := ?_) #[tt,tt,tt,tt,ff,tt,ff,ff,ff,ff,ff,ff,ff,ff,ff,ff,ff,ff,ff,ff,ff,ff,ff,ff,ff,ff,ff,ff,ff,ff,ff,ff,ff,ff,ff,ff,ff,ff,ff] rfl rfl (by kernel_rfl) (fun _ _ _ h => h) (Or.inl ⟨by rfl, ?_⟩) ?_ ?_
          rotate_left
          · intro w'
            go_simp
            with_reducible rfl
          rotate_left
          · simp only [Act.put, pkA, pkB, pkC, i64_w, i32_w]
            rfl
          refine take_ (i := 4) (N := some 66) (v := ?_) (a' := ?_) #[tt,tt,tt,tt,tt,tt,ff,ff,ff,ff,ff,ff,ff,ff,ff,ff,ff,ff,ff,ff,ff,ff,ff,ff,ff,ff,ff,ff,ff,ff,ff,ff,ff,ff,ff,ff,ff,ff,ff] rfl rfl (by kernel_rfl) (fun _ _ _ h => h) (Or.inl ⟨by rfl, ?_⟩) hHeld ?_ ?_
          rotate_left
          · rintro w' ⟨s0, s1, s2, s3, s4, s5, s6, s7⟩
            go_simp
            with_reducible rfl
          rotate_left
          · simp only [Act.put, pkA, pkB, pkC, i64_w, i32_w]
            rfl
          refine take_ (i := 6) (N := some 68) (v := ?_) (a' := ?_) #[tt,tt,tt,tt,tt,tt,tt,ff,ff,ff,ff,ff,ff,ff,ff,ff,ff,ff,ff,ff,ff,ff,ff,ff,ff,ff,ff,ff,ff,ff,ff,ff,ff,ff,ff,ff,ff,ff,ff] rfl rfl (by kernel_rfl) (fun _ _ _ h => h) (Or.inl ⟨by rfl, ?_⟩) hHeld ?_ ?_
          rotate_left
          · rintro w' ⟨s0, s1, s2, s3, s4, s5, s6, s7⟩
            go_simp
            with_reducible rfl
          rotate_left
          · simp only [Act.put, pkA, pkB, pkC, i64_w, i32_w]
            rfl
          refine pure_ (i := 7) (N := some 69) (v := ?_) (a' := ?_) #[tt,tt,tt,tt,tt,tt,tt,tt,ff,ff,ff,ff,ff,ff,ff,ff,ff,ff,ff,ff,ff,ff,ff,ff,ff,ff,ff,ff,ff,ff,ff,ff,ff,ff,ff,ff,ff,ff,ff] rfl rfl (by kernel_rfl) (fun _ _ _ h => h) (Or.inl ⟨by rfl, ?_⟩) ?_ ?_
          rotate_left
          · intro w'
            go_simp
            with_reducible rfl
          rotate_left
          · simp only [Act.put, pkA, pkB, pkC, i64_w, i32_w]
            rfl
          refine pure_ (i := 8) (N := some 70) (v := ?_) (a' := ?_) #[tt,tt,tt,tt,tt,tt,tt,tt,tt,ff,ff,ff,ff,ff,ff,ff,ff,ff,ff,ff,ff,ff,ff,ff,ff,ff,ff,ff,ff,ff,ff,ff,ff,ff,ff,ff,ff,ff,ff] rfl rfl (by kernel_rfl) (fun _ _ _ h => h) (Or.inl ⟨by rfl, ?_⟩) ?_ ?_
          rotate_left
          · intro w'
            go_simp
            with_reducible rfl
          rotate_left
          · simp only [Act.put, pkA, pkB, pkC, i64_w, i32_w]
            rfl
          refine pure_ (i := 9) (N := some 71) (v := ?_) (a' := ?_) #[tt,tt,tt,tt,tt,tt,tt,tt,tt,tt,ff,ff,ff,ff,ff,ff,ff,ff,ff,ff,ff,ff,ff,ff,ff,ff,ff,ff,ff,ff,ff,ff,ff,ff,ff,ff,ff,ff,ff] rfl rfl (by kernel_rfl) (fun _ _ _ h => h) (Or.inl ⟨by rfl, ?_⟩) ?_ ?_
          rotate_left
          · intro w'
            go_simp
            with_reducible rfl
          rotate_left
          · simp only [Act.put, pkA, pkB, pkC, i64_w, i32_w]
            rfl
          refine pure_ (i := 10) (N := some 72) (v := ?_) (a' := ?_) #[tt,tt,tt,tt,tt,tt,tt,tt,tt,tt,tt,ff,ff,ff,ff,ff,ff,ff,ff,ff,ff,ff,ff,ff,ff,ff,ff,ff,ff,ff,ff,ff,ff,ff,ff,ff,ff,ff,ff] rfl rfl (by kernel_rfl) (fun _ _ _ h => h) (Or.inl ⟨by rfl, ?_⟩) ?_ ?_
          rotate_left
          · intro w'
            go_simp
            with_reducible rfl
          rotate_left
          · simp only [Act.put, pkA, pkB, pkC, i64_w, i32_w]
            rfl
          refine pure_ (i := 11) (N := some 73) (v := ?_) (a' := ?_) #[tt,tt,tt,tt,tt,tt,tt,tt,tt,tt,tt,tt,ff,ff,ff,ff,ff,ff,ff,ff,ff,ff,ff,ff,ff,ff,ff,ff,ff,ff,ff,ff,ff,ff,ff,ff,ff,ff,ff] rfl rfl (by kernel_rfl) (fun _ _ _ h => h) (Or.inl ⟨by rfl, ?_⟩) ?_ ?_
          rotate_left
          · intro w'
            go_simp
            with_reducible rfl
          rotate_left
          · simp only [Act.put, pkA, pkB, pkC, i64_w, i32_w]
            rfl
          refine pure_ (i := 12) (N := some 74) (v := ?_) (a' := ?_) #[tt,tt,tt,tt,tt,tt,tt,tt,tt,tt,tt,tt,tt,ff,ff,ff,ff,ff,ff,ff,ff,ff,ff,ff,ff,ff,ff,ff,ff,ff,ff,ff,ff,ff,ff,ff,ff,ff,ff] rfl rfl (by kernel_rfl) (fun _ _ _ h => h) (Or.inl ⟨by rfl, ?_⟩) ?_ ?_
          rotate_left
          · intro w'
            go_simp
            with_reducible rfl
          rotate_left
          · simp only [Act.put, pkA, pkB, pkC, i64_w, i32_w]
            rfl
          refine pure_ (i := 14) (N := some 76) (v := ?_) (a' := ?_) #[tt,tt,tt,tt,tt,tt,tt,tt,tt,tt,tt,tt,tt,ff,tt,ff,ff,ff,ff,ff,ff,ff,ff,ff,ff,ff,ff,ff,ff,ff,ff,ff,ff,ff,ff,ff,ff,ff,ff] rfl rfl (by kernel_rfl) (fun _ _ _ h => h) (Or.inl ⟨by rfl, ?_⟩) ?_ ?_
          rotate_left
          · intro w'
            go_simp
            with_reducible rfl
          rotate_left
          · simp only [Act.put, pkA, pkB, pkC, i64_w, i32_w]
            rfl
          refine take_ (i := 13) (N := some 75) (v := ?_) (a' := ?_) #[tt,tt,tt,tt,tt,tt,tt,tt,tt,tt,tt,tt,tt,tt,tt,ff,ff,ff,ff,ff,ff,ff,ff,ff,ff,ff,ff,ff,ff,ff,ff,ff,ff,ff,ff,ff,ff,ff,ff] rfl rfl (by kernel_rfl) (fun _ _ _ h => h) (Or.inl ⟨by rfl, ?_⟩) hHeld ?_ ?_
          rotate_left
          · rintro w' ⟨s0, s1, s2, s3, s4, s5, s6, s7⟩
            go_simp
            with_reducible rfl
          rotate_left
          · simp only [Act.put, pkA, pkB, pkC, i64_w, i32_w]
            rfl
          refine take_ (i := 15) (N := some 77) (v := ?_) (a' := ?_) #[tt,tt,tt,tt,tt,tt,tt,tt,tt,tt,tt,tt,tt,tt,tt,tt,ff,ff,ff,ff,ff,ff,ff,ff,ff,ff,ff,ff,ff,ff,ff,ff,ff,ff,ff,ff,ff,ff,ff] rfl rfl (by kernel_rfl) (fun _ _ _ h => h) (Or.inl ⟨by rfl, ?_⟩) hHeld ?_ ?_
          rotate_left
          · rintro w' ⟨s0, s1, s2, s3, s4, s5, s6, s7⟩
            go_simp
            with_reducible rfl
          rotate_left
          · simp only [Act.put, pkA, pkB, pkC, i64_w, i32_w]
            rfl
          refine pure_ (i := 16) (N := some 78) (v := ?_) (a' := ?_) #[tt,tt,tt,tt,tt,tt,tt,tt,tt,tt,tt,tt,tt,tt,tt,tt,tt,ff,ff,ff,ff,ff,ff,ff,ff,ff,ff,ff,ff,ff,ff,ff,ff,ff,ff,ff,ff,ff,ff] rfl rfl (by kernel_rfl) (fun _ _ _ h => h) (Or.inl ⟨by rfl, ?_⟩) ?_ ?_
          rotate_left
          · intro w'
            go_simp
            with_reducible rfl
          rotate_left
          · simp only [Act.put, pkA, pkB, pkC, i64_w, i32_w]
            rfl
          refine pure_ (i := 17) (N := some 79) (v := ?_) (a' := ?_) #[tt,tt,tt,tt,tt,tt,tt,tt,tt,tt,tt,tt,tt,tt,tt,tt,tt,tt,ff,ff,ff,ff,ff,ff,ff,ff,ff,ff,ff,ff,ff,ff,ff,ff,ff,ff,ff,ff,ff] rfl rfl (by kernel_rfl) (fun _ _ _ h => h) (Or.inl ⟨by rfl, ?_⟩) ?_ ?_
          rotate_left
          · intro w'
            go_simp
            with_reducible rfl
          rotate_left
          · simp only [Act.put, pkA, pkB, pkC, i64_w, i32_w]
            rfl
          refine pure_ (i := 18) (N := some 80) (v := ?_) (a' := ?_) #[tt,tt,tt,tt,tt,tt,tt,tt,tt,tt,tt,tt,tt,tt,tt,tt,tt,tt,tt,ff,ff,ff,ff,ff,ff,ff,ff,ff,ff,ff,ff,ff,ff,ff,ff,ff,ff,ff,ff] rfl rfl (by kernel_rfl) (fun _ _ _ h => h) (Or.inl ⟨by rfl, ?_⟩) ?_ ?_
          rotate_left
          · intro w'
            go_simp
            with_reducible rfl
          rotate_left
          · simp only [Act.put, pkA, pkB, pkC, i64_w, i32_w]
            rfl
          refine pure_ (i := 19) (N := some 81) (v := ?_) (a' := ?_) #[tt,tt,tt,tt,tt,tt,tt,tt,tt,tt,tt,tt,tt,tt,tt,tt,tt,tt,tt,tt,ff,ff,ff,ff,ff,ff,ff,ff,ff,ff,ff,ff,ff,ff,ff,ff,ff,ff,ff] rfl rfl (by kernel_rfl) (fun _ _ _ h => h) (Or.inl ⟨by rfl, ?_⟩) ?_ ?_
          rotate_left
          · intro w'
            go_simp
            with_reducible rfl
          rotate_left
          · simp only [Act.put, pkA, pkB, pkC, i64_w, i32_w]
            rfl
          refine pure_ (i := 20) (N := some 82) (v := ?_) (a' := ?_) #[tt,tt,tt,tt,tt,tt,tt,tt,tt,tt,tt,tt,tt,tt,tt,tt,tt,tt,tt,tt,tt,ff,ff,ff,ff,ff,ff,ff,ff,ff,ff,ff,ff,ff,ff,ff,ff,ff,ff] rfl rfl (by kernel_rfl) (fun _ _ _ h => h) (Or.inl ⟨by rfl, ?_⟩) ?_ ?_
          rotate_left
          · intro w'
            go_simp
            with_reducible rfl
          rotate_left
          · simp only [Act.put, pkA, pkB, pkC, i64_w, i32_w]
            rfl
          refine pure_ (i := 21) (N := some 83) (v := ?_) (a' := ?_) #[tt,tt,tt,tt,tt,tt,tt,tt,tt,tt,tt,tt,tt,tt,tt,tt,tt,tt,tt,tt,tt,tt,ff,ff,ff,ff,ff,ff,ff,ff,ff,ff,ff,ff,ff,ff,ff,ff,ff] rfl rfl (by kernel_rfl) (fun _ _ _ h => h) (Or.inl ⟨by rfl, ?_⟩) ?_ ?_
          rotate_left
          · intro w'
            go_simp
            with_reducible rfl
          rotate_left
          · simp only [Act.put, pkA, pkB, pkC, i64_w, i32_w]
            rfl
          refine pure_ (i := 22) (N := some 84) (v := ?_) (a' := ?_) #[tt,tt,tt,tt,tt,tt,tt,tt,tt,tt,tt,tt,tt,tt,tt,tt,tt,tt,tt,tt,tt,tt,tt,ff,ff,ff,ff,ff,ff,ff,ff,ff,ff,ff,ff,ff,ff,ff,ff] rfl rfl (by kernel_rfl) (fun _ _ _ h => h) (Or.inl ⟨by rfl, ?_⟩) ?_ ?_
          rotate_left
          · intro w'
            go_simp
            with_reducible rfl
          rotate_left
          · simp only [Act.put, pkA, pkB, pkC, i64_w, i32_w]
            rfl
          refine pure_ (i := 24) (N := some 86) (v := ?_) (a' := ?_) #[tt,tt,tt,tt,tt,tt,tt,tt,tt,tt,tt,tt,tt,tt,tt,tt,tt,tt,tt,tt,tt,tt,tt,ff,tt,ff,ff,ff,ff,ff,ff,ff,ff,ff,ff,ff,ff,ff,ff] rfl rfl (by kernel_rfl) (fun _ _ _ h => h) (Or.inl ⟨by rfl, ?_⟩) ?_ ?_
          rotate_left
          · intro w'
            go_simp
            with_reducible rfl
          rotate_left
          · simp only [Act.put, pkA, pkB, pkC, i64_w, i32_w]
            rfl
          refine take_ (i := 23) (N := some 85) (v := ?_) (a' := ?_) #[tt,tt,tt,tt,tt,tt,tt,tt,tt,tt,tt,tt,tt,tt,tt,tt,tt,tt,tt,tt,tt,tt,tt,tt,tt,ff,ff,ff,ff,ff,ff,ff,ff,ff,ff,ff,ff,ff,ff] rfl rfl (by kernel_rfl) (fun _ _ _ h => h) (Or.inl ⟨by rfl, ?_⟩) hHeld ?_ ?_
          rotate_left
          · rintro w' ⟨s0, s1, s2, s3, s4, s5, s6, s7⟩
            go_simp
            with_reducible rfl
          rotate_left
          · simp only [Act.put, pkA, pkB, pkC, i64_w, i32_w]
            rfl
          refine take_ (i := 25) (N := some 87) (v := ?_) (a' := ?_) #[tt,tt,tt,tt,tt,tt,tt,tt,tt,tt,tt,tt,tt,tt,tt,tt,tt,tt,tt,tt,tt,tt,tt,tt,tt,tt,ff,ff,ff,ff,ff,ff,ff,ff,ff,ff,ff,ff,ff] rfl rfl (by kernel_rfl) (fun _ _ _ h => h) (Or.inl ⟨by rfl, ?_⟩) hHeld ?_ ?_
          rotate_left
          · rintro w' ⟨s0, s1, s2, s3, s4, s5, s6, s7⟩
            go_simp
            with_reducible rfl
          rotate_left
          · simp only [Act.put, pkA, pkB, pkC, i64_w, i32_w]
            rfl
          refine pure_ (i := 26) (N := some 88) (v := ?_) (a' := ?_) #[tt,tt,tt,tt,tt,tt,tt,tt,tt,tt,tt,tt,tt,tt,tt,tt,tt,tt,tt,tt,tt,tt,tt,tt,tt,tt,tt,ff,ff,ff,ff,ff,ff,ff,ff,ff,ff,ff,ff] rfl rfl (by kernel_rfl) (fun _ _ _ h => h) (Or.inl ⟨by rfl, ?_⟩) ?_ ?_
          rotate_left
          · intro w'
            go_simp
            with_reducible rfl
          rotate_left
          · simp only [Act.put, pkA, pkB, pkC, i64_w, i32_w]
            rfl
          refine pure_ (i := 27) (N := some 89) (v := ?_) (a' := ?_) #[tt,tt,tt,tt,tt,tt,tt,tt,tt,tt,tt,tt,tt,tt,tt,tt,tt,tt,tt,tt,tt,tt,tt,tt,tt,tt,tt,tt,ff,ff,ff,ff,ff,ff,ff,ff,ff,ff,ff] rfl rfl (by kernel_rfl) (fun _ _ _ h => h) (Or.inl ⟨by rfl, ?_⟩) ?_ ?_
          rotate_left
          · intro w'
            go_simp
            with_reducible rfl
          rotate_left
          · simp only [Act.put, pkA, pkB, pkC, i64_w, i32_w]
            rfl
          refine pure_ (i := 28) (N := some 90) (v := ?_) (a' := ?_) #[tt,tt,tt,tt,tt,tt,tt,tt,tt,tt,tt,tt,tt,tt,tt,tt,tt,tt,tt,tt,tt,tt,tt,tt,tt,tt,tt,tt,tt,ff,ff,ff,ff,ff,ff,ff,ff,ff,ff] rfl rfl (by kernel_rfl) (fun _ _ _ h => h) (Or.inl ⟨by rfl, ?_⟩) ?_ ?_
          rotate_left
          · intro w'
            go_simp
            with_reducible rfl
          rotate_left
          · simp only [Act.put, pkA, pkB, pkC, i64_w, i32_w]
            rfl
          refine pure_ (i := 29) (N := some 91) (v := ?_) (a' := ?_) #[tt,tt,tt,tt,tt,tt,tt,tt,tt,tt,tt,tt,tt,tt,tt,tt,tt,tt,tt,tt,tt,tt,tt,tt,tt,tt,tt,tt,tt,tt,ff,ff,ff,ff,ff,ff,ff,ff,ff] rfl rfl (by kernel_rfl) (fun _ _ _ h => h) (Or.inl ⟨by rfl, ?_⟩) ?_ ?_
          rotate_left
          · intro w'
            go_simp
            with_reducible rfl
          rotate_left
          · simp only [Act.put, pkA, pkB, pkC, i64_w, i32_w]
            rfl
          refine pure_ (i := 30) (N := some 92) (v := ?_) (a' := ?_) #[tt,tt,tt,tt,tt,tt,tt,tt,tt,tt,tt,tt,tt,tt,tt,tt,tt,tt,tt,tt,tt,tt,tt,tt,tt,tt,tt,tt,tt,tt,tt,ff,ff,ff,ff,ff,ff,ff,ff] rfl rfl (by kernel_rfl) (fun _ _ _ h => h) (Or.inl ⟨by rfl, ?_⟩) ?_ ?_
          rotate_left
          · intro w'
            go_simp
            with_reducible rfl
          rotate_left
          · simp only [Act.put, pkA, pkB, pkC, i64_w, i32_w]
            rfl
          refine pure_ (i := 31) (N := some 93) (v := ?_) (a' := ?_) #[tt,tt,tt,tt,tt,tt,tt,tt,tt,tt,tt,tt,tt,tt,tt,tt,tt,tt,tt,tt,tt,tt,tt,tt,tt,tt,tt,tt,tt,tt,tt,tt,ff,ff,ff,ff,ff,ff,ff] rfl rfl (by kernel_rfl) (fun _ _ _ h => h) (Or.inl ⟨by rfl, ?_⟩) ?_ ?_
          rotate_left
          · intro w'
            go_simp
            with_reducible rfl
          rotate_left
          · simp only [Act.put, pkA, pkB, pkC, i64_w, i32_w]
            rfl
          refine pure_ (i := 32) (N := some 94) (v := ?_) (a' := ?_) #[tt,tt,tt,tt,tt,tt,tt,tt,tt,tt,tt,tt,tt,tt,tt,tt,tt,tt,tt,tt,tt,tt,tt,tt,tt,tt,tt,tt,tt,tt,tt,tt,tt,ff,ff,ff,ff,ff,ff] rfl rfl (by kernel_rfl) (fun _ _ _ h => h) (Or.inl ⟨by rfl, ?_⟩) ?_ ?_
          rotate_left
          · intro w'
            go_simp
            with_reducible rfl
          rotate_left
          · simp only [Act.put, pkA, pkB, pkC, i64_w, i32_w]
            rfl
          refine pure_ (i := 34) (N := some 96) (v := ?_) (a' := ?_) #[tt,tt,tt,tt,tt,tt,tt,tt,tt,tt,tt,tt,tt,tt,tt,tt,tt,tt,tt,tt,tt,tt,tt,tt,tt,tt,tt,tt,tt,tt,tt,tt,tt,ff,tt,ff,ff,ff,ff] rfl rfl (by kernel_rfl) (fun _ _ _ h => h) (Or.inl ⟨by rfl, ?_⟩) ?_ ?_
          rotate_left
          · intro w'
            go_simp
            with_reducible rfl
          rotate_left
          · simp only [Act.put, pkA, pkB, pkC, i64_w, i32_w]
            rfl
          refine take_ (i := 33) (N := some 95) (v := ?_) (a' := ?_) #[tt,tt,tt,tt,tt,tt,tt,tt,tt,tt,tt,tt,tt,tt,tt,tt,tt,tt,tt,tt,tt,tt,tt,tt,tt,tt,tt,tt,tt,tt,tt,tt,tt,tt,tt,ff,ff,ff,ff] rfl rfl (by kernel_rfl) (fun _ _ _ h => h) (Or.inl ⟨by rfl, ?_⟩) hHeld ?_ ?_
          rotate_left
          · rintro w' ⟨s0, s1, s2, s3, s4, s5, s6, s7⟩
            go_simp
            with_reducible rfl
          rotate_left
          · simp only [Act.put, pkA, pkB, pkC, i64_w, i32_w]
            rfl
          refine take_ (i := 35) (N := some 97) (v := ?_) (a' := ?_) #[tt,tt,tt,tt,tt,tt,tt,tt,tt,tt,tt,tt,tt,tt,tt,tt,tt,tt,tt,tt,tt,tt,tt,tt,tt,tt,tt,tt,tt,tt,tt,tt,tt,tt,tt,tt,ff,ff,ff] rfl rfl (by kernel_rfl) (fun _ _ _ h => h) (Or.inl ⟨by rfl, ?_⟩) hHeld ?_ ?_
          rotate_left
          · rintro w' ⟨s0, s1, s2, s3, s4, s5, s6, s7⟩
            go_simp
            with_reducible rfl
          rotate_left
          · simp only [Act.put, pkA, pkB, pkC, i64_w, i32_w]
            rfl
          refine one_ (i := 36) (N := some 98) #[tt,tt,tt,tt,tt,tt,tt,tt,tt,tt,tt,tt,tt,tt,tt,tt,tt,tt,tt,tt,tt,tt,tt,tt,tt,tt,tt,tt,tt,tt,tt,tt,tt,tt,tt,tt,tt,ff,ff] rfl rfl (by kernel_rfl) (by decide) (fun K hK => ?_)
          refine goes_ Tryz.func23 (by kernel_rfl) rfl #[.slice A7 o.f3.length c7, .slice A3 o.f3.length c3] (by rfl) rfl rfl (by simp only [List.map_toArray, List.map_cons, List.map_nil]; rfl) ?_
          with_reducible refine (HSa.out).mono ?_
          rintro e u4 ⟨rfl, hdr⟩
          refine ⟨_, rfl, ?_⟩
          have HB4b := Aside0.mk (HBd2.out.trans (hdr.below.mono HBd2.out.size))
          have HK4b := Aside0.mk ((hdr.below.block _ (blk_lt HKd.out)).trans HKd.out)
          have q0 := (hdr.below.cell (World.block_lt_of_cell? u2 _ z0)).trans z0
          have q1 := (hdr.below.cell (World.block_lt_of_cell? u2 _ z1)).trans z1
          have q2 := (hdr.below.cell (World.block_lt_of_cell? u2 _ z2)).trans z2
          have q3 := (hdr.below.cell (World.block_lt_of_cell? u2 _ z3)).trans z3
          clear hdr
          refine hK.out _ _ ⟨q0, q1, q2, q3, ((blk_cell HK4b.out 0).trans rfl), ((blk_cell HK4b.out 1).trans rfl), ((blk_cell HK4b.out 2).trans rfl), ((blk_cell HK4b.out 3).trans rfl)⟩ (fun hHeld => ?_)
          clear hK K
          refine norm_ (a' := ?_) ?_ ?_
          rotate_left
          · show Act.put _ (some 98) _ = _
            simp only [Act.put, pkA, pkB, pkC, i64_w, i32_w]
            rfl
          refine pure_ (i := 37) (N := some 99) (v := ?_) (a' := ?_) #[tt,tt,tt,tt,tt,tt,tt,tt,tt,tt,tt,tt,tt,tt,tt,tt,tt,tt,tt,tt,tt,tt,tt,tt,tt,tt,tt,tt,tt,tt,tt,tt,tt,tt,tt,tt,tt,tt,ff] rfl rfl (by kernel_rfl) (fun _ _ _ h => h) (Or.inl ⟨by rfl, ?_⟩) ?_ ?_
          rotate_left
          · intro w'
            go_simp
            with_reducible rfl
          rotate_left
          · simp only [Act.put, pkA, pkB, pkC, i64_w, i32_w]
            rfl
          refine pure_ (i := 38) (N := some 100) (v := ?_) (a' := ?_) #[tt,tt,tt,tt,tt,tt,tt,tt,tt,tt,tt,tt,tt,tt,tt,tt,tt,tt,tt,tt,tt,tt,tt,tt,tt,tt,tt,tt,tt,tt,tt,tt,tt,tt,tt,tt,tt,tt,tt] rfl rfl (by kernel_rfl) (fun _ _ _ h => h) (Or.inl ⟨by rfl, ?_⟩) ?_ ?_
          rotate_left
          · intro w'
            go_simp
            with_reducible rfl
          rotate_left
          · simp only [Act.put, pkA, pkB, pkC, i64_w, i32_w]
            rfl
          refine done_ (by kernel_rfl) ?_
          have HN := Aside0.mk (HA.out.trans (HB4b.out.mono HA.out.size))
          go_wp2
          exact ⟨⟨j + 1, by omega, by simp, HN⟩, by simp [Go.RowKit.intOf]; omega⟩
        · have t3 : decide (j < L.length) = false := decide_eq_false hlt
          have t3' : decide ((j : Int) < (L.length : Int)) = false := decide_eq_false (by omega)
          go_wp2
          go_ret
          exact ⟨rfl, HB7.out.trans (HA.out.mono HB7.out.size)⟩
end Go.Proofs.YtpcfnkmljchiiaaGreatDoor.OLb
