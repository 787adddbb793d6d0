/- Steps towards RBoth: OLr. -/
import Derived.Test.YtpcfnkmljchiiaaGreatDoorZ37
import Derived.Test.YtpcfnkmljchiiaaGreatDoorZ38
import Derived.Test.YtpcfnkmljchiiaaGreatDoorZ18
set_option linter.unusedVariables false
set_option linter.unusedSimpArgs false
/- RedoReads: which bytes are a change's. -/
namespace Go.Proofs.YtpcfnkmljchiiaaGreatDoor.OLr
open Go Go.RowKit Go.Maps Go.WideMaps Go.Proofs.YtpcfnkmljchiiaaGreatDoorW.PrintWords Go.Proofs.YtpcfnkmljchiiaaGreatDoorW.PrintLast Go.Proofs.YtpcfnkmljchiiaaGreatDoorW.PrintMore DPl DAt DNw Go.Proofs.YtpcfnkmljchiiaaGreatDoor.Is Go.Proofs.YtpcfnkmljchiiaaGreatDoor.Is GPl Go.Proofs.YtpcfnkmljchiiaaGreatDoor.OPl Go.Proofs.YtpcfnkmljchiiaaGreatDoor.OChk Go.Proofs.YtpcfnkmljchiiaaGreatDoor.OEnc Go.Proofs.YtpcfnkmljchiiaaGreatDoor.OByt Go.Proofs.YtpcfnkmljchiiaaGreatDoor.ORdr Go.Proofs.YtpcfnkmljchiiaaGreatDoor.ORdb Go.Proofs.YtpcfnkmljchiiaaGreatDoor.OOps Go.Proofs.YtpcfnkmljchiiaaGreatDoor.OPar Go.Proofs.YtpcfnkmljchiiaaGreatDoor.ORq Go.Proofs.YtpcfnkmljchiiaaGreatDoor.OBr Go.Proofs.YtpcfnkmljchiiaaGreatDoor.OForm Go.Proofs.YtpcfnkmljchiiaaGreatDoor.OCom Go.Proofs.YtpcfnkmljchiiaaGreatDoor.ORo
theorem wf_B {l : List Int} (h : ∀ z ∈ l, (Lit.int .u8 z).wf = true) : Lib04.isB l := fun z hz => by
  have h9 := h z hz
  simp only [Lit.wf, IntKind.min, IntKind.max, IntKind.bits, IntKind.signed] at h9
  simp at h9
  omega
set_option maxRecDepth 100000 in
set_option maxHeartbeats 16000000 in
theorem reads_calls (b : List Int) (A : Option Addr) (c : Nat) (E : Int → Addr) (w : World) (hE : Errs All w E) (hr : Kd.C (Kd.int .u8) w A b.length b) (hc : b.length ≤ c) (hm : b.length ≤ maxLen) (hq : ∀ z ∈ b, (Lit.int .u8 z).wf = true) :
    Calls Tryz.prog 5 #[.slice A b.length c] w fun e w' => e = .returned (.bool true) ∧ Below w.heap.size w w' := by
  have HE := Aside0.mk (AllAt.of hE)
  have HAl := Aside0.mk (OAlv.alive_calls w.heap.size E w (Nat.le_refl _) HE.out)
  have HC := Aside0.mk hr
  have HBy := Aside0.mk (wf_B hq)
  have hm : b.length ≤ 9223372036854775807 := hm
  clear hr hq hE
  by_cases hlong : 20000 < b.length
  · have t1 : decide (20000 < b.length) = true := decide_eq_true hlong
    have t1' : decide ((20000 : Int) < (b.length : Int)) = true := decide_eq_true (by omega)
    go_enter Tryz.func5, Tryz.ntmps5
    go_wp2_with (go_at_call 16; refine HAl.out.mono ?_; rintro e w1 ⟨rfl, hb⟩; have HB1 := Aside0.mk hb; clear hb)
    go_ret
    exact ⟨rfl, HB1.out⟩
  · have t1 : decide (20000 < b.length) = false := decide_eq_false hlong
    have t1' : decide ((20000 : Int) < (b.length : Int)) = false := decide_eq_false (by omega)
    have hl2 : b.length ≤ 20000 := by omega
    clear hlong
    have HBt := Aside0.mk (fun (U : World) (hU : Below w.heap.size w U) => postbagnum_Bytes.calls A c b U (Kd.C_below HC.out hU) hc (by omega))
    have HRo := Aside0.mk (fun (U : World) (hU : Below w.heap.size w U) => rops_calls b A c U (Kd.C_below HC.out hU) hc HBy.out (by omega))
    go_enter Tryz.func5, Tryz.ntmps5
    go_upto_region 6 with (first
      | (go_at_call 16; refine HAl.out.mono ?_; rintro e w1 ⟨rfl, hb⟩; have HB1 := Aside0.mk hb; clear hb)
      | (go_at_call 24; refine (HBt.out _ HB1.out).mono ?_; rintro e w2 ⟨a2, c2, rfl, hc2, hR2, hb⟩; have HB2 := Aside0.mk (HB1.out.trans (hb.mono HB1.out.size)); have HR2 := Aside0.mk (Kd.R_reads' hR2).2; have HC2 := Aside0.mk hc2; clear hb hR2 hc2))
    have hC2 : Kd.C (Kd.int .u8) w2 (some a2) (b.length + 6) (b ++ six) := by
      have h9 := HR2.out.2
      rw [List.length_append] at h9
      exact h9
    have HK2 := Aside0.mk hC2
    have HOp := Aside0.mk (ops_calls b (some a2) c2 w.heap.size E w2 (HE.out.turn (Turn.of_below HB2.out)) HB2.out.size (kept_head hC2) (by have := HC2.out; omega) HBy.out (by omega))
    clear hC2
    obtain ⟨P, hP⟩ : ∃ P, P = opsP b := ⟨_, rfl⟩
    rw [← hP] at HOp
    have HP := Aside0.mk hP
    have HSm := Aside0.mk (same_reads HBy.out)
    have HSn := Aside0.mk (reads_none HBy.out)
    rw [← hP] at HSm HSn
    clear hP
    by_cases hg : P.2.2 = false ∧ P.2.1 = [] ∧ checkL P.1 = none
    · have HG := Aside0.mk hg
      have HRs := Aside0.mk (HSm.out.1 hg)
      have HIv := Aside0.mk (opsP_inv (L := P.1) HBy.out (show opsP b = (P.1, [], false) from by rw [← HP.out]; exact Prod.ext rfl (Prod.ext hg.2.1 hg.1)))
      clear hg
      have HCk := Aside0.mk (check_ok HG.out.2.2)
      go_upto_region 8 with (first
        | (go_at_call 21; refine HOp.out.mono ?_; rintro e w3 ⟨ho, hb⟩; unfold OpsPost at ho; rw [if_pos HG.out] at ho; obtain ⟨v3, rfl, hv⟩ := ho; have HB3 := Aside0.mk (HB2.out.trans (hb.mono HB2.out.size)); have HV3 := Aside0.mk hv; have HK3 := Aside0.mk (Kd.C_below HK2.out hb); clear hb hv)
        | (go_at_call 25; refine (HRo.out _ HB3.out).mono ?_; rintro e w4 ⟨ho, hb⟩; unfold ROpsPost at ho; rw [HRs.out] at ho; obtain ⟨v4, rfl⟩ := ho; have HB4 := Aside0.mk (HB3.out.trans (hb.mono HB3.out.size)); have HV4 := Aside0.mk (Kd.R_below HV3.out hb); have HK4 := Aside0.mk (Kd.C_below HK3.out hb); clear hb))
      have HKp := Aside0.mk (postbagnum_Kept.calls a2 c2 A c b w4 HK4.out HC2.out (Kd.C_below HC.out HB4.out) hc (by omega))
      go_upto_region 12 with (go_at_call 26; refine HKp.out.mono ?_; rintro e w5 ⟨rfl, hdr⟩; have HB5 := Aside0.mk (HB4.out.trans (hdr.below.mono HB4.out.size)); have HV5 := Aside0.mk (Kd.R_below HV4.out hdr.below); clear hdr)
      obtain ⟨A5, c5, rfl⟩ := Kd.R_slice HV5.out
      have HC5 := Aside0.mk (Kd.R_reads' HV5.out).2
      have HBo := Aside0.mk (bytes_ok P.1 A5 c5 w.heap.size E w5 (HE.out.turn (Turn.of_below HB5.out)) HB5.out.size HC5.out.2 HC5.out.1 (by have := HCk.out.1; omega) (fun o ho => ⟨by have := (HCk.out.2.2 o ho).size; omega, by have := (HCk.out.2.2 o ho).len; omega⟩) HG.out.2.2)
      rw [HIv.out.1] at HBo
      go_upto_region 13 with (go_at_call 18; refine HBo.out.mono ?_; rintro e w6 ⟨v6, rfl, hv, hb⟩; have HB6 := Aside0.mk (HB5.out.trans (hb.mono HB5.out.size)); have HV6 := Aside0.mk hv; clear hb hv)
      obtain ⟨A6, c6, rfl⟩ := Kd.R_slice HV6.out
      have cv6 := Kd.C_string (P := Tryz.prog) (src := 32) (dst := 9) (e := 5) (w := w6) (A := A6) (c := c6) Tryz.underlying32 Tryz.underlying5 Tryz.underlying9 (Kd.R_reads' HV6.out).2.2
      have cv7 := Kd.C_string (P := Tryz.prog) (src := 32) (dst := 9) (e := 5) (w := w6) (A := A) (c := c) Tryz.underlying32 Tryz.underlying5 Tryz.underlying9 (Kd.C_below HC.out HB6.out)
      go_wp2
      go_ret
      exact ⟨by simp, HB6.out⟩
    · have HG := Aside0.mk hg
      have HRs := Aside0.mk (HSn.out.1 hg)
      clear hg
      go_upto_region 8 with (first
        | (go_at_call 21; refine HOp.out.mono ?_; rintro e w3 ⟨ho, hb⟩; unfold OpsPost at ho; rw [if_neg HG.out, errV_some] at ho; obtain rfl := ho; have HB3 := Aside0.mk (HB2.out.trans (hb.mono HB2.out.size)); have HK3 := Aside0.mk (Kd.C_below HK2.out hb); clear hb)
        | (go_at_call 25; refine (HRo.out _ HB3.out).mono ?_; rintro e w4 ⟨ho, hb⟩; unfold ROpsPost at ho; rw [HRs.out] at ho; obtain rfl := ho; have HB4 := Aside0.mk (HB3.out.trans (hb.mono HB3.out.size)); have HK4 := Aside0.mk (Kd.C_below HK3.out hb); clear hb))
      have HKp := Aside0.mk (postbagnum_Kept.calls a2 c2 A c b w4 HK4.out HC2.out (Kd.C_below HC.out HB4.out) hc (by omega))
      go_upto_region 11 with (go_at_call 26; refine HKp.out.mono ?_; rintro e w5 ⟨rfl, hdr⟩; have HB5 := Aside0.mk (HB4.out.trans (hdr.below.mono HB4.out.size)); clear hdr)
      have HNu := Aside0.mk (num_calls (some 2) 2 E w5 (HE.out.turn (Turn.of_below HB5.out)).errs rfl)
      rw [errV_some] at HNu
      go_wp2_with (go_at_call 20; refine HNu.out.mono ?_; rintro e w6 ⟨rfl, hb⟩; have HB6 := Aside0.mk (HB5.out.trans (hb.mono HB5.out.size)); clear hb)
      go_ret
      exact ⟨rfl, HB6.out⟩
end Go.Proofs.YtpcfnkmljchiiaaGreatDoor.OLr
