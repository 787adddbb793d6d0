/- DiskNames walked. -/
import Derived.Test.YtpcfnkmljchiiaaDoorDEx
namespace Go.Proofs.YtpcfnkmljchiiaaDoor.DNms
open Go Go.RowKit Go.Maps Go.Proofs.YtpcfnkmljchiiaaDoorW.PrintWords Go.Proofs.YtpcfnkmljchiiaaDoorW.PrintLast Go.Proofs.YtpcfnkmljchiiaaDoor.DBase Go.Proofs.YtpcfnkmljchiiaaDoor.DPl Go.Proofs.YtpcfnkmljchiiaaDoor.DAt Go.Proofs.YtpcfnkmljchiiaaDoor.Is Go.Proofs.YtpcfnkmljchiiaaDoor.DNw Go.Proofs.YtpcfnkmljchiiaaDoor.DOk Go.Proofs.YtpcfnkmljchiiaaDoor.DFil Go.Proofs.YtpcfnkmljchiiaaDoor.DOps Go.Proofs.YtpcfnkmljchiiaaDoor.DSyn Go.Proofs.YtpcfnkmljchiiaaDoor.DSd Go.Proofs.YtpcfnkmljchiiaaDoor.DCr Go.Proofs.YtpcfnkmljchiiaaDoor.DCra Go.Proofs.YtpcfnkmljchiiaaDoor.DCrc Go.Proofs.YtpcfnkmljchiiaaDoor.DAlv Go.Proofs.YtpcfnkmljchiiaaDoor.Right
set_option linter.unusedVariables false
set_option linter.unusedSimpArgs false
theorem right_size {s : ByteArray} (h : rightB s = true) : s.size ≤ 24 := by
  unfold rightB at h
  simp at h
  omega
theorem made_again {s : ByteArray} (h : rightB s = true) : createD (madeD (newD 100) s) s = (some 6, madeD (newD 100) s) := by
  have hn : hasN (madeD (newD 100) s).now s.data.toList = true := by
    show hasN (putN (delN [] []) s.data.toList 0) s.data.toList = true
    simp [delN, putN, insN, hasN]
  unfold createD askD
  rw [if_neg (show ¬(madeD (newD 100) s).off = true by show ¬(false = true); simp), if_pos h]
  simp only []
  rw [if_pos hn]
theorem wrong {D : Dsk} {s : ByteArray} (ho : D.off = false) (h : rightB s = false) : createD D s = (some 4, D) := by
  unfold createD askD
  rw [if_neg (by simp [ho]), if_neg (by simp [h])]
set_option maxRecDepth 100000 in
set_option maxHeartbeats 8000000 in
theorem names_calls (s : ByteArray) (hs : s.size < 9223372036854775807) (E : Int → Addr) (w : World) (hE : Errs All w E) : Calls Tryd.prog 3 #[.string s] w fun e w' => e = .returned (.bool true) ∧ Below w.heap.size w w' := by
  have HE := Aside0.mk (AllAt.of hE)
  have HS := Aside0.mk hs
  clear hE hs
  have HAl := Aside0.mk (alive_calls w.heap.size E w (Nat.le_refl _) HE.out.disk)
  by_cases hl : 200 < s.size
  · have t1 : decide ((200 : Int) < (s.size : Int)) = true := decide_eq_true (by omega)
    have t1' : decide (200 < s.size) = true := decide_eq_true hl
    go_enter Tryd.func3, Tryd.ntmps3
    go_wp2_with (first
      | (go_at_call 6; refine HAl.out.mono ?_; rintro e w1 ⟨rfl, ht⟩; have HT1 := Aside0.mk ht; clear ht))
    all_goals try go_ret
    exact ⟨rfl, HT1.out.toBelow (Nat.le_refl _)⟩
  · have t1 : decide ((200 : Int) < (s.size : Int)) = false := decide_eq_false (by omega)
    have t1' : decide (200 < s.size) = false := decide_eq_false hl
    cases hr : rightB s with
    | false =>
      have HR := Aside0.mk hr
      have HRC := Aside0.mk (fun (U : World) => refRight_calls s HS.out U)
      rw [hr] at HRC
      clear hr
      go_enter Tryd.func3, Tryd.ntmps3
      go_wp2_with (first
        | (go_at_call 6; refine HAl.out.mono ?_; rintro e w1 ⟨rfl, ht⟩; have HT1 := Aside0.mk ht; clear ht)
        | (go_at_call 7; refine (newD_calls 100 (by decide) (by decide) w.heap.size w1 HT1.out.size).mono ?_; rintro e w2 ⟨p, rfl, hd, ht⟩; have HD2 := Aside0.mk hd; have HT2 := Aside0.mk (HT1.out.trans ht); clear hd ht)
        | (go_at_call 8; refine (create_calls (h := HD2.out) (hE := HE.out.disk.turn HT2.out) (hk := newD_ok 100 (by decide) (by decide)) (hst := by decide) (s := s) (hs := HS.out)).mono ?_; rw [wrong rfl HR.out, errV_some]; rintro e w3 ⟨rfl, hd, ht⟩; have HD3 := Aside0.mk hd; have HT3 := Aside0.mk (HT2.out.trans ht); clear hd ht)
        | (go_at_call 9; refine (HRC.out _).mono ?_; rintro e w4 ⟨rfl, hb⟩; have HD4 := Aside0.mk (HD3.out.below hb); have HT4 := Aside0.mk (HT3.out.below hb); clear hb)
        | (go_at_call 10; refine (num_calls (some 4) 4 E _ (HE.out.turn HT4.out).errs rfl).mono ?_; rintro e w5 ⟨rfl, hb⟩; have HD5 := Aside0.mk (HD4.out.below hb); have HT5 := Aside0.mk (HT4.out.below hb); clear hb)
        | (go_at_call 11; refine (steps_calls (h := HD5.out)).mono ?_; rintro e w6 ⟨rfl, rfl⟩))
      all_goals try go_ret
      exact ⟨rfl, HT5.out.toBelow (Nat.le_refl _)⟩
    | true =>
      have HR := Aside0.mk hr
      have HRC := Aside0.mk (fun (U : World) => refRight_calls s HS.out U)
      rw [hr] at HRC
      have HM := Aside0.mk (createD_made (D := newD 100) (s := s) rfl hr rfl (by decide) (by decide))
      have HOk := Aside0.mk (madeD_ok (newD_ok 100 (by decide) (by decide)) s (right_size hr))
      clear hr
      go_enter Tryd.func3, Tryd.ntmps3
      go_wp2_with (first
        | (go_at_call 6; refine HAl.out.mono ?_; rintro e w1 ⟨rfl, ht⟩; have HT1 := Aside0.mk ht; clear ht)
        | (go_at_call 7; refine (newD_calls 100 (by decide) (by decide) w.heap.size w1 HT1.out.size).mono ?_; rintro e w2 ⟨p, rfl, hd, ht⟩; have HD2 := Aside0.mk hd; have HT2 := Aside0.mk (HT1.out.trans ht); clear hd ht)
        | (go_at_call 8; refine (create_calls (h := HD2.out) (hE := HE.out.disk.turn HT2.out) (hk := newD_ok 100 (by decide) (by decide)) (hst := by decide) (s := s) (hs := HS.out)).mono ?_; rw [HM.out, errV_none]; rintro e w3 ⟨rfl, hd, ht⟩; have HD3 := Aside0.mk hd; have HT3 := Aside0.mk (HT2.out.trans ht); clear hd ht HD2)
        | (go_at_call 9; refine (HRC.out _).mono ?_; rintro e w4 ⟨rfl, hb⟩; have HD4 := Aside0.mk (HD3.out.below hb); have HT4 := Aside0.mk (HT3.out.below hb); clear hb)
        | (go_at_call 8; refine (create_calls (h := HD4.out) (hE := HE.out.disk.turn HT4.out) (hk := HOk.out) (hst := (show (1 : Int) ≤ 1000000000 by decide)) (s := s) (hs := HS.out)).mono ?_; rw [made_again HR.out, errV_some]; rintro e w5 ⟨rfl, hd, ht⟩; have HD5 := Aside0.mk hd; have HT5 := Aside0.mk (HT4.out.trans ht); clear hd ht)
        | (go_at_call 10; refine (num_calls (some 6) 6 E _ (HE.out.turn HT5.out).errs rfl).mono ?_; rintro e w6 ⟨rfl, hb⟩; have HD6 := Aside0.mk (HD5.out.below hb); have HT6 := Aside0.mk (HT5.out.below hb); clear hb)
        | (go_at_call 11; refine (steps_calls (h := HD6.out)).mono ?_; rw [show (madeD (newD 100) s).steps = 1 from rfl]; rintro e w7 ⟨rfl, rfl⟩))
      all_goals try go_ret
      exact ⟨rfl, HT6.out.toBelow (Nat.le_refl _)⟩
end Go.Proofs.YtpcfnkmljchiiaaDoor.DNms
