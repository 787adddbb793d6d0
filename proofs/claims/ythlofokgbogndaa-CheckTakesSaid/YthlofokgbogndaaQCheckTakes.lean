/- CheckTakes, the walk: which bytes begin with a whole record, and what is behind it; what is handed in stays. -/
import Derived.Test.YthlofokgbogndaaLibCk
import Derived.Test.YthlofokgbogndaaGCheckx
namespace Go.Proofs.Ythlofokgbogndaa.GCheck
open Go.RowKit Go.Proofs.YthlofokgbogndaaW.PrintWords Go.Proofs.YthlofokgbogndaaW.PrintLast Go.Proofs.YthlofokgbogndaaW.PrintMore Go.Proofs.Ythlofokgbogndaa.Lib04
set_option linter.unusedVariables false
set_option linter.unusedSimpArgs false

theorem room_reads {w : World} {a : Addr} {c : Nat} {base : Nat} {l0 : List Int} (h : Kd.R (Kd.int .u8) 5 w base (fun _ => True) (.slice (some a) (l0.length + 6) c) (l0 ++ six)) : Kd.C (Kd.int .u8) w (some a) (l0.length + 6) (l0 ++ six) := by
  have h1 := (Kd.R_reads' h).2.2
  have e : (l0 ++ six).length = l0.length + 6 := by simp [six]
  rw [e] at h1
  exact h1
set_option maxHeartbeats 8000000 in
set_option maxRecDepth 100000 in
theorem takes_walk (A0 : Option Addr) (c0 : Nat) (l0 : List Int) (w : World) (hr0 : Kd.C (Kd.int .u8) w A0 l0.length l0) (hc0 : l0.length ≤ c0) (hB : isB l0) :
    Calls Try.prog 5 #[.slice A0 l0.length c0] w fun e w' => e = .returned (.bool true) ∧ Below w.heap.size w w' := by
  have HR0 := Aside0.mk hr0
  have HC0 := Aside0.mk hc0
  have HBY := Aside0.mk hB
  have HA := Aside0.mk (alive_f 10 (by omega))
  clear hr0 hc0 hB
  by_cases hbig : 20000 < (l0.length : Int)
  · have t1 : decide (20000 < (l0.length : Int)) = true := decide_eq_true hbig
    clear hbig
    go_enter Try.func5, Try.ntmps5
    go_wp2_with (go_at_call 7; (with_reducible refine (postbaglaw04_alive.calls 10 true _ HA.out).mono ?_); rintro e w' ⟨rfl, hb⟩; have HB := Aside0.mk hb; clear hb)
    go_ret
    exact ⟨rfl, HB.out⟩
  have t1 : decide (20000 < (l0.length : Int)) = false := decide_eq_false hbig
  have hn : l0.length ≤ 20000 := by omega
  have LM := Aside0.mk hn
  have HT := Aside0.mk (take_f HBY.out (by omega) 30000 (by omega))
  have HW := Aside0.mk (whole_f HBY.out hn 30000 (by omega))
  clear hn hbig
  cases hw : wholeS l0 with
  | none =>
    have HT' := HT.out
    have HW' := HW.out
    rw [hw] at HT' HW'
    clear HT HW hw
    have HT := Aside0.mk HT'
    have HW := Aside0.mk HW'
    clear HT' HW'
    go_enter Try.func5, Try.ntmps5
    go_wp2_with (first
      | (go_at_call 7; (with_reducible refine (postbaglaw04_alive.calls 10 true _ HA.out).mono ?_); rintro e w1 ⟨rfl, hb⟩; have HB1 := Aside0.mk hb; clear hb)
      | (go_at_call 12; (with_reducible refine (postbagnum_Bytes.calls _ _ l0 _ (Kd.C_below HR0.out HB1.out) HC0.out (Nat.le_trans LM.out (by decide))).mono ?_); rintro e w2 ⟨a, c, rfl, hac, hR, hb⟩; have HC2 := Aside0.mk hac; have HM2 := Aside0.mk (room_reads hR); have HB2 := Aside0.mk (below_step HB1.out hb); clear hac hR hb)
      | (go_at_call 13; (with_reducible refine (check_Take.calls 30000 _ _ l0 [] [] false _ (kept_head HM2.out) (Nat.le_trans (Nat.le_add_right _ _) HC2.out) HT.out).mono ?_); rintro e w3 ⟨v0, v1, rfl, hR0, hR1, hb⟩; have HM3 := Aside0.mk (Kd.C_below HM2.out hb); have HB3 := Aside0.mk (below_step HB2.out hb); obtain ⟨A5, c5, e5⟩ := Kd.R_slice hR0; obtain ⟨A6, c6, e6⟩ := Kd.R_slice hR1; subst e5 e6; clear hR0 hR1 hb)
      | (go_at_call 14; (with_reducible refine (postbagref04_Whole.calls 30000 _ _ l0 _ _ (Kd.C_below HR0.out HB3.out) HC0.out HW.out).mono ?_); rintro e w' ⟨rfl, ⟨nd, rfl⟩⟩)
      | (go_at_call 15; (with_reducible refine (postbagnum_Kept.calls _ _ _ _ l0 _ (Kd.C_drewN HM3.out _) HC2.out (Kd.C_drewN (Kd.C_below HR0.out HB3.out) _) HC0.out (Nat.le_trans LM.out (by decide))).mono ?_); rintro e w' ⟨rfl, ⟨nd2, rfl⟩⟩))
    go_ret
    exact ⟨rfl, by repeat (first | exact HB3.out | apply pw_below_drewN)⟩
  | some n =>
    have HT' := HT.out
    have HW' := HW.out
    rw [hw] at HT' HW'
    have hin : 8 + n ≤ l0.length := by
      unfold wholeS at hw
      split at hw
      · rename_i hc
        have := Option.some.inj hw
        have hv := val4_range HBY.out
        omega
      · exact absurd hw (by simp)
    clear HT HW hw
    have HT := Aside0.mk HT'
    have HW := Aside0.mk HW'
    clear HT' HW'
    have hnn : (n : Int) ≤ 20000 := by have := LM.out; omega
    have h89 : 8 + (n : Int) ≤ (l0.length : Int) := by omega
    obtain ⟨i12, hi12, _, hsz12, _⟩ := info_parts info5
    obtain ⟨A7, hcut7, hA7, hC7⟩ := print_mid_of (P := Try.prog) (Value.int .u8) (0 : Int) 23 5 .i64 .i64 Try.underlying23 hi12 hsz12 A0 c0 l0 8 (8 + (n : Int)) (by omega) (by omega) h89 HC0.out
    obtain ⟨A8, hcut8, hA8, hC8⟩ := print_drop_of (P := Try.prog) (Value.int .u8) (0 : Int) 23 5 .i64 Try.underlying23 hi12 hsz12 A0 c0 l0 (8 + (n : Int)) (by omega) h89 HC0.out
    have el7 : (l0.take (8 + (n : Int)).toNat).drop (8 : Int).toNat = (l0.drop 8).take n := by
      have := mid_eq l0 (n : Int) (by omega)
      simpa using this
    have el8 : (8 + (n : Int)).toNat = 8 + n := by omega
    rw [el7] at hcut7 hA7 hC7
    rw [el8] at hcut8 hA8 hC8
    obtain ⟨r1, hr1⟩ : ∃ x, x = (l0.drop 8).take n := ⟨_, rfl⟩
    obtain ⟨r2, hr2⟩ : ∃ x, x = l0.drop (8 + n) := ⟨_, rfl⟩
    rw [← hr1] at hcut7 hA7 hC7
    rw [← hr2] at hcut8 hA8 hC8
    have HT2 := HT.out
    simp only [← hr1, ← hr2] at HT2
    clear HT
    have HT := Aside0.mk HT2
    obtain ⟨m7, hm7⟩ : ∃ x, x = r1.length := ⟨_, rfl⟩
    obtain ⟨m8, hm8⟩ : ∃ x, x = r2.length := ⟨_, rfl⟩
    obtain ⟨d7, hd7⟩ : ∃ x, x = c0 - (8 : Int).toNat := ⟨_, rfl⟩
    obtain ⟨d8, hd8⟩ : ∃ x, x = c0 - (8 + n) := ⟨_, rfl⟩
    rw [← hm7, ← hd7] at hcut7
    rw [← hm8, ← hd8] at hcut8
    have K7 := Aside0.mk (show ∀ (x : World) (B : Option Addr) (cB : Nat), Kd.C (Kd.int .u8) x B r1.length r1 → r1.length ≤ cB → Kd.C (Kd.int .u8) x A0 l0.length l0 → Calls Try.prog 16 #[.slice B m7 cB, .slice A7 m7 d7] x fun e w' => e = .returned (.bool true) ∧ Drawn0 x w' from fun x B cB hB hcB hx => by
      subst hm7 hd7
      exact postbagnum_SameBytes.calls _ _ r1 _ _ r1 true x hB hcB (Kd.C_of_reads (d := (0 : Int)) (h1 := fun _ => rfl) (hA7 x (Kd.reads_of_C hx))) hC7 (same_f rfl))
    have K8 := Aside0.mk (show ∀ (x : World) (B : Option Addr) (cB : Nat), Kd.C (Kd.int .u8) x B r2.length r2 → r2.length ≤ cB → Kd.C (Kd.int .u8) x A0 l0.length l0 → Calls Try.prog 16 #[.slice B m8 cB, .slice A8 m8 d8] x fun e w' => e = .returned (.bool true) ∧ Drawn0 x w' from fun x B cB hB hcB hx => by
      subst hm8 hd8
      exact postbagnum_SameBytes.calls _ _ r2 _ _ r2 true x hB hcB (Kd.C_of_reads (d := (0 : Int)) (h1 := fun _ => rfl) (hA8 x (Kd.reads_of_C hx))) hC8 (same_f rfl))
    have HM7 := Aside0.mk hm7
    have HM8 := Aside0.mk hm8
    clear hA7 hA8 hC7 hC8 el7 el8 hr1 hr2 hm7 hm8 hd7 hd8 hi12 hsz12 HT2
    have tn : decide ((n : Int) < 0) = false := decide_eq_false (by omega)
    go_enter Try.func5, Try.ntmps5
    go_wp2_with (first
      | (go_at_call 7; (with_reducible refine (postbaglaw04_alive.calls 10 true _ HA.out).mono ?_); rintro e w1 ⟨rfl, hb⟩; have HB1 := Aside0.mk hb; clear hb)
      | (go_at_call 12; (with_reducible refine (postbagnum_Bytes.calls _ _ l0 _ (Kd.C_below HR0.out HB1.out) HC0.out (Nat.le_trans LM.out (by decide))).mono ?_); rintro e w2 ⟨a, c, rfl, hac, hR, hb⟩; have HC2 := Aside0.mk hac; have HM2 := Aside0.mk (room_reads hR); have HB2 := Aside0.mk (below_step HB1.out hb); clear hac hR hb)
      | (go_at_call 13; (with_reducible refine (check_Take.calls 30000 _ _ l0 r1 r2 true _ (kept_head HM2.out) (Nat.le_trans (Nat.le_add_right _ _) HC2.out) HT.out).mono ?_); rintro e w3 ⟨v0, v1, rfl, hR0, hR1, hb⟩; have HM3 := Aside0.mk (Kd.C_below HM2.out hb); have HB3 := Aside0.mk (below_step HB2.out hb); obtain ⟨A5, c5, e5⟩ := Kd.R_slice hR0; obtain ⟨A6, c6, e6⟩ := Kd.R_slice hR1; subst e5 e6; have HV5 := Aside0.mk (Kd.R_reads' hR0).2; have HV6 := Aside0.mk (Kd.R_reads' hR1).2; rw [← HM7.out]; rw [← HM8.out]; clear hR0 hR1 hb)
      | (go_at_call 14; (with_reducible refine (postbagref04_Whole.calls 30000 _ _ l0 _ _ (Kd.C_below HR0.out HB3.out) HC0.out HW.out).mono ?_); rintro e w' ⟨rfl, ⟨nd, rfl⟩⟩)
      | (go_at_call 15; (with_reducible refine (postbagnum_Kept.calls _ _ _ _ l0 _ (Kd.C_drewN HM3.out _) HC2.out (Kd.C_drewN (Kd.C_below HR0.out HB3.out) _) HC0.out (Nat.le_trans LM.out (by decide))).mono ?_); rintro e w' ⟨rfl, ⟨nd2, rfl⟩⟩)
      | (go_at_call 16; (with_reducible refine (K7.out _ _ _ ?s1 HV5.out.1 ?s2).mono ?_); (case s1 => repeat (first | exact HV5.out.2 | (with_reducible refine Kd.C_drewN ?_ _))); (case s2 => repeat (first | exact Kd.C_below HR0.out HB3.out | (with_reducible refine Kd.C_drewN ?_ _))); rintro e w' ⟨rfl, ⟨nd3, rfl⟩⟩)
      | (go_at_call 16; (with_reducible refine (K8.out _ _ _ ?s1 HV6.out.1 ?s2).mono ?_); (case s1 => repeat (first | exact HV6.out.2 | (with_reducible refine Kd.C_drewN ?_ _))); (case s2 => repeat (first | exact Kd.C_below HR0.out HB3.out | (with_reducible refine Kd.C_drewN ?_ _))); rintro e w' ⟨rfl, ⟨nd3, rfl⟩⟩))
    go_ret
    exact ⟨rfl, by repeat (first | exact HB3.out | apply pw_below_drewN)⟩
end Go.Proofs.Ythlofokgbogndaa.GCheck
