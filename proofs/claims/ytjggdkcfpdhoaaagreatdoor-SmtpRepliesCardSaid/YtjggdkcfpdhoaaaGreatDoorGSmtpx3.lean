/- Written by a program of mine (wip/tools/mkprint.py turns the kit's print; given contracts by hand). Lean checks it. -/
import Derived.Test.YtjggdkcfpdhoaaaGreatDoorGSmtpx0
import Derived.Test.YtjggdkcfpdhoaaaGreatDoorGSmtpx1
namespace Go.Proofs.YtjggdkcfpdhoaaaGreatDoor.GSmtp
open Go.RowKit Go.Proofs.YtjggdkcfpdhoaaaGreatDoorW.PrintWords Go.Proofs.YtjggdkcfpdhoaaaGreatDoorW.PrintLast Go.Proofs.YtjggdkcfpdhoaaaGreatDoorW.PrintMore
attribute [local go_sem] max2_int min2_int max_two min_two max_three min_three max_four min_four   -- for this text's walks alone
set_option linter.unusedVariables false
set_option linter.unusedSimpArgs false

/-! ### postbagref08_mark: function 57 -/
def postbagref08_mark.f (a0 : Int) : Option (Bool) := if a0 = 33 then (some true) else (if a0 = 35 then (some true) else (if a0 = 36 then (some true) else (if a0 = 37 then (some true) else (if a0 = 38 then (some true) else (if a0 = 39 then (some true) else (if a0 = 42 then (some true) else (if a0 = 43 then (some true) else (if a0 = 45 then (some true) else (if a0 = 47 then (some true) else (if a0 = 61 then (some true) else (if a0 = 63 then (some true) else (if a0 = 94 then (some true) else (if a0 = 95 then (some true) else (if a0 = 96 then (some true) else (if a0 = 123 then (some true) else (if a0 = 124 then (some true) else (if a0 = 125 then (some true) else (if a0 = 126 then (some true) else (some false)))))))))))))))))))
set_option maxHeartbeats 8000000 in
set_option maxRecDepth 100000 in
theorem postbagref08_mark.calls (a0 : Int) (r : Bool) (w : World) (h : postbagref08_mark.f a0 = some r) :
    Calls Tryz.prog 57 #[.int .u8 a0] w fun e w' => e = .returned (.bool r) ∧ Drawn0 w w' := by
  have H : (if a0 = 33 then (some true) else (if a0 = 35 then (some true) else (if a0 = 36 then (some true) else (if a0 = 37 then (some true) else (if a0 = 38 then (some true) else (if a0 = 39 then (some true) else (if a0 = 42 then (some true) else (if a0 = 43 then (some true) else (if a0 = 45 then (some true) else (if a0 = 47 then (some true) else (if a0 = 61 then (some true) else (if a0 = 63 then (some true) else (if a0 = 94 then (some true) else (if a0 = 95 then (some true) else (if a0 = 96 then (some true) else (if a0 = 123 then (some true) else (if a0 = 124 then (some true) else (if a0 = 125 then (some true) else (if a0 = 126 then (some true) else (some false)))))))))))))))))))) = some r := h
  clear h
  by_cases c2 : a0 = 33
  · rw [if_pos c2] at H
    have c2b0 : (a0 == 33) = true := beq_iff_eq.mpr c2
    have c2b1 : (a0 != 33) = false := bne_eq_false_iff_eq.mpr c2
    clear c2
    obtain rfl := Option.some.inj H
    go_enter Tryz.func57, Tryz.ntmps57
    go_wp2
    go_ret
    exact ⟨by first | rfl | (simp; done) | (simp [*]; done) | (simp [Go.Proofs.YtjggdkcfpdhoaaaGreatDoorW.SRows.bne_nil_]; done), by repeat (first | exact Drawn0.refl _ | apply Drawn0.step)⟩
  · rw [if_neg c2] at H
    have c2b0 : (a0 == 33) = false := beq_eq_false_iff_ne.mpr c2
    have c2b1 : (a0 != 33) = true := bne_iff_ne.mpr c2
    by_cases c3 : a0 = 35
    · rw [if_pos c3] at H
      have c3b0 : (a0 == 35) = true := beq_iff_eq.mpr c3
      have c3b1 : (a0 != 35) = false := bne_eq_false_iff_eq.mpr c3
      clear c3
      obtain rfl := Option.some.inj H
      go_enter Tryz.func57, Tryz.ntmps57
      go_wp2
      go_ret
      exact ⟨by first | rfl | (simp; done) | (simp [*]; done) | (simp [Go.Proofs.YtjggdkcfpdhoaaaGreatDoorW.SRows.bne_nil_]; done), by repeat (first | exact Drawn0.refl _ | apply Drawn0.step)⟩
    · rw [if_neg c3] at H
      have c3b0 : (a0 == 35) = false := beq_eq_false_iff_ne.mpr c3
      have c3b1 : (a0 != 35) = true := bne_iff_ne.mpr c3
      by_cases c4 : a0 = 36
      · rw [if_pos c4] at H
        have c4b0 : (a0 == 36) = true := beq_iff_eq.mpr c4
        have c4b1 : (a0 != 36) = false := bne_eq_false_iff_eq.mpr c4
        clear c4
        obtain rfl := Option.some.inj H
        go_enter Tryz.func57, Tryz.ntmps57
        go_wp2
        go_ret
        exact ⟨by first | rfl | (simp; done) | (simp [*]; done) | (simp [Go.Proofs.YtjggdkcfpdhoaaaGreatDoorW.SRows.bne_nil_]; done), by repeat (first | exact Drawn0.refl _ | apply Drawn0.step)⟩
      · rw [if_neg c4] at H
        have c4b0 : (a0 == 36) = false := beq_eq_false_iff_ne.mpr c4
        have c4b1 : (a0 != 36) = true := bne_iff_ne.mpr c4
        by_cases c5 : a0 = 37
        · rw [if_pos c5] at H
          have c5b0 : (a0 == 37) = true := beq_iff_eq.mpr c5
          have c5b1 : (a0 != 37) = false := bne_eq_false_iff_eq.mpr c5
          clear c5
          obtain rfl := Option.some.inj H
          go_enter Tryz.func57, Tryz.ntmps57
          go_wp2
          go_ret
          exact ⟨by first | rfl | (simp; done) | (simp [*]; done) | (simp [Go.Proofs.YtjggdkcfpdhoaaaGreatDoorW.SRows.bne_nil_]; done), by repeat (first | exact Drawn0.refl _ | apply Drawn0.step)⟩
        · rw [if_neg c5] at H
          have c5b0 : (a0 == 37) = false := beq_eq_false_iff_ne.mpr c5
          have c5b1 : (a0 != 37) = true := bne_iff_ne.mpr c5
          by_cases c6 : a0 = 38
          · rw [if_pos c6] at H
            have c6b0 : (a0 == 38) = true := beq_iff_eq.mpr c6
            have c6b1 : (a0 != 38) = false := bne_eq_false_iff_eq.mpr c6
            clear c6
            obtain rfl := Option.some.inj H
            go_enter Tryz.func57, Tryz.ntmps57
            go_wp2
            go_ret
            exact ⟨by first | rfl | (simp; done) | (simp [*]; done) | (simp [Go.Proofs.YtjggdkcfpdhoaaaGreatDoorW.SRows.bne_nil_]; done), by repeat (first | exact Drawn0.refl _ | apply Drawn0.step)⟩
          · rw [if_neg c6] at H
            have c6b0 : (a0 == 38) = false := beq_eq_false_iff_ne.mpr c6
            have c6b1 : (a0 != 38) = true := bne_iff_ne.mpr c6
            by_cases c7 : a0 = 39
            · rw [if_pos c7] at H
              have c7b0 : (a0 == 39) = true := beq_iff_eq.mpr c7
              have c7b1 : (a0 != 39) = false := bne_eq_false_iff_eq.mpr c7
              clear c7
              obtain rfl := Option.some.inj H
              go_enter Tryz.func57, Tryz.ntmps57
              go_wp2
              go_ret
              exact ⟨by first | rfl | (simp; done) | (simp [*]; done) | (simp [Go.Proofs.YtjggdkcfpdhoaaaGreatDoorW.SRows.bne_nil_]; done), by repeat (first | exact Drawn0.refl _ | apply Drawn0.step)⟩
            · rw [if_neg c7] at H
              have c7b0 : (a0 == 39) = false := beq_eq_false_iff_ne.mpr c7
              have c7b1 : (a0 != 39) = true := bne_iff_ne.mpr c7
              by_cases c8 : a0 = 42
              · rw [if_pos c8] at H
                have c8b0 : (a0 == 42) = true := beq_iff_eq.mpr c8
                have c8b1 : (a0 != 42) = false := bne_eq_false_iff_eq.mpr c8
                clear c8
                obtain rfl := Option.some.inj H
                go_enter Tryz.func57, Tryz.ntmps57
                go_wp2
                go_ret
                exact ⟨by first | rfl | (simp; done) | (simp [*]; done) | (simp [Go.Proofs.YtjggdkcfpdhoaaaGreatDoorW.SRows.bne_nil_]; done), by repeat (first | exact Drawn0.refl _ | apply Drawn0.step)⟩
              · rw [if_neg c8] at H
                have c8b0 : (a0 == 42) = false := beq_eq_false_iff_ne.mpr c8
                have c8b1 : (a0 != 42) = true := bne_iff_ne.mpr c8
                by_cases c9 : a0 = 43
                · rw [if_pos c9] at H
                  have c9b0 : (a0 == 43) = true := beq_iff_eq.mpr c9
                  have c9b1 : (a0 != 43) = false := bne_eq_false_iff_eq.mpr c9
                  clear c9
                  obtain rfl := Option.some.inj H
                  go_enter Tryz.func57, Tryz.ntmps57
                  go_wp2
                  go_ret
                  exact ⟨by first | rfl | (simp; done) | (simp [*]; done) | (simp [Go.Proofs.YtjggdkcfpdhoaaaGreatDoorW.SRows.bne_nil_]; done), by repeat (first | exact Drawn0.refl _ | apply Drawn0.step)⟩
                · rw [if_neg c9] at H
                  have c9b0 : (a0 == 43) = false := beq_eq_false_iff_ne.mpr c9
                  have c9b1 : (a0 != 43) = true := bne_iff_ne.mpr c9
                  by_cases c10 : a0 = 45
                  · rw [if_pos c10] at H
                    have c10b0 : (a0 == 45) = true := beq_iff_eq.mpr c10
                    have c10b1 : (a0 != 45) = false := bne_eq_false_iff_eq.mpr c10
                    clear c10
                    obtain rfl := Option.some.inj H
                    go_enter Tryz.func57, Tryz.ntmps57
                    go_wp2
                    go_ret
                    exact ⟨by first | rfl | (simp; done) | (simp [*]; done) | (simp [Go.Proofs.YtjggdkcfpdhoaaaGreatDoorW.SRows.bne_nil_]; done), by repeat (first | exact Drawn0.refl _ | apply Drawn0.step)⟩
                  · rw [if_neg c10] at H
                    have c10b0 : (a0 == 45) = false := beq_eq_false_iff_ne.mpr c10
                    have c10b1 : (a0 != 45) = true := bne_iff_ne.mpr c10
                    by_cases c11 : a0 = 47
                    · rw [if_pos c11] at H
                      have c11b0 : (a0 == 47) = true := beq_iff_eq.mpr c11
                      have c11b1 : (a0 != 47) = false := bne_eq_false_iff_eq.mpr c11
                      clear c11
                      obtain rfl := Option.some.inj H
                      go_enter Tryz.func57, Tryz.ntmps57
                      go_wp2
                      go_ret
                      exact ⟨by first | rfl | (simp; done) | (simp [*]; done) | (simp [Go.Proofs.YtjggdkcfpdhoaaaGreatDoorW.SRows.bne_nil_]; done), by repeat (first | exact Drawn0.refl _ | apply Drawn0.step)⟩
                    · rw [if_neg c11] at H
                      have c11b0 : (a0 == 47) = false := beq_eq_false_iff_ne.mpr c11
                      have c11b1 : (a0 != 47) = true := bne_iff_ne.mpr c11
                      by_cases c12 : a0 = 61
                      · rw [if_pos c12] at H
                        have c12b0 : (a0 == 61) = true := beq_iff_eq.mpr c12
                        have c12b1 : (a0 != 61) = false := bne_eq_false_iff_eq.mpr c12
                        clear c12
                        obtain rfl := Option.some.inj H
                        go_enter Tryz.func57, Tryz.ntmps57
                        go_wp2
                        go_ret
                        exact ⟨by first | rfl | (simp; done) | (simp [*]; done) | (simp [Go.Proofs.YtjggdkcfpdhoaaaGreatDoorW.SRows.bne_nil_]; done), by repeat (first | exact Drawn0.refl _ | apply Drawn0.step)⟩
                      · rw [if_neg c12] at H
                        have c12b0 : (a0 == 61) = false := beq_eq_false_iff_ne.mpr c12
                        have c12b1 : (a0 != 61) = true := bne_iff_ne.mpr c12
                        by_cases c13 : a0 = 63
                        · rw [if_pos c13] at H
                          have c13b0 : (a0 == 63) = true := beq_iff_eq.mpr c13
                          have c13b1 : (a0 != 63) = false := bne_eq_false_iff_eq.mpr c13
                          clear c13
                          obtain rfl := Option.some.inj H
                          go_enter Tryz.func57, Tryz.ntmps57
                          go_wp2
                          go_ret
                          exact ⟨by first | rfl | (simp; done) | (simp [*]; done) | (simp [Go.Proofs.YtjggdkcfpdhoaaaGreatDoorW.SRows.bne_nil_]; done), by repeat (first | exact Drawn0.refl _ | apply Drawn0.step)⟩
                        · rw [if_neg c13] at H
                          have c13b0 : (a0 == 63) = false := beq_eq_false_iff_ne.mpr c13
                          have c13b1 : (a0 != 63) = true := bne_iff_ne.mpr c13
                          by_cases c14 : a0 = 94
                          · rw [if_pos c14] at H
                            have c14b0 : (a0 == 94) = true := beq_iff_eq.mpr c14
                            have c14b1 : (a0 != 94) = false := bne_eq_false_iff_eq.mpr c14
                            clear c14
                            obtain rfl := Option.some.inj H
                            go_enter Tryz.func57, Tryz.ntmps57
                            go_wp2
                            go_ret
                            exact ⟨by first | rfl | (simp; done) | (simp [*]; done) | (simp [Go.Proofs.YtjggdkcfpdhoaaaGreatDoorW.SRows.bne_nil_]; done), by repeat (first | exact Drawn0.refl _ | apply Drawn0.step)⟩
                          · rw [if_neg c14] at H
                            have c14b0 : (a0 == 94) = false := beq_eq_false_iff_ne.mpr c14
                            have c14b1 : (a0 != 94) = true := bne_iff_ne.mpr c14
                            by_cases c15 : a0 = 95
                            · rw [if_pos c15] at H
                              have c15b0 : (a0 == 95) = true := beq_iff_eq.mpr c15
                              have c15b1 : (a0 != 95) = false := bne_eq_false_iff_eq.mpr c15
                              clear c15
                              obtain rfl := Option.some.inj H
                              go_enter Tryz.func57, Tryz.ntmps57
                              go_wp2
                              go_ret
                              exact ⟨by first | rfl | (simp; done) | (simp [*]; done) | (simp [Go.Proofs.YtjggdkcfpdhoaaaGreatDoorW.SRows.bne_nil_]; done), by repeat (first | exact Drawn0.refl _ | apply Drawn0.step)⟩
                            · rw [if_neg c15] at H
                              have c15b0 : (a0 == 95) = false := beq_eq_false_iff_ne.mpr c15
                              have c15b1 : (a0 != 95) = true := bne_iff_ne.mpr c15
                              by_cases c16 : a0 = 96
                              · rw [if_pos c16] at H
                                have c16b0 : (a0 == 96) = true := beq_iff_eq.mpr c16
                                have c16b1 : (a0 != 96) = false := bne_eq_false_iff_eq.mpr c16
                                clear c16
                                obtain rfl := Option.some.inj H
                                go_enter Tryz.func57, Tryz.ntmps57
                                go_wp2
                                go_ret
                                exact ⟨by first | rfl | (simp; done) | (simp [*]; done) | (simp [Go.Proofs.YtjggdkcfpdhoaaaGreatDoorW.SRows.bne_nil_]; done), by repeat (first | exact Drawn0.refl _ | apply Drawn0.step)⟩
                              · rw [if_neg c16] at H
                                have c16b0 : (a0 == 96) = false := beq_eq_false_iff_ne.mpr c16
                                have c16b1 : (a0 != 96) = true := bne_iff_ne.mpr c16
                                by_cases c17 : a0 = 123
                                · rw [if_pos c17] at H
                                  have c17b0 : (a0 == 123) = true := beq_iff_eq.mpr c17
                                  have c17b1 : (a0 != 123) = false := bne_eq_false_iff_eq.mpr c17
                                  clear c17
                                  obtain rfl := Option.some.inj H
                                  go_enter Tryz.func57, Tryz.ntmps57
                                  go_wp2
                                  go_ret
                                  exact ⟨by first | rfl | (simp; done) | (simp [*]; done) | (simp [Go.Proofs.YtjggdkcfpdhoaaaGreatDoorW.SRows.bne_nil_]; done), by repeat (first | exact Drawn0.refl _ | apply Drawn0.step)⟩
                                · rw [if_neg c17] at H
                                  have c17b0 : (a0 == 123) = false := beq_eq_false_iff_ne.mpr c17
                                  have c17b1 : (a0 != 123) = true := bne_iff_ne.mpr c17
                                  by_cases c18 : a0 = 124
                                  · rw [if_pos c18] at H
                                    have c18b0 : (a0 == 124) = true := beq_iff_eq.mpr c18
                                    have c18b1 : (a0 != 124) = false := bne_eq_false_iff_eq.mpr c18
                                    clear c18
                                    obtain rfl := Option.some.inj H
                                    go_enter Tryz.func57, Tryz.ntmps57
                                    go_wp2
                                    go_ret
                                    exact ⟨by first | rfl | (simp; done) | (simp [*]; done) | (simp [Go.Proofs.YtjggdkcfpdhoaaaGreatDoorW.SRows.bne_nil_]; done), by repeat (first | exact Drawn0.refl _ | apply Drawn0.step)⟩
                                  · rw [if_neg c18] at H
                                    have c18b0 : (a0 == 124) = false := beq_eq_false_iff_ne.mpr c18
                                    have c18b1 : (a0 != 124) = true := bne_iff_ne.mpr c18
                                    by_cases c19 : a0 = 125
                                    · rw [if_pos c19] at H
                                      have c19b0 : (a0 == 125) = true := beq_iff_eq.mpr c19
                                      have c19b1 : (a0 != 125) = false := bne_eq_false_iff_eq.mpr c19
                                      clear c19
                                      obtain rfl := Option.some.inj H
                                      go_enter Tryz.func57, Tryz.ntmps57
                                      go_wp2
                                      go_ret
                                      exact ⟨by first | rfl | (simp; done) | (simp [*]; done) | (simp [Go.Proofs.YtjggdkcfpdhoaaaGreatDoorW.SRows.bne_nil_]; done), by repeat (first | exact Drawn0.refl _ | apply Drawn0.step)⟩
                                    · rw [if_neg c19] at H
                                      have c19b0 : (a0 == 125) = false := beq_eq_false_iff_ne.mpr c19
                                      have c19b1 : (a0 != 125) = true := bne_iff_ne.mpr c19
                                      by_cases c20 : a0 = 126
                                      · rw [if_pos c20] at H
                                        have c20b0 : (a0 == 126) = true := beq_iff_eq.mpr c20
                                        have c20b1 : (a0 != 126) = false := bne_eq_false_iff_eq.mpr c20
                                        clear c20
                                        obtain rfl := Option.some.inj H
                                        go_enter Tryz.func57, Tryz.ntmps57
                                        go_wp2
                                        go_ret
                                        exact ⟨by first | rfl | (simp; done) | (simp [*]; done) | (simp [Go.Proofs.YtjggdkcfpdhoaaaGreatDoorW.SRows.bne_nil_]; done), by repeat (first | exact Drawn0.refl _ | apply Drawn0.step)⟩
                                      · rw [if_neg c20] at H
                                        have c20b0 : (a0 == 126) = false := beq_eq_false_iff_ne.mpr c20
                                        have c20b1 : (a0 != 126) = true := bne_iff_ne.mpr c20
                                        obtain rfl := Option.some.inj H
                                        go_enter Tryz.func57, Tryz.ntmps57
                                        go_wp2
                                        go_ret
                                        exact ⟨by first | rfl | (simp; done) | (simp [*]; done) | (simp [Go.Proofs.YtjggdkcfpdhoaaaGreatDoorW.SRows.bne_nil_]; done), by repeat (first | exact Drawn0.refl _ | apply Drawn0.step)⟩

/-! ### postbagref08_Local: function 41 -/
mutual
def postbagref08_Local.j0 : Nat → ByteArray → Bool → Option (Bool)
  | 0, _, _ => none
  | k + 1, x0, x11 => if x11 = true then (some false) else (postbagref08_Local.l0 k x0 0)
def postbagref08_Local.l0 : Nat → ByteArray → Int → Option (Bool)
  | 0, _, _ => none
  | k + 1, x0, x3 => if x3 < (x0.size : Int) then (if 0 ≤ x3 then (if (bt x0 x3) = 46 then (if x3 = 0 then (some false) else (if x3 = (wrap64 ((x0.size : Int) - 1)) then (some false) else (if 0 ≤ (wrap64 (x3 - 1)) then (if (wrap64 (x3 - 1)) < (x0.size : Int) then (if (bt x0 (wrap64 (x3 - 1))) = 46 then (some false) else (postbagref08_Local.l0 k x0 (wrap64 (x3 + 1)))) else (none)) else (none)))) else ((postbagref08_letter.f (bt x0 x3)).bind fun t103 => (if t103 = true then (postbagref08_Local.l0 k x0 (wrap64 (x3 + 1))) else ((postbagref08_digit.f (bt x0 x3)).bind fun t104 => (if t104 = true then (postbagref08_Local.l0 k x0 (wrap64 (x3 + 1))) else ((postbagref08_mark.f (bt x0 x3)).bind fun t105 => (if t105 = true then (postbagref08_Local.l0 k x0 (wrap64 (x3 + 1))) else (some false)))))))) else (none)) else (some true)
end
def postbagref08_Local.f (k : Nat) (a0 : ByteArray) : Option (Bool) := if (a0.size : Int) < 1 then (postbagref08_Local.j0 k a0 true) else (postbagref08_Local.j0 k a0 (decide ((a0.size : Int) > 64)))
theorem postbagref08_Local.mono_l : ∀ k, (∀ y0 y1, LeO (postbagref08_Local.j0 k y0 y1) (postbagref08_Local.j0 (k + 1) y0 y1)) ∧ (∀ y0 y1, LeO (postbagref08_Local.l0 k y0 y1) (postbagref08_Local.l0 (k + 1) y0 y1))
  | 0 => ⟨fun _ _ r h => by simp [postbagref08_Local.j0] at h, fun _ _ r h => by simp [postbagref08_Local.l0] at h⟩
  | k + 1 => by
    obtain ⟨ih0, ih1⟩ := postbagref08_Local.mono_l k
    refine ⟨?_, ?_⟩
    · intro y0 y1
      unfold postbagref08_Local.j0
      repeat' first
      | (with_reducible exact ih0 _ _)
      | (with_reducible exact ih1 _ _)
      | (with_reducible exact LeO.refl _)
      | (with_reducible exact LeO.none _)
      | (with_reducible refine LeO.ite ?_ ?_)
      | (with_reducible refine LeO.bind ?_ (fun _ => ?_))
      | exact ih0 _ _
      | exact ih1 _ _
      | exact LeO.none _
      | refine LeO.ite ?_ ?_
      | refine LeO.bind ?_ (fun _ => ?_)
    · intro y0 y1
      unfold postbagref08_Local.l0
      repeat' first
      | (with_reducible exact ih0 _ _)
      | (with_reducible exact ih1 _ _)
      | (with_reducible exact LeO.refl _)
      | (with_reducible exact LeO.none _)
      | (with_reducible refine LeO.ite ?_ ?_)
      | (with_reducible refine LeO.bind ?_ (fun _ => ?_))
      | exact ih0 _ _
      | exact ih1 _ _
      | exact LeO.none _
      | refine LeO.ite ?_ ?_
      | refine LeO.bind ?_ (fun _ => ?_)
theorem postbagref08_Local.mono : ∀ a0 k, LeO (postbagref08_Local.f k a0) (postbagref08_Local.f (k + 1) a0) := by
  intro a0 k
  obtain ⟨ih0, ih1⟩ := postbagref08_Local.mono_l k
  unfold postbagref08_Local.f
  repeat' first
      | (with_reducible exact ih0 _ _)
      | (with_reducible exact ih1 _ _)
      | (with_reducible exact LeO.refl _)
      | (with_reducible exact LeO.none _)
      | (with_reducible refine LeO.ite ?_ ?_)
      | (with_reducible refine LeO.bind ?_ (fun _ => ?_))
      | exact ih0 _ _
      | exact ih1 _ _
      | exact LeO.none _
      | refine LeO.ite ?_ ?_
      | refine LeO.bind ?_ (fun _ => ?_)
set_option maxHeartbeats 8000000 in
set_option maxRecDepth 100000 in
theorem postbagref08_Local.calls (k : Nat) (a0 : ByteArray) (r : Bool) (w : World) (h : postbagref08_Local.f k a0 = some r) :
    Calls Tryz.prog 41 #[.string a0] w fun e w' => e = .returned (.bool r) ∧ Drawn0 w w' := by
  have H : (if (a0.size : Int) < 1 then (postbagref08_Local.j0 k a0 true) else (postbagref08_Local.j0 k a0 (decide ((a0.size : Int) > 64)))) = some r := h
  clear h
  have HC2 := Aside0.mk H
  clear H
  go_enter Tryz.func41, Tryz.ntmps41
  go_upto_region 1 with (fail)
  go_cut [11] (fun v11 wc => ∃ (kq : Nat) (x11_1 : Bool), v11 = .bool x11_1 ∧ Aside0 (postbagref08_Local.j0 kq a0 x11_1 = some r) ∧ Aside0 (kq ≤ k) ∧ Drawn0 w wc)
  case first =>
    have H := HC2.out
    clear HC2
    by_cases c3 : (a0.size : Int) < 1
    · rw [if_pos c3] at H
      have c3b0 : decide ((a0.size : Int) < 1) = true := decide_eq_true c3
      have c3b1 : decide (a0.size < 1) = true := decide_eq_true (by omega)
      clear c3
      (first | rw [c3b0] | (simp only [i64_w, i32_w]; rw [c3b0]) | skip)
      have H' := Aside0.mk H
      clear H
      go_wp2
      go_meet
      case rel => exact ⟨_, (true), (by first | rfl | (simp; done) | (simp [*]; done)), H', ⟨by first | omega | exact Nat.le_refl _⟩, by repeat (first | exact Drawn0.refl _ | apply Drawn0.step)⟩
    · rw [if_neg c3] at H
      have c3b0 : decide ((a0.size : Int) < 1) = false := decide_eq_false c3
      have c3b1 : decide (a0.size < 1) = false := decide_eq_false (by omega)
      clear c3
      (first | rw [c3b0] | (simp only [i64_w, i32_w]; rw [c3b0]) | skip)
      have H' := Aside0.mk H
      clear H
      go_wp2
      go_meet
      case rel => exact ⟨_, (decide ((a0.size : Int) > 64)), (by first | rfl | (simp; done) | (simp [*]; done)), H', ⟨by first | omega | exact Nat.le_refl _⟩, by repeat (first | exact Drawn0.refl _ | apply Drawn0.step)⟩
  case rest =>
    clear HC2
    try clear p2
    try clear c3
    try clear c3b0
    try clear c3b1
    obtain ⟨kq, x11_1, rfl, HA, HJ1, ⟨mc1, rfl⟩⟩ := hcut
    cases kq with
    | zero => exact absurd HA.out (by simp [postbagref08_Local.j0])
    | succ kj1 =>
      have H := HA.out
      clear HA
      simp only [postbagref08_Local.j0] at H
      by_cases c4 : x11_1 = true
      · subst c4
        have H1 : (some false) = some r := by rw [if_pos rfl] at H; exact H
        clear H
        have H := H1
        clear H1
        obtain rfl := Option.some.inj H
        go_wp2
        go_ret
        exact ⟨by first | rfl | (simp; done) | (simp [*]; done) | (simp [Go.Proofs.YtjggdkcfpdhoaaaGreatDoorW.SRows.bne_nil_]; done), by repeat (first | exact Drawn0.refl _ | apply Drawn0.step)⟩
      · replace c4 := Bool.eq_false_iff.mpr c4
        subst c4
        have H1 : (postbagref08_Local.l0 kj1 a0 0) = some r := by rw [if_neg (show ¬ (false = true) by decide)] at H; exact H
        clear H
        have H := H1
        clear H1
        have H' := Aside0.mk H
        clear H
        go_wp2
        go_loopg [3] kj1 (fun kq v3 w' => ∃ (x3_2 : Int), v3 = .int .i64 x3_2 ∧ Aside0 (postbagref08_Local.l0 kq a0 x3_2 = some r) ∧ Aside0 (kq ≤ kj1) ∧ Drawn0 w w')
        case atStart => exact ⟨(0), (by first | rfl | (simp; done) | (simp [*]; done)), H', ⟨Nat.le_refl _⟩, by repeat (first | exact Drawn0.refl _ | apply Drawn0.step)⟩
        case round =>
          clear H'
          try clear c1
          try clear p2
          try clear c3
          try clear c3b0
          try clear c3b1
          try clear c4
          try clear p2
          obtain ⟨x3_2, rfl, HA, HK2, ⟨m2, rfl⟩⟩ := hrel
          cases gk with
          | zero => exact absurd HA.out (by simp [postbagref08_Local.l0])
          | succ k2 =>
            have H := HA.out
            clear HA
            simp only [postbagref08_Local.l0] at H
            by_cases c5 : x3_2 < (a0.size : Int)
            · rw [if_pos c5] at H
              have c5b0 : decide (x3_2 < (a0.size : Int)) = true := decide_eq_true c5
              clear c5
              by_cases c6 : 0 ≤ x3_2
              · rw [if_pos c6] at H
                have c6b0 : decide (0 ≤ x3_2) = true := decide_eq_true c6
                clear c6
                by_cases c8 : (bt a0 x3_2) = 46
                · rw [if_pos c8] at H
                  have c8b0 : ((bt a0 x3_2) == 46) = true := beq_iff_eq.mpr c8
                  have c8b1 : ((bt a0 x3_2) != 46) = false := bne_eq_false_iff_eq.mpr c8
                  clear c8
                  by_cases c9 : x3_2 = 0
                  · rw [if_pos c9] at H
                    have c9b0 : (x3_2 == 0) = true := beq_iff_eq.mpr c9
                    have c9b1 : (x3_2 != 0) = false := bne_eq_false_iff_eq.mpr c9
                    clear c9
                    obtain rfl := Option.some.inj H
                    have p7 : 0 ≤ (x3_2 : Int) := of_decide_eq_true (by first | (with_reducible assumption) | assumption)
                    have q7 : x3_2 < (a0.size : Int) := of_decide_eq_true (by first | (with_reducible assumption) | assumption)
                    have hx7 := bt_at a0 x3_2
                    replace p7 := eq_true p7
                    replace q7 := eq_true q7
                    go_wp2
                    go_ret
                    exact ⟨by first | rfl | (simp; done) | (simp [*]; done) | (simp [Go.Proofs.YtjggdkcfpdhoaaaGreatDoorW.SRows.bne_nil_]; done), by repeat (first | exact Drawn0.refl _ | apply Drawn0.step)⟩
                  · rw [if_neg c9] at H
                    have c9b0 : (x3_2 == 0) = false := beq_eq_false_iff_ne.mpr c9
                    have c9b1 : (x3_2 != 0) = true := bne_iff_ne.mpr c9
                    by_cases c10 : x3_2 = (wrap64 ((a0.size : Int) - 1))
                    · rw [if_pos c10] at H
                      have c10b0 : (x3_2 == (wrap64 ((a0.size : Int) - 1))) = true := beq_iff_eq.mpr c10
                      have c10b1 : (x3_2 != (wrap64 ((a0.size : Int) - 1))) = false := bne_eq_false_iff_eq.mpr c10
                      clear c10
                      obtain rfl := Option.some.inj H
                      have p7 : 0 ≤ (x3_2 : Int) := of_decide_eq_true (by first | (with_reducible assumption) | assumption)
                      have q7 : x3_2 < (a0.size : Int) := of_decide_eq_true (by first | (with_reducible assumption) | assumption)
                      have hx7 := bt_at a0 x3_2
                      replace p7 := eq_true p7
                      replace q7 := eq_true q7
                      go_wp2
                      go_ret
                      exact ⟨by first | rfl | (simp; done) | (simp [*]; done) | (simp [Go.Proofs.YtjggdkcfpdhoaaaGreatDoorW.SRows.bne_nil_]; done), by repeat (first | exact Drawn0.refl _ | apply Drawn0.step)⟩
                    · rw [if_neg c10] at H
                      have c10b0 : (x3_2 == (wrap64 ((a0.size : Int) - 1))) = false := beq_eq_false_iff_ne.mpr c10
                      have c10b1 : (x3_2 != (wrap64 ((a0.size : Int) - 1))) = true := bne_iff_ne.mpr c10
                      obtain ⟨ji11, hji11⟩ : ∃ j_ : Int, (wrap64 (x3_2 - 1)) = j_ := ⟨_, rfl⟩
                      replace H : (if 0 ≤ (ji11) then (if (ji11) < (a0.size : Int) then (if (bt a0 (ji11)) = 46 then (some false) else (postbagref08_Local.l0 k2 a0 (wrap64 (x3_2 + 1)))) else (none)) else (none)) = some r := by first | (rw [hji11] at H; exact H) | (simp only [hji11] at H ⊢; exact H)
                      have hji11w : (IntKind.i64.wrap (x3_2 - 1)) = ji11 := (i64_w _).trans hji11
                      by_cases c12 : 0 ≤ (ji11)
                      · rw [if_pos c12] at H
                        have c12b0 : decide (0 ≤ (ji11)) = true := decide_eq_true c12
                        clear c12
                        by_cases c13 : (ji11) < (a0.size : Int)
                        · rw [if_pos c13] at H
                          have c13b0 : decide ((ji11) < (a0.size : Int)) = true := decide_eq_true c13
                          clear c13
                          by_cases c15 : (bt a0 (ji11)) = 46
                          · rw [if_pos c15] at H
                            have c15b0 : ((bt a0 (ji11)) == 46) = true := beq_iff_eq.mpr c15
                            have c15b1 : ((bt a0 (ji11)) != 46) = false := bne_eq_false_iff_eq.mpr c15
                            clear c15
                            obtain rfl := Option.some.inj H
                            have p7 : 0 ≤ (x3_2 : Int) := of_decide_eq_true (by first | (with_reducible assumption) | assumption)
                            have q7 : x3_2 < (a0.size : Int) := of_decide_eq_true (by first | (with_reducible assumption) | assumption)
                            have hx7 := bt_at a0 x3_2
                            replace p7 := eq_true p7
                            replace q7 := eq_true q7
                            have p14 : 0 ≤ ((ji11) : Int) := of_decide_eq_true (by first | (with_reducible assumption) | assumption)
                            have q14 : (ji11) < (a0.size : Int) := of_decide_eq_true (by first | (with_reducible assumption) | assumption)
                            have hx14 := bt_at a0 (ji11)
                            replace p14 := eq_true p14
                            replace q14 := eq_true q14
                            go_wp2
                            go_ret
                            exact ⟨by first | rfl | (simp; done) | (simp only [← hji11] <;> (first | rfl | simp)) | (simp [*]; done), by repeat (first | exact Drawn0.refl _ | apply Drawn0.step)⟩
                          · rw [if_neg c15] at H
                            have c15b0 : ((bt a0 (ji11)) == 46) = false := beq_eq_false_iff_ne.mpr c15
                            have c15b1 : ((bt a0 (ji11)) != 46) = true := bne_iff_ne.mpr c15
                            have H' := Aside0.mk H
                            clear H
                            have p7 : 0 ≤ (x3_2 : Int) := of_decide_eq_true (by first | (with_reducible assumption) | assumption)
                            have q7 : x3_2 < (a0.size : Int) := of_decide_eq_true (by first | (with_reducible assumption) | assumption)
                            have hx7 := bt_at a0 x3_2
                            replace p7 := eq_true p7
                            replace q7 := eq_true q7
                            have p14 : 0 ≤ ((ji11) : Int) := of_decide_eq_true (by first | (with_reducible assumption) | assumption)
                            have q14 : (ji11) < (a0.size : Int) := of_decide_eq_true (by first | (with_reducible assumption) | assumption)
                            have hx14 := bt_at a0 (ji11)
                            replace p14 := eq_true p14
                            replace q14 := eq_true q14
                            go_wp2
                            go_roundg k2
                            case measure => have := HJ1.out; have := HK2.out; omega
                            case rel => exact ⟨(wrap64 (x3_2 + 1)), (by first | rfl | (simp; done) | (simp [*]; done)), H', ⟨by have := HJ1.out; have := HK2.out; omega⟩, by repeat (first | exact Drawn0.refl _ | apply Drawn0.step)⟩
                        · rw [if_neg c13] at H
                          exact absurd H (by simp)
                      · rw [if_neg c12] at H
                        exact absurd H (by simp)
                · rw [if_neg c8] at H
                  have c8b0 : ((bt a0 x3_2) == 46) = false := beq_eq_false_iff_ne.mpr c8
                  have c8b1 : ((bt a0 x3_2) != 46) = true := bne_iff_ne.mpr c8
                  replace H := Option.bind_eq_some_iff.mp H
                  obtain ⟨t103, A170, H⟩ := H
                  replace H : (if t103 = true then (postbagref08_Local.l0 k2 a0 (wrap64 (x3_2 + 1))) else ((postbagref08_digit.f (bt a0 x3_2)).bind fun t104 => (if t104 = true then (postbagref08_Local.l0 k2 a0 (wrap64 (x3_2 + 1))) else ((postbagref08_mark.f (bt a0 x3_2)).bind fun t105 => (if t105 = true then (postbagref08_Local.l0 k2 a0 (wrap64 (x3_2 + 1))) else (some false)))))) = some r := H
                  have A17 := Aside0.mk A170
                  clear A170
                  by_cases c18 : t103 = true
                  · subst c18
                    have H1 : (postbagref08_Local.l0 k2 a0 (wrap64 (x3_2 + 1))) = some r := by rw [if_pos rfl] at H; exact H
                    clear H
                    have H := H1
                    clear H1
                    have H' := Aside0.mk H
                    clear H
                    have p7 : 0 ≤ (x3_2 : Int) := of_decide_eq_true (by first | (with_reducible assumption) | assumption)
                    have q7 : x3_2 < (a0.size : Int) := of_decide_eq_true (by first | (with_reducible assumption) | assumption)
                    have hx7 := bt_at a0 x3_2
                    replace p7 := eq_true p7
                    replace q7 := eq_true q7
                    have p16 : 0 ≤ (x3_2 : Int) := of_decide_eq_true (by first | (with_reducible assumption) | assumption)
                    have q16 : x3_2 < (a0.size : Int) := of_decide_eq_true (by first | (with_reducible assumption) | assumption)
                    have hx16 := bt_at a0 x3_2
                    replace p16 := eq_true p16
                    replace q16 := eq_true q16
                    go_wp2_with (first | ((with_reducible refine gate_callee (f := 39) rfl ?_); refine goesL_ (some 41) rfl rfl Tryz.func39 (by kernel_rfl) rfl #[.int .u8 (bt a0 x3_2)] rfl (by (try simp only [List.map_toArray, List.map_cons, List.map_nil]); first | done | rfl | (simp only [List.length_drop, List.length_take]; rfl)) ?_; (with_reducible refine (postbagref08_letter.calls (bt a0 x3_2) true _ A17.out).mono ?_); rintro e w' ⟨rfl, ⟨nd, rfl⟩⟩; refine ⟨_, rfl, ?_⟩))
                    go_roundg k2
                    case measure => have := HJ1.out; have := HK2.out; omega
                    case rel => exact ⟨(wrap64 (x3_2 + 1)), (by first | rfl | (simp; done) | (simp [*]; done)), H', ⟨by have := HJ1.out; have := HK2.out; omega⟩, by repeat (first | exact Drawn0.refl _ | apply Drawn0.step)⟩
                  · replace c18 := Bool.eq_false_iff.mpr c18
                    subst c18
                    have H1 : ((postbagref08_digit.f (bt a0 x3_2)).bind fun t104 => (if t104 = true then (postbagref08_Local.l0 k2 a0 (wrap64 (x3_2 + 1))) else ((postbagref08_mark.f (bt a0 x3_2)).bind fun t105 => (if t105 = true then (postbagref08_Local.l0 k2 a0 (wrap64 (x3_2 + 1))) else (some false))))) = some r := by rw [if_neg (show ¬ (false = true) by decide)] at H; exact H
                    clear H
                    have H := H1
                    clear H1
                    replace H := Option.bind_eq_some_iff.mp H
                    obtain ⟨t104, A200, H⟩ := H
                    replace H : (if t104 = true then (postbagref08_Local.l0 k2 a0 (wrap64 (x3_2 + 1))) else ((postbagref08_mark.f (bt a0 x3_2)).bind fun t105 => (if t105 = true then (postbagref08_Local.l0 k2 a0 (wrap64 (x3_2 + 1))) else (some false)))) = some r := H
                    have A20 := Aside0.mk A200
                    clear A200
                    by_cases c21 : t104 = true
                    · subst c21
                      have H1 : (postbagref08_Local.l0 k2 a0 (wrap64 (x3_2 + 1))) = some r := by rw [if_pos rfl] at H; exact H
                      clear H
                      have H := H1
                      clear H1
                      have H' := Aside0.mk H
                      clear H
                      have p7 : 0 ≤ (x3_2 : Int) := of_decide_eq_true (by first | (with_reducible assumption) | assumption)
                      have q7 : x3_2 < (a0.size : Int) := of_decide_eq_true (by first | (with_reducible assumption) | assumption)
                      have hx7 := bt_at a0 x3_2
                      replace p7 := eq_true p7
                      replace q7 := eq_true q7
                      have p16 : 0 ≤ (x3_2 : Int) := of_decide_eq_true (by first | (with_reducible assumption) | assumption)
                      have q16 : x3_2 < (a0.size : Int) := of_decide_eq_true (by first | (with_reducible assumption) | assumption)
                      have hx16 := bt_at a0 x3_2
                      replace p16 := eq_true p16
                      replace q16 := eq_true q16
                      go_wp2_with (first | ((with_reducible refine gate_callee (f := 39) rfl ?_); refine goesL_ (some 41) rfl rfl Tryz.func39 (by kernel_rfl) rfl #[.int .u8 (bt a0 x3_2)] rfl (by (try simp only [List.map_toArray, List.map_cons, List.map_nil]); first | done | rfl | (simp only [List.length_drop, List.length_take]; rfl)) ?_; (with_reducible refine (postbagref08_letter.calls (bt a0 x3_2) false _ A17.out).mono ?_); rintro e w' ⟨rfl, ⟨nd, rfl⟩⟩; refine ⟨_, rfl, ?_⟩; have p19 : 0 ≤ (x3_2 : Int) := of_decide_eq_true (by first | (with_reducible assumption) | assumption); have q19 : x3_2 < (a0.size : Int) := of_decide_eq_true (by first | (with_reducible assumption) | assumption); have hx19 := bt_at a0 x3_2; replace p19 := eq_true p19; replace q19 := eq_true q19) | (go_at_call 40; (with_reducible refine (postbagref08_digit.calls (bt a0 x3_2) true _ A20.out).mono ?_); rintro e w' ⟨rfl, ⟨nd, rfl⟩⟩))
                      go_roundg k2
                      case measure => have := HJ1.out; have := HK2.out; omega
                      case rel => exact ⟨(wrap64 (x3_2 + 1)), (by first | rfl | (simp; done) | (simp [*]; done)), H', ⟨by have := HJ1.out; have := HK2.out; omega⟩, by repeat (first | exact Drawn0.refl _ | apply Drawn0.step)⟩
                    · replace c21 := Bool.eq_false_iff.mpr c21
                      subst c21
                      have H1 : ((postbagref08_mark.f (bt a0 x3_2)).bind fun t105 => (if t105 = true then (postbagref08_Local.l0 k2 a0 (wrap64 (x3_2 + 1))) else (some false))) = some r := by rw [if_neg (show ¬ (false = true) by decide)] at H; exact H
                      clear H
                      have H := H1
                      clear H1
                      replace H := Option.bind_eq_some_iff.mp H
                      obtain ⟨t105, A230, H⟩ := H
                      replace H : (if t105 = true then (postbagref08_Local.l0 k2 a0 (wrap64 (x3_2 + 1))) else (some false)) = some r := H
                      have A23 := Aside0.mk A230
                      clear A230
                      by_cases c24 : t105 = true
                      · subst c24
                        have H1 : (postbagref08_Local.l0 k2 a0 (wrap64 (x3_2 + 1))) = some r := by rw [if_pos rfl] at H; exact H
                        clear H
                        have H := H1
                        clear H1
                        have H' := Aside0.mk H
                        clear H
                        have p7 : 0 ≤ (x3_2 : Int) := of_decide_eq_true (by first | (with_reducible assumption) | assumption)
                        have q7 : x3_2 < (a0.size : Int) := of_decide_eq_true (by first | (with_reducible assumption) | assumption)
                        have hx7 := bt_at a0 x3_2
                        replace p7 := eq_true p7
                        replace q7 := eq_true q7
                        have p16 : 0 ≤ (x3_2 : Int) := of_decide_eq_true (by first | (with_reducible assumption) | assumption)
                        have q16 : x3_2 < (a0.size : Int) := of_decide_eq_true (by first | (with_reducible assumption) | assumption)
                        have hx16 := bt_at a0 x3_2
                        replace p16 := eq_true p16
                        replace q16 := eq_true q16
                        go_wp2_with (first | ((with_reducible refine gate_callee (f := 39) rfl ?_); refine goesL_ (some 41) rfl rfl Tryz.func39 (by kernel_rfl) rfl #[.int .u8 (bt a0 x3_2)] rfl (by (try simp only [List.map_toArray, List.map_cons, List.map_nil]); first | done | rfl | (simp only [List.length_drop, List.length_take]; rfl)) ?_; (with_reducible refine (postbagref08_letter.calls (bt a0 x3_2) false _ A17.out).mono ?_); rintro e w' ⟨rfl, ⟨nd, rfl⟩⟩; refine ⟨_, rfl, ?_⟩; have p19 : 0 ≤ (x3_2 : Int) := of_decide_eq_true (by first | (with_reducible assumption) | assumption); have q19 : x3_2 < (a0.size : Int) := of_decide_eq_true (by first | (with_reducible assumption) | assumption); have hx19 := bt_at a0 x3_2; replace p19 := eq_true p19; replace q19 := eq_true q19) | (go_at_call 40; (with_reducible refine (postbagref08_digit.calls (bt a0 x3_2) false _ A20.out).mono ?_); rintro e w' ⟨rfl, ⟨nd, rfl⟩⟩; have p22 : 0 ≤ (x3_2 : Int) := of_decide_eq_true (by first | (with_reducible assumption) | assumption); have q22 : x3_2 < (a0.size : Int) := of_decide_eq_true (by first | (with_reducible assumption) | assumption); have hx22 := bt_at a0 x3_2; replace p22 := eq_true p22; replace q22 := eq_true q22) | (go_at_call 57; (with_reducible refine (postbagref08_mark.calls (bt a0 x3_2) true _ A23.out).mono ?_); rintro e w' ⟨rfl, ⟨nd, rfl⟩⟩))
                        go_roundg k2
                        case measure => have := HJ1.out; have := HK2.out; omega
                        case rel => exact ⟨(wrap64 (x3_2 + 1)), (by first | rfl | (simp; done) | (simp [*]; done)), H', ⟨by have := HJ1.out; have := HK2.out; omega⟩, by repeat (first | exact Drawn0.refl _ | apply Drawn0.step)⟩
                      · replace c24 := Bool.eq_false_iff.mpr c24
                        subst c24
                        have H1 : (some false) = some r := by rw [if_neg (show ¬ (false = true) by decide)] at H; exact H
                        clear H
                        have H := H1
                        clear H1
                        obtain rfl := Option.some.inj H
                        have p7 : 0 ≤ (x3_2 : Int) := of_decide_eq_true (by first | (with_reducible assumption) | assumption)
                        have q7 : x3_2 < (a0.size : Int) := of_decide_eq_true (by first | (with_reducible assumption) | assumption)
                        have hx7 := bt_at a0 x3_2
                        replace p7 := eq_true p7
                        replace q7 := eq_true q7
                        have p16 : 0 ≤ (x3_2 : Int) := of_decide_eq_true (by first | (with_reducible assumption) | assumption)
                        have q16 : x3_2 < (a0.size : Int) := of_decide_eq_true (by first | (with_reducible assumption) | assumption)
                        have hx16 := bt_at a0 x3_2
                        replace p16 := eq_true p16
                        replace q16 := eq_true q16
                        go_wp2_with (first | ((with_reducible refine gate_callee (f := 39) rfl ?_); refine goesL_ (some 41) rfl rfl Tryz.func39 (by kernel_rfl) rfl #[.int .u8 (bt a0 x3_2)] rfl (by (try simp only [List.map_toArray, List.map_cons, List.map_nil]); first | done | rfl | (simp only [List.length_drop, List.length_take]; rfl)) ?_; (with_reducible refine (postbagref08_letter.calls (bt a0 x3_2) false _ A17.out).mono ?_); rintro e w' ⟨rfl, ⟨nd, rfl⟩⟩; refine ⟨_, rfl, ?_⟩; have p19 : 0 ≤ (x3_2 : Int) := of_decide_eq_true (by first | (with_reducible assumption) | assumption); have q19 : x3_2 < (a0.size : Int) := of_decide_eq_true (by first | (with_reducible assumption) | assumption); have hx19 := bt_at a0 x3_2; replace p19 := eq_true p19; replace q19 := eq_true q19) | (go_at_call 40; (with_reducible refine (postbagref08_digit.calls (bt a0 x3_2) false _ A20.out).mono ?_); rintro e w' ⟨rfl, ⟨nd, rfl⟩⟩; have p22 : 0 ≤ (x3_2 : Int) := of_decide_eq_true (by first | (with_reducible assumption) | assumption); have q22 : x3_2 < (a0.size : Int) := of_decide_eq_true (by first | (with_reducible assumption) | assumption); have hx22 := bt_at a0 x3_2; replace p22 := eq_true p22; replace q22 := eq_true q22) | (go_at_call 57; (with_reducible refine (postbagref08_mark.calls (bt a0 x3_2) false _ A23.out).mono ?_); rintro e w' ⟨rfl, ⟨nd, rfl⟩⟩))
                        go_ret
                        exact ⟨by first | rfl | (simp; done) | (simp [*]; done) | (simp [Go.Proofs.YtjggdkcfpdhoaaaGreatDoorW.SRows.bne_nil_]; done), by repeat (first | exact Drawn0.refl _ | apply Drawn0.step)⟩
              · rw [if_neg c6] at H
                exact absurd H (by simp)
            · rw [if_neg c5] at H
              have c5b0 : decide (x3_2 < (a0.size : Int)) = false := decide_eq_false c5
              clear c5
              obtain rfl := Option.some.inj H
              go_wp2
              go_ret
              exact ⟨by first | rfl | (simp; done) | (simp [*]; done) | (simp [Go.Proofs.YtjggdkcfpdhoaaaGreatDoorW.SRows.bne_nil_]; done), by repeat (first | exact Drawn0.refl _ | apply Drawn0.step)⟩

/-- THE ONE PURE STATEMENT of postbagref08_Local: yours. -/
def postbagref08_Local.Pure : Prop := ∀ (a0 : ByteArray), a0.size ≤ 140737488351232 → ∃ k, postbagref08_Local.f k a0 = some true
theorem postbagref08_Local.walk (P : postbagref08_Local.Pure) (a0 : ByteArray) (w : World) (w0 : a0.size ≤ 140737488351232) :
    Calls Tryz.prog 41 #[.string a0] w fun e w' => e = .returned (.bool true) ∧ Below w.heap.size w w' := by
  obtain ⟨k, h⟩ := P a0 w0
  refine (postbagref08_Local.calls k a0 true w h).mono ?_
  rintro e w' ⟨rfl, hd⟩
  exact ⟨rfl, hd.below⟩

end Go.Proofs.YtjggdkcfpdhoaaaGreatDoor.GSmtp
