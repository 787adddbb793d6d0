/- Written by a program of mine (wip/tools/mkprint.py turns the kit's print; given contracts by hand). Lean checks it. -/
import Derived.Test.YtjggdkcfpdhoaaaGreatDoorGSmtpx0
import Derived.Test.YtjggdkcfpdhoaaaGreatDoorGSmtpx1
namespace Go.Proofs.YtjggdkcfpdhoaaaGreatDoor.GSmtp
open Go.RowKit Go.Proofs.YtjggdkcfpdhoaaaGreatDoorW.PrintWords Go.Proofs.YtjggdkcfpdhoaaaGreatDoorW.PrintLast Go.Proofs.YtjggdkcfpdhoaaaGreatDoorW.PrintMore
attribute [local go_sem] max2_int min2_int max_two min_two max_three min_three max_four min_four   -- for this text's walks alone
set_option linter.unusedVariables false
set_option linter.unusedSimpArgs false

/-! ### postbagref08_Domain: function 21 -/
mutual
def postbagref08_Domain.j0 : Nat → ByteArray → Bool → Option (Bool)
  | 0, _, _ => none
  | k + 1, x0, x13 => if x13 = true then (some false) else (postbagref08_Domain.l0 k x0 0)
def postbagref08_Domain.l0 : Nat → ByteArray → Int → Option (Bool)
  | 0, _, _ => none
  | k + 1, x0, x3 => if x3 < (x0.size : Int) then (if 0 ≤ x3 then ((postbagref08_letter.f (bt x0 x3)).bind fun t101 => (if t101 = true then (postbagref08_Domain.j2 k x0 x3 true) else ((postbagref08_digit.f (bt x0 x3)).bind fun t102 => (postbagref08_Domain.j2 k x0 x3 t102)))) else (none)) else (some true)
def postbagref08_Domain.j2 : Nat → ByteArray → Int → Bool → Option (Bool)
  | 0, _, _, _ => none
  | k + 1, x0, x3, x4 => if x4 = true then (postbagref08_Domain.j3 k x0 x3 x4 false) else (if 0 ≤ x3 then (if x3 < (x0.size : Int) then (if (bt x0 x3) = 45 then (postbagref08_Domain.j3 k x0 x3 x4 false) else (postbagref08_Domain.j3 k x0 x3 x4 ((bt x0 x3) != 46))) else (none)) else (none))
def postbagref08_Domain.j3 : Nat → ByteArray → Int → Bool → Bool → Option (Bool)
  | 0, _, _, _, _ => none
  | k + 1, x0, x3, x4, x43 => if x43 = true then (some false) else (if x3 = 0 then (if 0 ≤ x3 then (if x3 < (x0.size : Int) then (if (bt x0 x3) = 46 then (some false) else (if x4 = true then (postbagref08_Domain.l0 k x0 (wrap64 (x3 + 1))) else (some false))) else (none)) else (none)) else (if x3 = (wrap64 ((x0.size : Int) - 1)) then (if 0 ≤ x3 then (if x3 < (x0.size : Int) then (if (bt x0 x3) = 46 then (some false) else (if x4 = true then (postbagref08_Domain.l0 k x0 (wrap64 (x3 + 1))) else (some false))) else (none)) else (none)) else (if 0 ≤ (wrap64 (x3 - 1)) then (if (wrap64 (x3 - 1)) < (x0.size : Int) then (if (bt x0 (wrap64 (x3 - 1))) = 46 then (if 0 ≤ x3 then (if x3 < (x0.size : Int) then (if (bt x0 x3) = 46 then (some false) else (if x4 = true then (postbagref08_Domain.l0 k x0 (wrap64 (x3 + 1))) else (some false))) else (none)) else (none)) else (if 0 ≤ (wrap64 (x3 + 1)) then (if (wrap64 (x3 + 1)) < (x0.size : Int) then (if (bt x0 (wrap64 (x3 + 1))) = 46 then (if 0 ≤ x3 then (if x3 < (x0.size : Int) then (if (bt x0 x3) = 46 then (postbagref08_Domain.l0 k x0 (wrap64 (x3 + 1))) else (if x4 = true then (postbagref08_Domain.l0 k x0 (wrap64 (x3 + 1))) else (some false))) else (none)) else (none)) else (if 0 ≤ x3 then (if x3 < (x0.size : Int) then (if (bt x0 x3) = 46 then (postbagref08_Domain.l0 k x0 (wrap64 (x3 + 1))) else (postbagref08_Domain.l0 k x0 (wrap64 (x3 + 1)))) else (none)) else (none))) else (none)) else (none))) else (none)) else (none))))
end
def postbagref08_Domain.f (k : Nat) (a0 : ByteArray) : Option (Bool) := if (a0.size : Int) < 1 then (postbagref08_Domain.j0 k a0 true) else (postbagref08_Domain.j0 k a0 (decide ((a0.size : Int) > 100)))
theorem postbagref08_Domain.mono_l : ∀ k, (∀ y0 y1, LeO (postbagref08_Domain.j0 k y0 y1) (postbagref08_Domain.j0 (k + 1) y0 y1)) ∧ (∀ y0 y1, LeO (postbagref08_Domain.l0 k y0 y1) (postbagref08_Domain.l0 (k + 1) y0 y1)) ∧ (∀ y0 y1 y2, LeO (postbagref08_Domain.j2 k y0 y1 y2) (postbagref08_Domain.j2 (k + 1) y0 y1 y2)) ∧ (∀ y0 y1 y2 y3, LeO (postbagref08_Domain.j3 k y0 y1 y2 y3) (postbagref08_Domain.j3 (k + 1) y0 y1 y2 y3))
  | 0 => ⟨fun _ _ r h => by simp [postbagref08_Domain.j0] at h, fun _ _ r h => by simp [postbagref08_Domain.l0] at h, fun _ _ _ r h => by simp [postbagref08_Domain.j2] at h, fun _ _ _ _ r h => by simp [postbagref08_Domain.j3] at h⟩
  | k + 1 => by
    obtain ⟨ih0, ih1, ih2, ih3⟩ := postbagref08_Domain.mono_l k
    refine ⟨?_, ?_, ?_, ?_⟩
    · intro y0 y1
      unfold postbagref08_Domain.j0
      repeat' first
      | (with_reducible exact ih0 _ _)
      | (with_reducible exact ih1 _ _)
      | (with_reducible exact ih2 _ _ _)
      | (with_reducible exact ih3 _ _ _ _)
      | (with_reducible exact LeO.refl _)
      | (with_reducible exact LeO.none _)
      | (with_reducible refine LeO.ite ?_ ?_)
      | (with_reducible refine LeO.bind ?_ (fun _ => ?_))
      | exact ih0 _ _
      | exact ih1 _ _
      | exact ih2 _ _ _
      | exact ih3 _ _ _ _
      | exact LeO.none _
      | refine LeO.ite ?_ ?_
      | refine LeO.bind ?_ (fun _ => ?_)
    · intro y0 y1
      unfold postbagref08_Domain.l0
      repeat' first
      | (with_reducible exact ih0 _ _)
      | (with_reducible exact ih1 _ _)
      | (with_reducible exact ih2 _ _ _)
      | (with_reducible exact ih3 _ _ _ _)
      | (with_reducible exact LeO.refl _)
      | (with_reducible exact LeO.none _)
      | (with_reducible refine LeO.ite ?_ ?_)
      | (with_reducible refine LeO.bind ?_ (fun _ => ?_))
      | exact ih0 _ _
      | exact ih1 _ _
      | exact ih2 _ _ _
      | exact ih3 _ _ _ _
      | exact LeO.none _
      | refine LeO.ite ?_ ?_
      | refine LeO.bind ?_ (fun _ => ?_)
    · intro y0 y1 y2
      unfold postbagref08_Domain.j2
      repeat' first
      | (with_reducible exact ih0 _ _)
      | (with_reducible exact ih1 _ _)
      | (with_reducible exact ih2 _ _ _)
      | (with_reducible exact ih3 _ _ _ _)
      | (with_reducible exact LeO.refl _)
      | (with_reducible exact LeO.none _)
      | (with_reducible refine LeO.ite ?_ ?_)
      | (with_reducible refine LeO.bind ?_ (fun _ => ?_))
      | exact ih0 _ _
      | exact ih1 _ _
      | exact ih2 _ _ _
      | exact ih3 _ _ _ _
      | exact LeO.none _
      | refine LeO.ite ?_ ?_
      | refine LeO.bind ?_ (fun _ => ?_)
    · intro y0 y1 y2 y3
      unfold postbagref08_Domain.j3
      repeat' first
      | (with_reducible exact ih0 _ _)
      | (with_reducible exact ih1 _ _)
      | (with_reducible exact ih2 _ _ _)
      | (with_reducible exact ih3 _ _ _ _)
      | (with_reducible exact LeO.refl _)
      | (with_reducible exact LeO.none _)
      | (with_reducible refine LeO.ite ?_ ?_)
      | (with_reducible refine LeO.bind ?_ (fun _ => ?_))
      | exact ih0 _ _
      | exact ih1 _ _
      | exact ih2 _ _ _
      | exact ih3 _ _ _ _
      | exact LeO.none _
      | refine LeO.ite ?_ ?_
      | refine LeO.bind ?_ (fun _ => ?_)
theorem postbagref08_Domain.mono : ∀ a0 k, LeO (postbagref08_Domain.f k a0) (postbagref08_Domain.f (k + 1) a0) := by
  intro a0 k
  obtain ⟨ih0, ih1, ih2, ih3⟩ := postbagref08_Domain.mono_l k
  unfold postbagref08_Domain.f
  repeat' first
      | (with_reducible exact ih0 _ _)
      | (with_reducible exact ih1 _ _)
      | (with_reducible exact ih2 _ _ _)
      | (with_reducible exact ih3 _ _ _ _)
      | (with_reducible exact LeO.refl _)
      | (with_reducible exact LeO.none _)
      | (with_reducible refine LeO.ite ?_ ?_)
      | (with_reducible refine LeO.bind ?_ (fun _ => ?_))
      | exact ih0 _ _
      | exact ih1 _ _
      | exact ih2 _ _ _
      | exact ih3 _ _ _ _
      | exact LeO.none _
      | refine LeO.ite ?_ ?_
      | refine LeO.bind ?_ (fun _ => ?_)
set_option maxHeartbeats 8000000 in
set_option maxRecDepth 100000 in
theorem postbagref08_Domain.calls (k : Nat) (a0 : ByteArray) (r : Bool) (w : World) (h : postbagref08_Domain.f k a0 = some r) :
    Calls Tryz.prog 21 #[.string a0] w fun e w' => e = .returned (.bool r) ∧ Drawn0 w w' := by
  have H : (if (a0.size : Int) < 1 then (postbagref08_Domain.j0 k a0 true) else (postbagref08_Domain.j0 k a0 (decide ((a0.size : Int) > 100)))) = some r := h
  clear h
  have HC2 := Aside0.mk H
  clear H
  go_enter Tryz.func21, Tryz.ntmps21
  go_upto_region 1 with (fail)
  go_cut [13] (fun v13 wc => ∃ (kq : Nat) (x13_1 : Bool), v13 = .bool x13_1 ∧ Aside0 (postbagref08_Domain.j0 kq a0 x13_1 = some r) ∧ Aside0 (kq ≤ k) ∧ Drawn0 w wc)
  case first =>
    have H := HC2.out
    clear HC2
    by_cases c3 : (a0.size : Int) < 1
    · rw [if_pos c3] at H
      have c3b0 : decide ((a0.size : Int) < 1) = true := decide_eq_true c3
      have c3b1 : decide (a0.size < 1) = true := decide_eq_true (by omega)
      clear c3
      (first | rw [c3b0] | (simp only [i64_w, i32_w]; rw [c3b0]) | skip)
      have H' := Aside0.mk H
      clear H
      go_wp2
      go_meet
      case rel => exact ⟨_, (true), (by first | rfl | (simp; done) | (simp [*]; done)), H', ⟨by first | omega | exact Nat.le_refl _⟩, by repeat (first | exact Drawn0.refl _ | apply Drawn0.step)⟩
    · rw [if_neg c3] at H
      have c3b0 : decide ((a0.size : Int) < 1) = false := decide_eq_false c3
      have c3b1 : decide (a0.size < 1) = false := decide_eq_false (by omega)
      clear c3
      (first | rw [c3b0] | (simp only [i64_w, i32_w]; rw [c3b0]) | skip)
      have H' := Aside0.mk H
      clear H
      go_wp2
      go_meet
      case rel => exact ⟨_, (decide ((a0.size : Int) > 100)), (by first | rfl | (simp; done) | (simp [*]; done)), H', ⟨by first | omega | exact Nat.le_refl _⟩, by repeat (first | exact Drawn0.refl _ | apply Drawn0.step)⟩
  case rest =>
    clear HC2
    try clear c2
    try clear p2
    try clear c3
    try clear c3b0
    try clear c3b1
    obtain ⟨kq, x13_1, rfl, HA, HJ1, ⟨mc1, rfl⟩⟩ := hcut
    cases kq with
    | zero => exact absurd HA.out (by simp [postbagref08_Domain.j0])
    | succ kj1 =>
      have H := HA.out
      clear HA
      simp only [postbagref08_Domain.j0] at H
      by_cases c4 : x13_1 = true
      · subst c4
        have H1 : (some false) = some r := by rw [if_pos rfl] at H; exact H
        clear H
        have H := H1
        clear H1
        obtain rfl := Option.some.inj H
        go_wp2
        go_ret
        exact ⟨by first | rfl | (simp; done) | (simp [*]; done) | (simp [Go.Proofs.YtjggdkcfpdhoaaaGreatDoorW.SRows.bne_nil_]; done), by repeat (first | exact Drawn0.refl _ | apply Drawn0.step)⟩
      · replace c4 := Bool.eq_false_iff.mpr c4
        subst c4
        have H1 : (postbagref08_Domain.l0 kj1 a0 0) = some r := by rw [if_neg (show ¬ (false = true) by decide)] at H; exact H
        clear H
        have H := H1
        clear H1
        have H' := Aside0.mk H
        clear H
        go_wp2
        go_loopg [3] kj1 (fun kq v3 w' => ∃ (x3_2 : Int), v3 = .int .i64 x3_2 ∧ Aside0 (postbagref08_Domain.l0 kq a0 x3_2 = some r) ∧ Aside0 (kq ≤ kj1) ∧ Drawn0 w w')
        case atStart => exact ⟨(0), (by first | rfl | (simp; done) | (simp [*]; done)), H', ⟨Nat.le_refl _⟩, by repeat (first | exact Drawn0.refl _ | apply Drawn0.step)⟩
        case round =>
          clear H'
          try clear c1
          try clear c2
          try clear p2
          try clear c3
          try clear c3b0
          try clear c3b1
          try clear c4
          try clear p2
          obtain ⟨x3_2, rfl, HA, HK2, ⟨m2, rfl⟩⟩ := hrel
          cases gk with
          | zero => exact absurd HA.out (by simp [postbagref08_Domain.l0])
          | succ k2 =>
            have H := HA.out
            clear HA
            simp only [postbagref08_Domain.l0] at H
            by_cases c5 : x3_2 < (a0.size : Int)
            · rw [if_pos c5] at H
              have c5b0 : decide (x3_2 < (a0.size : Int)) = true := decide_eq_true c5
              clear c5
              have HC6 := Aside0.mk H
              clear H
              go_upto_region 6 with (fail)
              go_cut [4] (fun v4 wc => ∃ (kq : Nat) (x4_5 : Bool), v4 = .bool x4_5 ∧ Aside0 (postbagref08_Domain.j2 kq a0 x3_2 x4_5 = some r) ∧ Aside0 (kq ≤ k2) ∧ Drawn0 w wc)
              case first =>
                have H := HC6.out
                clear HC6
                by_cases c7 : 0 ≤ x3_2
                · rw [if_pos c7] at H
                  have c7b0 : decide (0 ≤ x3_2) = true := decide_eq_true c7
                  clear c7
                  (first | rw [c7b0] | (simp only [i64_w, i32_w]; rw [c7b0]) | skip)
                  replace H := Option.bind_eq_some_iff.mp H
                  obtain ⟨t101, A90, H⟩ := H
                  replace H : (if t101 = true then (postbagref08_Domain.j2 k2 a0 x3_2 true) else ((postbagref08_digit.f (bt a0 x3_2)).bind fun t102 => (postbagref08_Domain.j2 k2 a0 x3_2 t102))) = some r := H
                  have A9 := Aside0.mk A90
                  clear A90
                  by_cases c10 : t101 = true
                  · subst c10
                    have H1 : (postbagref08_Domain.j2 k2 a0 x3_2 true) = some r := by rw [if_pos rfl] at H; exact H
                    clear H
                    have H := H1
                    clear H1
                    have H' := Aside0.mk H
                    clear H
                    have p8 : 0 ≤ (x3_2 : Int) := of_decide_eq_true (by first | (with_reducible assumption) | assumption)
                    have q8 : x3_2 < (a0.size : Int) := of_decide_eq_true (by first | (with_reducible assumption) | assumption)
                    have hx8 := bt_at a0 x3_2
                    replace p8 := eq_true p8
                    replace q8 := eq_true q8
                    go_wp2_with (first | ((with_reducible refine gate_callee (f := 39) rfl ?_); refine goesL_ (some 23) rfl rfl Tryz.func39 (by kernel_rfl) rfl #[.int .u8 (bt a0 x3_2)] rfl (by (try simp only [List.map_toArray, List.map_cons, List.map_nil]); first | done | rfl | (simp only [List.length_drop, List.length_take]; rfl)) ?_; (with_reducible refine (postbagref08_letter.calls (bt a0 x3_2) true _ A9.out).mono ?_); rintro e w' ⟨rfl, ⟨nd, rfl⟩⟩; refine ⟨_, rfl, ?_⟩))
                    go_meet
                    case rel => exact ⟨_, (true), (by first | rfl | (simp; done) | (simp [*]; done)), H', ⟨by have := HJ1.out; have := HK2.out; first | omega | exact Nat.le_refl _⟩, by repeat (first | exact Drawn0.refl _ | apply Drawn0.step)⟩
                  · replace c10 := Bool.eq_false_iff.mpr c10
                    subst c10
                    have H1 : ((postbagref08_digit.f (bt a0 x3_2)).bind fun t102 => (postbagref08_Domain.j2 k2 a0 x3_2 t102)) = some r := by rw [if_neg (show ¬ (false = true) by decide)] at H; exact H
                    clear H
                    have H := H1
                    clear H1
                    replace H := Option.bind_eq_some_iff.mp H
                    obtain ⟨t102, A120, H⟩ := H
                    replace H : (postbagref08_Domain.j2 k2 a0 x3_2 t102) = some r := H
                    have A12 := Aside0.mk A120
                    clear A120
                    have H' := Aside0.mk H
                    clear H
                    have p8 : 0 ≤ (x3_2 : Int) := of_decide_eq_true (by first | (with_reducible assumption) | assumption)
                    have q8 : x3_2 < (a0.size : Int) := of_decide_eq_true (by first | (with_reducible assumption) | assumption)
                    have hx8 := bt_at a0 x3_2
                    replace p8 := eq_true p8
                    replace q8 := eq_true q8
                    go_wp2_with (first | ((with_reducible refine gate_callee (f := 39) rfl ?_); refine goesL_ (some 23) rfl rfl Tryz.func39 (by kernel_rfl) rfl #[.int .u8 (bt a0 x3_2)] rfl (by (try simp only [List.map_toArray, List.map_cons, List.map_nil]); first | done | rfl | (simp only [List.length_drop, List.length_take]; rfl)) ?_; (with_reducible refine (postbagref08_letter.calls (bt a0 x3_2) false _ A9.out).mono ?_); rintro e w' ⟨rfl, ⟨nd, rfl⟩⟩; refine ⟨_, rfl, ?_⟩; have p11 : 0 ≤ (x3_2 : Int) := of_decide_eq_true (by first | (with_reducible assumption) | assumption); have q11 : x3_2 < (a0.size : Int) := of_decide_eq_true (by first | (with_reducible assumption) | assumption); have hx11 := bt_at a0 x3_2; replace p11 := eq_true p11; replace q11 := eq_true q11) | (go_at_call 40; (with_reducible refine (postbagref08_digit.calls (bt a0 x3_2) t102 _ A12.out).mono ?_); rintro e w' ⟨rfl, ⟨nd, rfl⟩⟩))
                    go_meet
                    case rel => exact ⟨_, (t102), (by first | rfl | (simp; done) | (simp [*]; done)), H', ⟨by have := HJ1.out; have := HK2.out; first | omega | exact Nat.le_refl _⟩, by repeat (first | exact Drawn0.refl _ | apply Drawn0.step)⟩
                · rw [if_neg c7] at H
                  exact absurd H (by simp)
              case rest =>
                clear HC6
                try clear c1
                try clear p1
                try clear q1
                try clear hx1
                try clear c2
                try clear p2
                try clear c3
                try clear c3b0
                try clear c3b1
                try clear c4
                try clear c5
                try clear c5b0
                try clear c7
                try clear c7b0
                try clear p8
                try clear q8
                try clear hx8
                try clear c10
                try clear p11
                try clear q11
                try clear hx11
                try clear p11
                try clear p2
                try clear p8
                try clear q11
                try clear q8
                obtain ⟨kq, x4_5, rfl, HA, HJ5, ⟨mc5, rfl⟩⟩ := hcut
                cases kq with
                | zero => exact absurd HA.out (by simp [postbagref08_Domain.j2])
                | succ kj5 =>
                  have H := HA.out
                  clear HA
                  simp only [postbagref08_Domain.j2] at H
                  have HC13 := Aside0.mk H
                  clear H
                  go_upto_region 7 with (fail)
                  go_cut [43] (fun v43 wc => ∃ (kq : Nat) (x43_12 : Bool), v43 = .bool x43_12 ∧ Aside0 (postbagref08_Domain.j3 kq a0 x3_2 x4_5 x43_12 = some r) ∧ Aside0 (kq ≤ kj5) ∧ Drawn0 w wc)
                  case first =>
                    have H := HC13.out
                    clear HC13
                    by_cases c14 : x4_5 = true
                    · subst c14
                      have H1 : (postbagref08_Domain.j3 kj5 a0 x3_2 true false) = some r := by rw [if_pos rfl] at H; exact H
                      clear H
                      have H := H1
                      clear H1
                      have H' := Aside0.mk H
                      clear H
                      go_wp2
                      go_meet
                      case rel => exact ⟨_, (false), (by first | rfl | (simp; done) | (simp [*]; done)), H', ⟨by have := HJ1.out; have := HK2.out; have := HJ5.out; first | omega | exact Nat.le_refl _⟩, by repeat (first | exact Drawn0.refl _ | apply Drawn0.step)⟩
                    · replace c14 := Bool.eq_false_iff.mpr c14
                      subst c14
                      have H1 : (if 0 ≤ x3_2 then (if x3_2 < (a0.size : Int) then (if (bt a0 x3_2) = 45 then (postbagref08_Domain.j3 kj5 a0 x3_2 false false) else (postbagref08_Domain.j3 kj5 a0 x3_2 false ((bt a0 x3_2) != 46))) else (none)) else (none)) = some r := by rw [if_neg (show ¬ (false = true) by decide)] at H; exact H
                      clear H
                      have H := H1
                      clear H1
                      by_cases c15 : 0 ≤ x3_2
                      · rw [if_pos c15] at H
                        have c15b0 : decide (0 ≤ x3_2) = true := decide_eq_true c15
                        clear c15
                        (first | rw [c15b0] | (simp only [i64_w, i32_w]; rw [c15b0]) | skip)
                        by_cases c16 : x3_2 < (a0.size : Int)
                        · rw [if_pos c16] at H
                          have c16b0 : decide (x3_2 < (a0.size : Int)) = true := decide_eq_true c16
                          clear c16
                          by_cases c18 : (bt a0 x3_2) = 45
                          · rw [if_pos c18] at H
                            have c18b0 : ((bt a0 x3_2) == 45) = true := beq_iff_eq.mpr c18
                            have c18b1 : ((bt a0 x3_2) != 45) = false := bne_eq_false_iff_eq.mpr c18
                            clear c18
                            have H' := Aside0.mk H
                            clear H
                            have p17 : 0 ≤ (x3_2 : Int) := of_decide_eq_true (by first | (with_reducible assumption) | assumption)
                            have q17 : x3_2 < (a0.size : Int) := of_decide_eq_true (by first | (with_reducible assumption) | assumption)
                            have hx17 := bt_at a0 x3_2
                            replace p17 := eq_true p17
                            replace q17 := eq_true q17
                            go_wp2
                            go_meet
                            case rel => exact ⟨_, (false), (by first | rfl | (simp; done) | (simp [*]; done)), H', ⟨by have := HJ1.out; have := HK2.out; have := HJ5.out; first | omega | exact Nat.le_refl _⟩, by repeat (first | exact Drawn0.refl _ | apply Drawn0.step)⟩
                          · rw [if_neg c18] at H
                            have c18b0 : ((bt a0 x3_2) == 45) = false := beq_eq_false_iff_ne.mpr c18
                            have c18b1 : ((bt a0 x3_2) != 45) = true := bne_iff_ne.mpr c18
                            have H' := Aside0.mk H
                            clear H
                            have p17 : 0 ≤ (x3_2 : Int) := of_decide_eq_true (by first | (with_reducible assumption) | assumption)
                            have q17 : x3_2 < (a0.size : Int) := of_decide_eq_true (by first | (with_reducible assumption) | assumption)
                            have hx17 := bt_at a0 x3_2
                            replace p17 := eq_true p17
                            replace q17 := eq_true q17
                            have p19 : 0 ≤ (x3_2 : Int) := of_decide_eq_true (by first | (with_reducible assumption) | assumption)
                            have q19 : x3_2 < (a0.size : Int) := of_decide_eq_true (by first | (with_reducible assumption) | assumption)
                            have hx19 := bt_at a0 x3_2
                            replace p19 := eq_true p19
                            replace q19 := eq_true q19
                            go_wp2
                            go_meet
                            case rel => exact ⟨_, (((bt a0 x3_2) != 46)), (by first | rfl | (simp; done) | (simp [*]; done)), H', ⟨by have := HJ1.out; have := HK2.out; have := HJ5.out; first | omega | exact Nat.le_refl _⟩, by repeat (first | exact Drawn0.refl _ | apply Drawn0.step)⟩
                        · rw [if_neg c16] at H
                          exact absurd H (by simp)
                      · rw [if_neg c15] at H
                        exact absurd H (by simp)
                  case rest =>
                    clear HC13
                    try clear c1
                    try clear p1
                    try clear q1
                    try clear hx1
                    try clear c2
                    try clear p2
                    try clear c3
                    try clear c3b0
                    try clear c3b1
                    try clear c4
                    try clear c5
                    try clear c5b0
                    try clear c7
                    try clear c7b0
                    try clear p8
                    try clear q8
                    try clear hx8
                    try clear c10
                    try clear p11
                    try clear q11
                    try clear hx11
                    try clear c14
                    try clear c15
                    try clear c15b0
                    try clear c16
                    try clear c16b0
                    try clear p17
                    try clear q17
                    try clear hx17
                    try clear c18
                    try clear c18b0
                    try clear c18b1
                    try clear p19
                    try clear q19
                    try clear hx19
                    try clear p1
                    try clear p11
                    try clear p17
                    try clear p19
                    try clear p2
                    try clear p8
                    try clear q1
                    try clear q11
                    try clear q17
                    try clear q19
                    try clear q8
                    obtain ⟨kq, x43_12, rfl, HA, HJ12, ⟨mc12, rfl⟩⟩ := hcut
                    cases kq with
                    | zero => exact absurd HA.out (by simp [postbagref08_Domain.j3])
                    | succ kj12 =>
                      have H := HA.out
                      clear HA
                      simp only [postbagref08_Domain.j3] at H
                      by_cases c20 : x43_12 = true
                      · subst c20
                        have H1 : (some false) = some r := by rw [if_pos rfl] at H; exact H
                        clear H
                        have H := H1
                        clear H1
                        obtain rfl := Option.some.inj H
                        go_wp2
                        go_ret
                        exact ⟨by first | rfl | (simp; done) | (simp [*]; done) | (simp [Go.Proofs.YtjggdkcfpdhoaaaGreatDoorW.SRows.bne_nil_]; done), by repeat (first | exact Drawn0.refl _ | apply Drawn0.step)⟩
                      · replace c20 := Bool.eq_false_iff.mpr c20
                        subst c20
                        have H1 : (if x3_2 = 0 then (if 0 ≤ x3_2 then (if x3_2 < (a0.size : Int) then (if (bt a0 x3_2) = 46 then (some false) else (if x4_5 = true then (postbagref08_Domain.l0 kj12 a0 (wrap64 (x3_2 + 1))) else (some false))) else (none)) else (none)) else (if x3_2 = (wrap64 ((a0.size : Int) - 1)) then (if 0 ≤ x3_2 then (if x3_2 < (a0.size : Int) then (if (bt a0 x3_2) = 46 then (some false) else (if x4_5 = true then (postbagref08_Domain.l0 kj12 a0 (wrap64 (x3_2 + 1))) else (some false))) else (none)) else (none)) else (if 0 ≤ (wrap64 (x3_2 - 1)) then (if (wrap64 (x3_2 - 1)) < (a0.size : Int) then (if (bt a0 (wrap64 (x3_2 - 1))) = 46 then (if 0 ≤ x3_2 then (if x3_2 < (a0.size : Int) then (if (bt a0 x3_2) = 46 then (some false) else (if x4_5 = true then (postbagref08_Domain.l0 kj12 a0 (wrap64 (x3_2 + 1))) else (some false))) else (none)) else (none)) else (if 0 ≤ (wrap64 (x3_2 + 1)) then (if (wrap64 (x3_2 + 1)) < (a0.size : Int) then (if (bt a0 (wrap64 (x3_2 + 1))) = 46 then (if 0 ≤ x3_2 then (if x3_2 < (a0.size : Int) then (if (bt a0 x3_2) = 46 then (postbagref08_Domain.l0 kj12 a0 (wrap64 (x3_2 + 1))) else (if x4_5 = true then (postbagref08_Domain.l0 kj12 a0 (wrap64 (x3_2 + 1))) else (some false))) else (none)) else (none)) else (if 0 ≤ x3_2 then (if x3_2 < (a0.size : Int) then (if (bt a0 x3_2) = 46 then (postbagref08_Domain.l0 kj12 a0 (wrap64 (x3_2 + 1))) else (postbagref08_Domain.l0 kj12 a0 (wrap64 (x3_2 + 1)))) else (none)) else (none))) else (none)) else (none))) else (none)) else (none)))) = some r := by rw [if_neg (show ¬ (false = true) by decide)] at H; exact H
                        clear H
                        have H := H1
                        clear H1
                        by_cases c21 : x3_2 = 0
                        · rw [if_pos c21] at H
                          have c21b0 : (x3_2 == 0) = true := beq_iff_eq.mpr c21
                          have c21b1 : (x3_2 != 0) = false := bne_eq_false_iff_eq.mpr c21
                          clear c21
                          by_cases c22 : 0 ≤ x3_2
                          · rw [if_pos c22] at H
                            have c22b0 : decide (0 ≤ x3_2) = true := decide_eq_true c22
                            clear c22
                            by_cases c23 : x3_2 < (a0.size : Int)
                            · rw [if_pos c23] at H
                              have c23b0 : decide (x3_2 < (a0.size : Int)) = true := decide_eq_true c23
                              clear c23
                              by_cases c25 : (bt a0 x3_2) = 46
                              · rw [if_pos c25] at H
                                have c25b0 : ((bt a0 x3_2) == 46) = true := beq_iff_eq.mpr c25
                                have c25b1 : ((bt a0 x3_2) != 46) = false := bne_eq_false_iff_eq.mpr c25
                                clear c25
                                obtain rfl := Option.some.inj H
                                have p24 : 0 ≤ (x3_2 : Int) := of_decide_eq_true (by first | (with_reducible assumption) | assumption)
                                have q24 : x3_2 < (a0.size : Int) := of_decide_eq_true (by first | (with_reducible assumption) | assumption)
                                have hx24 := bt_at a0 x3_2
                                replace p24 := eq_true p24
                                replace q24 := eq_true q24
                                have p26 : 0 ≤ (x3_2 : Int) := of_decide_eq_true (by first | (with_reducible assumption) | assumption)
                                have q26 : x3_2 < (a0.size : Int) := of_decide_eq_true (by first | (with_reducible assumption) | assumption)
                                have hx26 := bt_at a0 x3_2
                                replace p26 := eq_true p26
                                replace q26 := eq_true q26
                                go_wp2
                                go_ret
                                exact ⟨by first | rfl | (simp; done) | (simp [*]; done) | (simp [Go.Proofs.YtjggdkcfpdhoaaaGreatDoorW.SRows.bne_nil_]; done), by repeat (first | exact Drawn0.refl _ | apply Drawn0.step)⟩
                              · rw [if_neg c25] at H
                                have c25b0 : ((bt a0 x3_2) == 46) = false := beq_eq_false_iff_ne.mpr c25
                                have c25b1 : ((bt a0 x3_2) != 46) = true := bne_iff_ne.mpr c25
                                by_cases c27 : x4_5 = true
                                · subst c27
                                  have H1 : (postbagref08_Domain.l0 kj12 a0 (wrap64 (x3_2 + 1))) = some r := by rw [if_pos rfl] at H; exact H
                                  clear H
                                  have H := H1
                                  clear H1
                                  have H' := Aside0.mk H
                                  clear H
                                  have p24 : 0 ≤ (x3_2 : Int) := of_decide_eq_true (by first | (with_reducible assumption) | assumption)
                                  have q24 : x3_2 < (a0.size : Int) := of_decide_eq_true (by first | (with_reducible assumption) | assumption)
                                  have hx24 := bt_at a0 x3_2
                                  replace p24 := eq_true p24
                                  replace q24 := eq_true q24
                                  have p28 : 0 ≤ (x3_2 : Int) := of_decide_eq_true (by first | (with_reducible assumption) | assumption)
                                  have q28 : x3_2 < (a0.size : Int) := of_decide_eq_true (by first | (with_reducible assumption) | assumption)
                                  have hx28 := bt_at a0 x3_2
                                  replace p28 := eq_true p28
                                  replace q28 := eq_true q28
                                  go_wp2
                                  go_roundg kj12
                                  case measure => have := HJ1.out; have := HK2.out; have := HJ5.out; have := HJ12.out; omega
                                  case rel => exact ⟨(wrap64 (x3_2 + 1)), (by first | rfl | (simp; done) | (simp [*]; done)), H', ⟨by have := HJ1.out; have := HK2.out; have := HJ5.out; have := HJ12.out; omega⟩, by repeat (first | exact Drawn0.refl _ | apply Drawn0.step)⟩
                                · replace c27 := Bool.eq_false_iff.mpr c27
                                  subst c27
                                  have H1 : (some false) = some r := by rw [if_neg (show ¬ (false = true) by decide)] at H; exact H
                                  clear H
                                  have H := H1
                                  clear H1
                                  obtain rfl := Option.some.inj H
                                  have p24 : 0 ≤ (x3_2 : Int) := of_decide_eq_true (by first | (with_reducible assumption) | assumption)
                                  have q24 : x3_2 < (a0.size : Int) := of_decide_eq_true (by first | (with_reducible assumption) | assumption)
                                  have hx24 := bt_at a0 x3_2
                                  replace p24 := eq_true p24
                                  replace q24 := eq_true q24
                                  go_wp2
                                  go_ret
                                  exact ⟨by first | rfl | (simp; done) | (simp [*]; done) | (simp [Go.Proofs.YtjggdkcfpdhoaaaGreatDoorW.SRows.bne_nil_]; done), by repeat (first | exact Drawn0.refl _ | apply Drawn0.step)⟩
                            · rw [if_neg c23] at H
                              exact absurd H (by simp)
                          · rw [if_neg c22] at H
                            exact absurd H (by simp)
                        · rw [if_neg c21] at H
                          have c21b0 : (x3_2 == 0) = false := beq_eq_false_iff_ne.mpr c21
                          have c21b1 : (x3_2 != 0) = true := bne_iff_ne.mpr c21
                          by_cases c29 : x3_2 = (wrap64 ((a0.size : Int) - 1))
                          · rw [if_pos c29] at H
                            have c29b0 : (x3_2 == (wrap64 ((a0.size : Int) - 1))) = true := beq_iff_eq.mpr c29
                            have c29b1 : (x3_2 != (wrap64 ((a0.size : Int) - 1))) = false := bne_eq_false_iff_eq.mpr c29
                            clear c29
                            by_cases c30 : 0 ≤ x3_2
                            · rw [if_pos c30] at H
                              have c30b0 : decide (0 ≤ x3_2) = true := decide_eq_true c30
                              clear c30
                              by_cases c31 : x3_2 < (a0.size : Int)
                              · rw [if_pos c31] at H
                                have c31b0 : decide (x3_2 < (a0.size : Int)) = true := decide_eq_true c31
                                clear c31
                                by_cases c33 : (bt a0 x3_2) = 46
                                · rw [if_pos c33] at H
                                  have c33b0 : ((bt a0 x3_2) == 46) = true := beq_iff_eq.mpr c33
                                  have c33b1 : ((bt a0 x3_2) != 46) = false := bne_eq_false_iff_eq.mpr c33
                                  clear c33
                                  obtain rfl := Option.some.inj H
                                  have p32 : 0 ≤ (x3_2 : Int) := of_decide_eq_true (by first | (with_reducible assumption) | assumption)
                                  have q32 : x3_2 < (a0.size : Int) := of_decide_eq_true (by first | (with_reducible assumption) | assumption)
                                  have hx32 := bt_at a0 x3_2
                                  replace p32 := eq_true p32
                                  replace q32 := eq_true q32
                                  have p34 : 0 ≤ (x3_2 : Int) := of_decide_eq_true (by first | (with_reducible assumption) | assumption)
                                  have q34 : x3_2 < (a0.size : Int) := of_decide_eq_true (by first | (with_reducible assumption) | assumption)
                                  have hx34 := bt_at a0 x3_2
                                  replace p34 := eq_true p34
                                  replace q34 := eq_true q34
                                  go_wp2
                                  go_ret
                                  exact ⟨by first | rfl | (simp; done) | (simp [*]; done) | (simp [Go.Proofs.YtjggdkcfpdhoaaaGreatDoorW.SRows.bne_nil_]; done), by repeat (first | exact Drawn0.refl _ | apply Drawn0.step)⟩
                                · rw [if_neg c33] at H
                                  have c33b0 : ((bt a0 x3_2) == 46) = false := beq_eq_false_iff_ne.mpr c33
                                  have c33b1 : ((bt a0 x3_2) != 46) = true := bne_iff_ne.mpr c33
                                  by_cases c35 : x4_5 = true
                                  · subst c35
                                    have H1 : (postbagref08_Domain.l0 kj12 a0 (wrap64 (x3_2 + 1))) = some r := by rw [if_pos rfl] at H; exact H
                                    clear H
                                    have H := H1
                                    clear H1
                                    have H' := Aside0.mk H
                                    clear H
                                    have p32 : 0 ≤ (x3_2 : Int) := of_decide_eq_true (by first | (with_reducible assumption) | assumption)
                                    have q32 : x3_2 < (a0.size : Int) := of_decide_eq_true (by first | (with_reducible assumption) | assumption)
                                    have hx32 := bt_at a0 x3_2
                                    replace p32 := eq_true p32
                                    replace q32 := eq_true q32
                                    have p36 : 0 ≤ (x3_2 : Int) := of_decide_eq_true (by first | (with_reducible assumption) | assumption)
                                    have q36 : x3_2 < (a0.size : Int) := of_decide_eq_true (by first | (with_reducible assumption) | assumption)
                                    have hx36 := bt_at a0 x3_2
                                    replace p36 := eq_true p36
                                    replace q36 := eq_true q36
                                    go_wp2
                                    go_roundg kj12
                                    case measure => have := HJ1.out; have := HK2.out; have := HJ5.out; have := HJ12.out; omega
                                    case rel => exact ⟨(wrap64 (x3_2 + 1)), (by first | rfl | (simp; done) | (simp [*]; done)), H', ⟨by have := HJ1.out; have := HK2.out; have := HJ5.out; have := HJ12.out; omega⟩, by repeat (first | exact Drawn0.refl _ | apply Drawn0.step)⟩
                                  · replace c35 := Bool.eq_false_iff.mpr c35
                                    subst c35
                                    have H1 : (some false) = some r := by rw [if_neg (show ¬ (false = true) by decide)] at H; exact H
                                    clear H
                                    have H := H1
                                    clear H1
                                    obtain rfl := Option.some.inj H
                                    have p32 : 0 ≤ (x3_2 : Int) := of_decide_eq_true (by first | (with_reducible assumption) | assumption)
                                    have q32 : x3_2 < (a0.size : Int) := of_decide_eq_true (by first | (with_reducible assumption) | assumption)
                                    have hx32 := bt_at a0 x3_2
                                    replace p32 := eq_true p32
                                    replace q32 := eq_true q32
                                    go_wp2
                                    go_ret
                                    exact ⟨by first | rfl | (simp; done) | (simp [*]; done) | (simp [Go.Proofs.YtjggdkcfpdhoaaaGreatDoorW.SRows.bne_nil_]; done), by repeat (first | exact Drawn0.refl _ | apply Drawn0.step)⟩
                              · rw [if_neg c31] at H
                                exact absurd H (by simp)
                            · rw [if_neg c30] at H
                              exact absurd H (by simp)
                          · rw [if_neg c29] at H
                            have c29b0 : (x3_2 == (wrap64 ((a0.size : Int) - 1))) = false := beq_eq_false_iff_ne.mpr c29
                            have c29b1 : (x3_2 != (wrap64 ((a0.size : Int) - 1))) = true := bne_iff_ne.mpr c29
                            obtain ⟨ji37, hji37⟩ : ∃ j_ : Int, (wrap64 (x3_2 - 1)) = j_ := ⟨_, rfl⟩
                            replace H : (if 0 ≤ (ji37) then (if (ji37) < (a0.size : Int) then (if (bt a0 (ji37)) = 46 then (if 0 ≤ x3_2 then (if x3_2 < (a0.size : Int) then (if (bt a0 x3_2) = 46 then (some false) else (if x4_5 = true then (postbagref08_Domain.l0 kj12 a0 (wrap64 (x3_2 + 1))) else (some false))) else (none)) else (none)) else (if 0 ≤ (wrap64 (x3_2 + 1)) then (if (wrap64 (x3_2 + 1)) < (a0.size : Int) then (if (bt a0 (wrap64 (x3_2 + 1))) = 46 then (if 0 ≤ x3_2 then (if x3_2 < (a0.size : Int) then (if (bt a0 x3_2) = 46 then (postbagref08_Domain.l0 kj12 a0 (wrap64 (x3_2 + 1))) else (if x4_5 = true then (postbagref08_Domain.l0 kj12 a0 (wrap64 (x3_2 + 1))) else (some false))) else (none)) else (none)) else (if 0 ≤ x3_2 then (if x3_2 < (a0.size : Int) then (if (bt a0 x3_2) = 46 then (postbagref08_Domain.l0 kj12 a0 (wrap64 (x3_2 + 1))) else (postbagref08_Domain.l0 kj12 a0 (wrap64 (x3_2 + 1)))) else (none)) else (none))) else (none)) else (none))) else (none)) else (none)) = some r := by first | (rw [hji37] at H; exact H) | (simp only [hji37] at H ⊢; exact H)
                            have hji37w : (IntKind.i64.wrap (x3_2 - 1)) = ji37 := (i64_w _).trans hji37
                            by_cases c38 : 0 ≤ (ji37)
                            · rw [if_pos c38] at H
                              have c38b0 : decide (0 ≤ (ji37)) = true := decide_eq_true c38
                              clear c38
                              by_cases c39 : (ji37) < (a0.size : Int)
                              · rw [if_pos c39] at H
                                have c39b0 : decide ((ji37) < (a0.size : Int)) = true := decide_eq_true c39
                                clear c39
                                by_cases c41 : (bt a0 (ji37)) = 46
                                · rw [if_pos c41] at H
                                  have c41b0 : ((bt a0 (ji37)) == 46) = true := beq_iff_eq.mpr c41
                                  have c41b1 : ((bt a0 (ji37)) != 46) = false := bne_eq_false_iff_eq.mpr c41
                                  clear c41
                                  by_cases c42 : 0 ≤ x3_2
                                  · rw [if_pos c42] at H
                                    have c42b0 : decide (0 ≤ x3_2) = true := decide_eq_true c42
                                    clear c42
                                    by_cases c43 : x3_2 < (a0.size : Int)
                                    · rw [if_pos c43] at H
                                      have c43b0 : decide (x3_2 < (a0.size : Int)) = true := decide_eq_true c43
                                      clear c43
                                      by_cases c45 : (bt a0 x3_2) = 46
                                      · rw [if_pos c45] at H
                                        have c45b0 : ((bt a0 x3_2) == 46) = true := beq_iff_eq.mpr c45
                                        have c45b1 : ((bt a0 x3_2) != 46) = false := bne_eq_false_iff_eq.mpr c45
                                        clear c45
                                        obtain rfl := Option.some.inj H
                                        have p40 : 0 ≤ ((ji37) : Int) := of_decide_eq_true (by first | (with_reducible assumption) | assumption)
                                        have q40 : (ji37) < (a0.size : Int) := of_decide_eq_true (by first | (with_reducible assumption) | assumption)
                                        have hx40 := bt_at a0 (ji37)
                                        replace p40 := eq_true p40
                                        replace q40 := eq_true q40
                                        have p44 : 0 ≤ (x3_2 : Int) := of_decide_eq_true (by first | (with_reducible assumption) | assumption)
                                        have q44 : x3_2 < (a0.size : Int) := of_decide_eq_true (by first | (with_reducible assumption) | assumption)
                                        have hx44 := bt_at a0 x3_2
                                        replace p44 := eq_true p44
                                        replace q44 := eq_true q44
                                        have p46 : 0 ≤ (x3_2 : Int) := of_decide_eq_true (by first | (with_reducible assumption) | assumption)
                                        have q46 : x3_2 < (a0.size : Int) := of_decide_eq_true (by first | (with_reducible assumption) | assumption)
                                        have hx46 := bt_at a0 x3_2
                                        replace p46 := eq_true p46
                                        replace q46 := eq_true q46
                                        have p47 : 0 ≤ ((ji37) : Int) := of_decide_eq_true (by first | (with_reducible assumption) | assumption)
                                        have q47 : (ji37) < (a0.size : Int) := of_decide_eq_true (by first | (with_reducible assumption) | assumption)
                                        have hx47 := bt_at a0 (ji37)
                                        replace p47 := eq_true p47
                                        replace q47 := eq_true q47
                                        go_wp2
                                        go_ret
                                        exact ⟨by first | rfl | (simp; done) | (simp only [← hji37] <;> (first | rfl | simp)) | (simp [*]; done), by repeat (first | exact Drawn0.refl _ | apply Drawn0.step)⟩
                                      · rw [if_neg c45] at H
                                        have c45b0 : ((bt a0 x3_2) == 46) = false := beq_eq_false_iff_ne.mpr c45
                                        have c45b1 : ((bt a0 x3_2) != 46) = true := bne_iff_ne.mpr c45
                                        by_cases c48 : x4_5 = true
                                        · subst c48
                                          have H1 : (postbagref08_Domain.l0 kj12 a0 (wrap64 (x3_2 + 1))) = some r := by rw [if_pos rfl] at H; exact H
                                          clear H
                                          have H := H1
                                          clear H1
                                          have H' := Aside0.mk H
                                          clear H
                                          have p40 : 0 ≤ ((ji37) : Int) := of_decide_eq_true (by first | (with_reducible assumption) | assumption)
                                          have q40 : (ji37) < (a0.size : Int) := of_decide_eq_true (by first | (with_reducible assumption) | assumption)
                                          have hx40 := bt_at a0 (ji37)
                                          replace p40 := eq_true p40
                                          replace q40 := eq_true q40
                                          have p44 : 0 ≤ (x3_2 : Int) := of_decide_eq_true (by first | (with_reducible assumption) | assumption)
                                          have q44 : x3_2 < (a0.size : Int) := of_decide_eq_true (by first | (with_reducible assumption) | assumption)
                                          have hx44 := bt_at a0 x3_2
                                          replace p44 := eq_true p44
                                          replace q44 := eq_true q44
                                          have p49 : 0 ≤ (x3_2 : Int) := of_decide_eq_true (by first | (with_reducible assumption) | assumption)
                                          have q49 : x3_2 < (a0.size : Int) := of_decide_eq_true (by first | (with_reducible assumption) | assumption)
                                          have hx49 := bt_at a0 x3_2
                                          replace p49 := eq_true p49
                                          replace q49 := eq_true q49
                                          go_wp2
                                          go_roundg kj12
                                          case measure => have := HJ1.out; have := HK2.out; have := HJ5.out; have := HJ12.out; omega
                                          case rel => exact ⟨(wrap64 (x3_2 + 1)), (by first | rfl | (simp; done) | (simp [*]; done)), H', ⟨by have := HJ1.out; have := HK2.out; have := HJ5.out; have := HJ12.out; omega⟩, by repeat (first | exact Drawn0.refl _ | apply Drawn0.step)⟩
                                        · replace c48 := Bool.eq_false_iff.mpr c48
                                          subst c48
                                          have H1 : (some false) = some r := by rw [if_neg (show ¬ (false = true) by decide)] at H; exact H
                                          clear H
                                          have H := H1
                                          clear H1
                                          obtain rfl := Option.some.inj H
                                          have p40 : 0 ≤ ((ji37) : Int) := of_decide_eq_true (by first | (with_reducible assumption) | assumption)
                                          have q40 : (ji37) < (a0.size : Int) := of_decide_eq_true (by first | (with_reducible assumption) | assumption)
                                          have hx40 := bt_at a0 (ji37)
                                          replace p40 := eq_true p40
                                          replace q40 := eq_true q40
                                          have p44 : 0 ≤ (x3_2 : Int) := of_decide_eq_true (by first | (with_reducible assumption) | assumption)
                                          have q44 : x3_2 < (a0.size : Int) := of_decide_eq_true (by first | (with_reducible assumption) | assumption)
                                          have hx44 := bt_at a0 x3_2
                                          replace p44 := eq_true p44
                                          replace q44 := eq_true q44
                                          go_wp2
                                          go_ret
                                          exact ⟨by first | rfl | (simp; done) | (simp only [← hji37] <;> (first | rfl | simp)) | (simp [*]; done), by repeat (first | exact Drawn0.refl _ | apply Drawn0.step)⟩
                                    · rw [if_neg c43] at H
                                      exact absurd H (by simp)
                                  · rw [if_neg c42] at H
                                    exact absurd H (by simp)
                                · rw [if_neg c41] at H
                                  have c41b0 : ((bt a0 (ji37)) == 46) = false := beq_eq_false_iff_ne.mpr c41
                                  have c41b1 : ((bt a0 (ji37)) != 46) = true := bne_iff_ne.mpr c41
                                  obtain ⟨ji50, hji50⟩ : ∃ j_ : Int, (wrap64 (x3_2 + 1)) = j_ := ⟨_, rfl⟩
                                  replace H : (if 0 ≤ (ji50) then (if (ji50) < (a0.size : Int) then (if (bt a0 (ji50)) = 46 then (if 0 ≤ x3_2 then (if x3_2 < (a0.size : Int) then (if (bt a0 x3_2) = 46 then (postbagref08_Domain.l0 kj12 a0 ji50) else (if x4_5 = true then (postbagref08_Domain.l0 kj12 a0 ji50) else (some false))) else (none)) else (none)) else (if 0 ≤ x3_2 then (if x3_2 < (a0.size : Int) then (if (bt a0 x3_2) = 46 then (postbagref08_Domain.l0 kj12 a0 ji50) else (postbagref08_Domain.l0 kj12 a0 ji50)) else (none)) else (none))) else (none)) else (none)) = some r := by first | (rw [hji50] at H; exact H) | (simp only [hji50] at H ⊢; exact H)
                                  have hji50w : (IntKind.i64.wrap (x3_2 + 1)) = ji50 := (i64_w _).trans hji50
                                  by_cases c51 : 0 ≤ (ji50)
                                  · rw [if_pos c51] at H
                                    have c51b0 : decide (0 ≤ (ji50)) = true := decide_eq_true c51
                                    clear c51
                                    by_cases c52 : (ji50) < (a0.size : Int)
                                    · rw [if_pos c52] at H
                                      have c52b0 : decide ((ji50) < (a0.size : Int)) = true := decide_eq_true c52
                                      clear c52
                                      by_cases c54 : (bt a0 (ji50)) = 46
                                      · rw [if_pos c54] at H
                                        have c54b0 : ((bt a0 (ji50)) == 46) = true := beq_iff_eq.mpr c54
                                        have c54b1 : ((bt a0 (ji50)) != 46) = false := bne_eq_false_iff_eq.mpr c54
                                        clear c54
                                        by_cases c55 : 0 ≤ x3_2
                                        · rw [if_pos c55] at H
                                          have c55b0 : decide (0 ≤ x3_2) = true := decide_eq_true c55
                                          clear c55
                                          by_cases c56 : x3_2 < (a0.size : Int)
                                          · rw [if_pos c56] at H
                                            have c56b0 : decide (x3_2 < (a0.size : Int)) = true := decide_eq_true c56
                                            clear c56
                                            by_cases c58 : (bt a0 x3_2) = 46
                                            · rw [if_pos c58] at H
                                              have c58b0 : ((bt a0 x3_2) == 46) = true := beq_iff_eq.mpr c58
                                              have c58b1 : ((bt a0 x3_2) != 46) = false := bne_eq_false_iff_eq.mpr c58
                                              clear c58
                                              have H' := Aside0.mk H
                                              clear H
                                              have p40 : 0 ≤ ((ji37) : Int) := of_decide_eq_true (by first | (with_reducible assumption) | assumption)
                                              have q40 : (ji37) < (a0.size : Int) := of_decide_eq_true (by first | (with_reducible assumption) | assumption)
                                              have hx40 := bt_at a0 (ji37)
                                              replace p40 := eq_true p40
                                              replace q40 := eq_true q40
                                              have p53 : 0 ≤ ((ji50) : Int) := of_decide_eq_true (by first | (with_reducible assumption) | assumption)
                                              have q53 : (ji50) < (a0.size : Int) := of_decide_eq_true (by first | (with_reducible assumption) | assumption)
                                              have hx53 := bt_at a0 (ji50)
                                              replace p53 := eq_true p53
                                              replace q53 := eq_true q53
                                              have p57 : 0 ≤ (x3_2 : Int) := of_decide_eq_true (by first | (with_reducible assumption) | assumption)
                                              have q57 : x3_2 < (a0.size : Int) := of_decide_eq_true (by first | (with_reducible assumption) | assumption)
                                              have hx57 := bt_at a0 x3_2
                                              replace p57 := eq_true p57
                                              replace q57 := eq_true q57
                                              have p59 : 0 ≤ (x3_2 : Int) := of_decide_eq_true (by first | (with_reducible assumption) | assumption)
                                              have q59 : x3_2 < (a0.size : Int) := of_decide_eq_true (by first | (with_reducible assumption) | assumption)
                                              have hx59 := bt_at a0 x3_2
                                              replace p59 := eq_true p59
                                              replace q59 := eq_true q59
                                              have p60 : 0 ≤ ((ji37) : Int) := of_decide_eq_true (by first | (with_reducible assumption) | assumption)
                                              have q60 : (ji37) < (a0.size : Int) := of_decide_eq_true (by first | (with_reducible assumption) | assumption)
                                              have hx60 := bt_at a0 (ji37)
                                              replace p60 := eq_true p60
                                              replace q60 := eq_true q60
                                              go_wp2
                                              go_roundg kj12
                                              case measure => have := HJ1.out; have := HK2.out; have := HJ5.out; have := HJ12.out; omega
                                              case rel => exact ⟨(ji50), (by first | rfl | (simp; done) | (simp only [← hji50] <;> (first | rfl | simp)) | (simp [*]; done)), H', ⟨by have := HJ1.out; have := HK2.out; have := HJ5.out; have := HJ12.out; omega⟩, by repeat (first | exact Drawn0.refl _ | apply Drawn0.step)⟩
                                            · rw [if_neg c58] at H
                                              have c58b0 : ((bt a0 x3_2) == 46) = false := beq_eq_false_iff_ne.mpr c58
                                              have c58b1 : ((bt a0 x3_2) != 46) = true := bne_iff_ne.mpr c58
                                              by_cases c61 : x4_5 = true
                                              · subst c61
                                                have H1 : (postbagref08_Domain.l0 kj12 a0 ji50) = some r := by rw [if_pos rfl] at H; exact H
                                                clear H
                                                have H := H1
                                                clear H1
                                                have H' := Aside0.mk H
                                                clear H
                                                have p40 : 0 ≤ ((ji37) : Int) := of_decide_eq_true (by first | (with_reducible assumption) | assumption)
                                                have q40 : (ji37) < (a0.size : Int) := of_decide_eq_true (by first | (with_reducible assumption) | assumption)
                                                have hx40 := bt_at a0 (ji37)
                                                replace p40 := eq_true p40
                                                replace q40 := eq_true q40
                                                have p53 : 0 ≤ ((ji50) : Int) := of_decide_eq_true (by first | (with_reducible assumption) | assumption)
                                                have q53 : (ji50) < (a0.size : Int) := of_decide_eq_true (by first | (with_reducible assumption) | assumption)
                                                have hx53 := bt_at a0 (ji50)
                                                replace p53 := eq_true p53
                                                replace q53 := eq_true q53
                                                have p57 : 0 ≤ (x3_2 : Int) := of_decide_eq_true (by first | (with_reducible assumption) | assumption)
                                                have q57 : x3_2 < (a0.size : Int) := of_decide_eq_true (by first | (with_reducible assumption) | assumption)
                                                have hx57 := bt_at a0 x3_2
                                                replace p57 := eq_true p57
                                                replace q57 := eq_true q57
                                                have p62 : 0 ≤ (x3_2 : Int) := of_decide_eq_true (by first | (with_reducible assumption) | assumption)
                                                have q62 : x3_2 < (a0.size : Int) := of_decide_eq_true (by first | (with_reducible assumption) | assumption)
                                                have hx62 := bt_at a0 x3_2
                                                replace p62 := eq_true p62
                                                replace q62 := eq_true q62
                                                go_wp2
                                                go_roundg kj12
                                                case measure => have := HJ1.out; have := HK2.out; have := HJ5.out; have := HJ12.out; omega
                                                case rel => exact ⟨(ji50), (by first | rfl | (simp; done) | (simp only [← hji50] <;> (first | rfl | simp)) | (simp [*]; done)), H', ⟨by have := HJ1.out; have := HK2.out; have := HJ5.out; have := HJ12.out; omega⟩, by repeat (first | exact Drawn0.refl _ | apply Drawn0.step)⟩
                                              · replace c61 := Bool.eq_false_iff.mpr c61
                                                subst c61
                                                have H1 : (some false) = some r := by rw [if_neg (show ¬ (false = true) by decide)] at H; exact H
                                                clear H
                                                have H := H1
                                                clear H1
                                                obtain rfl := Option.some.inj H
                                                have p40 : 0 ≤ ((ji37) : Int) := of_decide_eq_true (by first | (with_reducible assumption) | assumption)
                                                have q40 : (ji37) < (a0.size : Int) := of_decide_eq_true (by first | (with_reducible assumption) | assumption)
                                                have hx40 := bt_at a0 (ji37)
                                                replace p40 := eq_true p40
                                                replace q40 := eq_true q40
                                                have p53 : 0 ≤ ((ji50) : Int) := of_decide_eq_true (by first | (with_reducible assumption) | assumption)
                                                have q53 : (ji50) < (a0.size : Int) := of_decide_eq_true (by first | (with_reducible assumption) | assumption)
                                                have hx53 := bt_at a0 (ji50)
                                                replace p53 := eq_true p53
                                                replace q53 := eq_true q53
                                                have p57 : 0 ≤ (x3_2 : Int) := of_decide_eq_true (by first | (with_reducible assumption) | assumption)
                                                have q57 : x3_2 < (a0.size : Int) := of_decide_eq_true (by first | (with_reducible assumption) | assumption)
                                                have hx57 := bt_at a0 x3_2
                                                replace p57 := eq_true p57
                                                replace q57 := eq_true q57
                                                go_wp2
                                                go_ret
                                                exact ⟨by first | rfl | (simp; done) | (simp only [← hji37, ← hji50] <;> (first | rfl | simp)) | (simp [*]; done), by repeat (first | exact Drawn0.refl _ | apply Drawn0.step)⟩
                                          · rw [if_neg c56] at H
                                            exact absurd H (by simp)
                                        · rw [if_neg c55] at H
                                          exact absurd H (by simp)
                                      · rw [if_neg c54] at H
                                        have c54b0 : ((bt a0 (ji50)) == 46) = false := beq_eq_false_iff_ne.mpr c54
                                        have c54b1 : ((bt a0 (ji50)) != 46) = true := bne_iff_ne.mpr c54
                                        by_cases c63 : 0 ≤ x3_2
                                        · rw [if_pos c63] at H
                                          have c63b0 : decide (0 ≤ x3_2) = true := decide_eq_true c63
                                          clear c63
                                          by_cases c64 : x3_2 < (a0.size : Int)
                                          · rw [if_pos c64] at H
                                            have c64b0 : decide (x3_2 < (a0.size : Int)) = true := decide_eq_true c64
                                            clear c64
                                            by_cases c66 : (bt a0 x3_2) = 46
                                            · rw [if_pos c66] at H
                                              have c66b0 : ((bt a0 x3_2) == 46) = true := beq_iff_eq.mpr c66
                                              have c66b1 : ((bt a0 x3_2) != 46) = false := bne_eq_false_iff_eq.mpr c66
                                              clear c66
                                              have H' := Aside0.mk H
                                              clear H
                                              have p40 : 0 ≤ ((ji37) : Int) := of_decide_eq_true (by first | (with_reducible assumption) | assumption)
                                              have q40 : (ji37) < (a0.size : Int) := of_decide_eq_true (by first | (with_reducible assumption) | assumption)
                                              have hx40 := bt_at a0 (ji37)
                                              replace p40 := eq_true p40
                                              replace q40 := eq_true q40
                                              have p53 : 0 ≤ ((ji50) : Int) := of_decide_eq_true (by first | (with_reducible assumption) | assumption)
                                              have q53 : (ji50) < (a0.size : Int) := of_decide_eq_true (by first | (with_reducible assumption) | assumption)
                                              have hx53 := bt_at a0 (ji50)
                                              replace p53 := eq_true p53
                                              replace q53 := eq_true q53
                                              have p65 : 0 ≤ (x3_2 : Int) := of_decide_eq_true (by first | (with_reducible assumption) | assumption)
                                              have q65 : x3_2 < (a0.size : Int) := of_decide_eq_true (by first | (with_reducible assumption) | assumption)
                                              have hx65 := bt_at a0 x3_2
                                              replace p65 := eq_true p65
                                              replace q65 := eq_true q65
                                              have p67 : 0 ≤ ((ji37) : Int) := of_decide_eq_true (by first | (with_reducible assumption) | assumption)
                                              have q67 : (ji37) < (a0.size : Int) := of_decide_eq_true (by first | (with_reducible assumption) | assumption)
                                              have hx67 := bt_at a0 (ji37)
                                              replace p67 := eq_true p67
                                              replace q67 := eq_true q67
                                              go_wp2
                                              go_roundg kj12
                                              case measure => have := HJ1.out; have := HK2.out; have := HJ5.out; have := HJ12.out; omega
                                              case rel => exact ⟨(ji50), (by first | rfl | (simp; done) | (simp only [← hji50] <;> (first | rfl | simp)) | (simp [*]; done)), H', ⟨by have := HJ1.out; have := HK2.out; have := HJ5.out; have := HJ12.out; omega⟩, by repeat (first | exact Drawn0.refl _ | apply Drawn0.step)⟩
                                            · rw [if_neg c66] at H
                                              have c66b0 : ((bt a0 x3_2) == 46) = false := beq_eq_false_iff_ne.mpr c66
                                              have c66b1 : ((bt a0 x3_2) != 46) = true := bne_iff_ne.mpr c66
                                              have H' := Aside0.mk H
                                              clear H
                                              have p40 : 0 ≤ ((ji37) : Int) := of_decide_eq_true (by first | (with_reducible assumption) | assumption)
                                              have q40 : (ji37) < (a0.size : Int) := of_decide_eq_true (by first | (with_reducible assumption) | assumption)
                                              have hx40 := bt_at a0 (ji37)
                                              replace p40 := eq_true p40
                                              replace q40 := eq_true q40
                                              have p53 : 0 ≤ ((ji50) : Int) := of_decide_eq_true (by first | (with_reducible assumption) | assumption)
                                              have q53 : (ji50) < (a0.size : Int) := of_decide_eq_true (by first | (with_reducible assumption) | assumption)
                                              have hx53 := bt_at a0 (ji50)
                                              replace p53 := eq_true p53
                                              replace q53 := eq_true q53
                                              have p65 : 0 ≤ (x3_2 : Int) := of_decide_eq_true (by first | (with_reducible assumption) | assumption)
                                              have q65 : x3_2 < (a0.size : Int) := of_decide_eq_true (by first | (with_reducible assumption) | assumption)
                                              have hx65 := bt_at a0 x3_2
                                              replace p65 := eq_true p65
                                              replace q65 := eq_true q65
                                              go_wp2
                                              go_roundg kj12
                                              case measure => have := HJ1.out; have := HK2.out; have := HJ5.out; have := HJ12.out; omega
                                              case rel => exact ⟨(ji50), (by first | rfl | (simp; done) | (simp only [← hji50] <;> (first | rfl | simp)) | (simp [*]; done)), H', ⟨by have := HJ1.out; have := HK2.out; have := HJ5.out; have := HJ12.out; omega⟩, by repeat (first | exact Drawn0.refl _ | apply Drawn0.step)⟩
                                          · rw [if_neg c64] at H
                                            exact absurd H (by simp)
                                        · rw [if_neg c63] at H
                                          exact absurd H (by simp)
                                    · rw [if_neg c52] at H
                                      exact absurd H (by simp)
                                  · rw [if_neg c51] at H
                                    exact absurd H (by simp)
                              · rw [if_neg c39] at H
                                exact absurd H (by simp)
                            · rw [if_neg c38] at H
                              exact absurd H (by simp)
            · rw [if_neg c5] at H
              have c5b0 : decide (x3_2 < (a0.size : Int)) = false := decide_eq_false c5
              clear c5
              obtain rfl := Option.some.inj H
              go_wp2
              go_ret
              exact ⟨by first | rfl | (simp; done) | (simp [*]; done) | (simp [Go.Proofs.YtjggdkcfpdhoaaaGreatDoorW.SRows.bne_nil_]; done), by repeat (first | exact Drawn0.refl _ | apply Drawn0.step)⟩

/-- THE ONE PURE STATEMENT of postbagref08_Domain: yours. -/
def postbagref08_Domain.Pure : Prop := ∀ (a0 : ByteArray), a0.size ≤ 140737488351232 → ∃ k, postbagref08_Domain.f k a0 = some true
theorem postbagref08_Domain.walk (P : postbagref08_Domain.Pure) (a0 : ByteArray) (w : World) (w0 : a0.size ≤ 140737488351232) :
    Calls Tryz.prog 21 #[.string a0] w fun e w' => e = .returned (.bool true) ∧ Below w.heap.size w w' := by
  obtain ⟨k, h⟩ := P a0 w0
  refine (postbagref08_Domain.calls k a0 true w h).mono ?_
  rintro e w' ⟨rfl, hd⟩
  exact ⟨rfl, hd.below⟩

end Go.Proofs.YtjggdkcfpdhoaaaGreatDoor.GSmtp
