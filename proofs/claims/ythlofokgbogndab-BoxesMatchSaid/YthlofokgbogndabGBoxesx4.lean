/- Written by a program of mine (wip/tools/mkprint.py turns the kit's print; given contracts by hand). Lean checks it. -/
import Derived.Test.YthlofokgbogndabGBoxesx0
import Derived.Test.YthlofokgbogndabGBoxesx3
namespace Go.Proofs.Ythlofokgbogndab.GBoxes
open Go.RowKit Go.Proofs.YthlofokgbogndabW.PrintWords Go.Proofs.YthlofokgbogndabW.PrintLast Go.Proofs.YthlofokgbogndabW.PrintMore
attribute [local go_sem] max2_int min2_int max_two min_two max_three min_three max_four min_four   -- for this text's walks alone
set_option linter.unusedVariables false
set_option linter.unusedSimpArgs false

/-! ### postbagref13_Fits: function 9 -/
mutual
def postbagref13_Fits.l0 : Nat → ByteArray → ByteArray → Int → Int → List Bool → Int → Option (Bool)
  | 0, _, _, _, _, _, _ => none
  | k + 1, x0, x1, x5, x6, x7, x8 => if x8 ≥ 0 then (postbagref13_Fits.l1 k x0 x1 x5 x6 x7 x8 (wrap64 (x6 - 1))) else (if 0 < (x7.length : Int) then (some (rdOf false x7 0)) else (none))
def postbagref13_Fits.l1 : Nat → ByteArray → ByteArray → Int → Int → List Bool → Int → Int → Option (Bool)
  | 0, _, _, _, _, _, _, _ => none
  | k + 1, x0, x1, x5, x6, x7, x8, x9 => if x9 ≥ 0 then (if x8 = (wrap64 (x5 - 1)) then (if 0 ≤ (wrap64 ((wrap64 (x8 * x6)) + x9)) then (if (wrap64 ((wrap64 (x8 * x6)) + x9)) < (x7.length : Int) then (postbagref13_Fits.l1 k x0 x1 x5 x6 (x7.set ((wrap64 ((wrap64 (x8 * x6)) + x9)) : Int).toNat (x9 == (wrap64 (x6 - 1)))) x8 (wrap64 (x9 - 1))) else (none)) else (none)) else (if 0 ≤ x8 then (if x8 < (x0.size : Int) then (if (bt x0 x8) = 42 then (postbagref13_Fits.j2 k x0 x1 x5 x6 x7 x8 x9 false true) else (postbagref13_Fits.j2 k x0 x1 x5 x6 x7 x8 x9 false ((bt x0 x8) == 37))) else (none)) else (none))) else (postbagref13_Fits.l0 k x0 x1 x5 x6 x7 (wrap64 (x8 - 1)))
def postbagref13_Fits.j2 : Nat → ByteArray → ByteArray → Int → Int → List Bool → Int → Int → Bool → Bool → Option (Bool)
  | 0, _, _, _, _, _, _, _, _, _ => none
  | k + 1, x0, x1, x5, x6, x7, x8, x9, x10, x43 => if x43 = true then (if 0 ≤ (wrap64 ((wrap64 ((wrap64 (x8 + 1)) * x6)) + x9)) then (if (wrap64 ((wrap64 ((wrap64 (x8 + 1)) * x6)) + x9)) < (x7.length : Int) then (if rdOf false x7 (wrap64 ((wrap64 ((wrap64 (x8 + 1)) * x6)) + x9)) = true then (if 0 ≤ (wrap64 ((wrap64 (x8 * x6)) + x9)) then (if (wrap64 ((wrap64 (x8 * x6)) + x9)) < (x7.length : Int) then (postbagref13_Fits.l1 k x0 x1 x5 x6 (x7.set ((wrap64 ((wrap64 (x8 * x6)) + x9)) : Int).toNat true) x8 (wrap64 (x9 - 1))) else (none)) else (none)) else (if x9 < (wrap64 (x6 - 1)) then (if 0 ≤ x8 then (if x8 < (x0.size : Int) then (if (bt x0 x8) = 42 then (if 0 ≤ (wrap64 ((wrap64 ((wrap64 (x8 * x6)) + x9)) + 1)) then (if (wrap64 ((wrap64 ((wrap64 (x8 * x6)) + x9)) + 1)) < (x7.length : Int) then (if 0 ≤ (wrap64 ((wrap64 (x8 * x6)) + x9)) then (if (wrap64 ((wrap64 (x8 * x6)) + x9)) < (x7.length : Int) then (postbagref13_Fits.l1 k x0 x1 x5 x6 (x7.set ((wrap64 ((wrap64 (x8 * x6)) + x9)) : Int).toNat (rdOf false x7 (wrap64 ((wrap64 ((wrap64 (x8 * x6)) + x9)) + 1)))) x8 (wrap64 (x9 - 1))) else (none)) else (none)) else (none)) else (none)) else (if 0 ≤ x9 then (if x9 < (x1.size : Int) then (if (bt x1 x9) = 47 then (if 0 ≤ (wrap64 ((wrap64 (x8 * x6)) + x9)) then (if (wrap64 ((wrap64 (x8 * x6)) + x9)) < (x7.length : Int) then (postbagref13_Fits.l1 k x0 x1 x5 x6 (x7.set ((wrap64 ((wrap64 (x8 * x6)) + x9)) : Int).toNat false) x8 (wrap64 (x9 - 1))) else (none)) else (none)) else (if 0 ≤ (wrap64 ((wrap64 ((wrap64 (x8 * x6)) + x9)) + 1)) then (if (wrap64 ((wrap64 ((wrap64 (x8 * x6)) + x9)) + 1)) < (x7.length : Int) then (if 0 ≤ (wrap64 ((wrap64 (x8 * x6)) + x9)) then (if (wrap64 ((wrap64 (x8 * x6)) + x9)) < (x7.length : Int) then (postbagref13_Fits.l1 k x0 x1 x5 x6 (x7.set ((wrap64 ((wrap64 (x8 * x6)) + x9)) : Int).toNat (rdOf false x7 (wrap64 ((wrap64 ((wrap64 (x8 * x6)) + x9)) + 1)))) x8 (wrap64 (x9 - 1))) else (none)) else (none)) else (none)) else (none))) else (none)) else (none))) else (none)) else (none)) else (if 0 ≤ (wrap64 ((wrap64 (x8 * x6)) + x9)) then (if (wrap64 ((wrap64 (x8 * x6)) + x9)) < (x7.length : Int) then (postbagref13_Fits.l1 k x0 x1 x5 x6 (x7.set ((wrap64 ((wrap64 (x8 * x6)) + x9)) : Int).toNat false) x8 (wrap64 (x9 - 1))) else (none)) else (none)))) else (none)) else (none)) else (if x9 < (wrap64 (x6 - 1)) then (if 0 ≤ x8 then (if x8 < (x0.size : Int) then (if 0 ≤ x9 then (if x9 < (x1.size : Int) then (if (bt x0 x8) = (bt x1 x9) then (if 0 ≤ (wrap64 ((wrap64 ((wrap64 ((wrap64 (x8 + 1)) * x6)) + x9)) + 1)) then (if (wrap64 ((wrap64 ((wrap64 ((wrap64 (x8 + 1)) * x6)) + x9)) + 1)) < (x7.length : Int) then (if 0 ≤ (wrap64 ((wrap64 (x8 * x6)) + x9)) then (if (wrap64 ((wrap64 (x8 * x6)) + x9)) < (x7.length : Int) then (postbagref13_Fits.l1 k x0 x1 x5 x6 (x7.set ((wrap64 ((wrap64 (x8 * x6)) + x9)) : Int).toNat (rdOf false x7 (wrap64 ((wrap64 ((wrap64 ((wrap64 (x8 + 1)) * x6)) + x9)) + 1)))) x8 (wrap64 (x9 - 1))) else (none)) else (none)) else (none)) else (none)) else (if x1.toList = ([73, 78, 66, 79, 88] : List UInt8) then (if x8 ≤ (wrap64 (x8 + 1)) then (if (wrap64 (x8 + 1)) ≤ (x0.size : Int) then ((postbagref08_Small.f (x0.extract (x8 : Int).toNat ((wrap64 (x8 + 1)) : Int).toNat)).bind fun t130 => (if x9 ≤ (wrap64 (x9 + 1)) then (if (wrap64 (x9 + 1)) ≤ (x1.size : Int) then ((postbagref08_Small.f (x1.extract (x9 : Int).toNat ((wrap64 (x9 + 1)) : Int).toNat)).bind fun t131 => (if t130.toList = t131.toList then (if 0 ≤ (wrap64 ((wrap64 ((wrap64 ((wrap64 (x8 + 1)) * x6)) + x9)) + 1)) then (if (wrap64 ((wrap64 ((wrap64 ((wrap64 (x8 + 1)) * x6)) + x9)) + 1)) < (x7.length : Int) then (if 0 ≤ (wrap64 ((wrap64 (x8 * x6)) + x9)) then (if (wrap64 ((wrap64 (x8 * x6)) + x9)) < (x7.length : Int) then (postbagref13_Fits.l1 k x0 x1 x5 x6 (x7.set ((wrap64 ((wrap64 (x8 * x6)) + x9)) : Int).toNat (rdOf false x7 (wrap64 ((wrap64 ((wrap64 ((wrap64 (x8 + 1)) * x6)) + x9)) + 1)))) x8 (wrap64 (x9 - 1))) else (none)) else (none)) else (none)) else (none)) else (if 0 ≤ (wrap64 ((wrap64 (x8 * x6)) + x9)) then (if (wrap64 ((wrap64 (x8 * x6)) + x9)) < (x7.length : Int) then (postbagref13_Fits.l1 k x0 x1 x5 x6 (x7.set ((wrap64 ((wrap64 (x8 * x6)) + x9)) : Int).toNat false) x8 (wrap64 (x9 - 1))) else (none)) else (none)))) else (none)) else (none))) else (none)) else (none)) else (if 0 ≤ (wrap64 ((wrap64 (x8 * x6)) + x9)) then (if (wrap64 ((wrap64 (x8 * x6)) + x9)) < (x7.length : Int) then (postbagref13_Fits.l1 k x0 x1 x5 x6 (x7.set ((wrap64 ((wrap64 (x8 * x6)) + x9)) : Int).toNat false) x8 (wrap64 (x9 - 1))) else (none)) else (none)))) else (none)) else (none)) else (none)) else (none)) else (if 0 ≤ (wrap64 ((wrap64 (x8 * x6)) + x9)) then (if (wrap64 ((wrap64 (x8 * x6)) + x9)) < (x7.length : Int) then (postbagref13_Fits.l1 k x0 x1 x5 x6 (x7.set ((wrap64 ((wrap64 (x8 * x6)) + x9)) : Int).toNat x10) x8 (wrap64 (x9 - 1))) else (none)) else (none)))
end
def postbagref13_Fits.f (k : Nat) (a0 : ByteArray) (a1 : ByteArray) : Option (Bool) := if 0 ≤ (wrap64 ((wrap64 ((a0.size : Int) + 1)) * (wrap64 ((a1.size : Int) + 1)))) then (if (wrap64 ((wrap64 ((a0.size : Int) + 1)) * (wrap64 ((a1.size : Int) + 1))) : Int).toNat ≤ 281474976710656 then (postbagref13_Fits.l0 k a0 a1 (wrap64 ((a0.size : Int) + 1)) (wrap64 ((a1.size : Int) + 1)) (List.replicate (wrap64 ((wrap64 ((a0.size : Int) + 1)) * (wrap64 ((a1.size : Int) + 1))) : Int).toNat false) (wrap64 ((wrap64 ((a0.size : Int) + 1)) - 1))) else (none)) else (none)
theorem postbagref13_Fits.mono_l : ∀ k, (∀ y0 y1 y2 y3 y4 y5, LeO (postbagref13_Fits.l0 k y0 y1 y2 y3 y4 y5) (postbagref13_Fits.l0 (k + 1) y0 y1 y2 y3 y4 y5)) ∧ (∀ y0 y1 y2 y3 y4 y5 y6, LeO (postbagref13_Fits.l1 k y0 y1 y2 y3 y4 y5 y6) (postbagref13_Fits.l1 (k + 1) y0 y1 y2 y3 y4 y5 y6)) ∧ (∀ y0 y1 y2 y3 y4 y5 y6 y7 y8, LeO (postbagref13_Fits.j2 k y0 y1 y2 y3 y4 y5 y6 y7 y8) (postbagref13_Fits.j2 (k + 1) y0 y1 y2 y3 y4 y5 y6 y7 y8))
  | 0 => ⟨fun _ _ _ _ _ _ r h => by simp [postbagref13_Fits.l0] at h, fun _ _ _ _ _ _ _ r h => by simp [postbagref13_Fits.l1] at h, fun _ _ _ _ _ _ _ _ _ r h => by simp [postbagref13_Fits.j2] at h⟩
  | k + 1 => by
    obtain ⟨ih0, ih1, ih2⟩ := postbagref13_Fits.mono_l k
    refine ⟨?_, ?_, ?_⟩
    · intro y0 y1 y2 y3 y4 y5
      unfold postbagref13_Fits.l0
      repeat' first
      | (with_reducible exact ih0 _ _ _ _ _ _)
      | (with_reducible exact ih1 _ _ _ _ _ _ _)
      | (with_reducible exact ih2 _ _ _ _ _ _ _ _ _)
      | (with_reducible exact LeO.refl _)
      | (with_reducible exact LeO.none _)
      | (with_reducible refine LeO.ite ?_ ?_)
      | (with_reducible refine LeO.bind ?_ (fun _ => ?_))
      | exact ih0 _ _ _ _ _ _
      | exact ih1 _ _ _ _ _ _ _
      | exact ih2 _ _ _ _ _ _ _ _ _
      | exact LeO.none _
      | refine LeO.ite ?_ ?_
      | refine LeO.bind ?_ (fun _ => ?_)
    · intro y0 y1 y2 y3 y4 y5 y6
      unfold postbagref13_Fits.l1
      repeat' first
      | (with_reducible exact ih0 _ _ _ _ _ _)
      | (with_reducible exact ih1 _ _ _ _ _ _ _)
      | (with_reducible exact ih2 _ _ _ _ _ _ _ _ _)
      | (with_reducible exact LeO.refl _)
      | (with_reducible exact LeO.none _)
      | (with_reducible refine LeO.ite ?_ ?_)
      | (with_reducible refine LeO.bind ?_ (fun _ => ?_))
      | exact ih0 _ _ _ _ _ _
      | exact ih1 _ _ _ _ _ _ _
      | exact ih2 _ _ _ _ _ _ _ _ _
      | exact LeO.none _
      | refine LeO.ite ?_ ?_
      | refine LeO.bind ?_ (fun _ => ?_)
    · intro y0 y1 y2 y3 y4 y5 y6 y7 y8
      unfold postbagref13_Fits.j2
      repeat' first
      | (with_reducible exact ih0 _ _ _ _ _ _)
      | (with_reducible exact ih1 _ _ _ _ _ _ _)
      | (with_reducible exact ih2 _ _ _ _ _ _ _ _ _)
      | (with_reducible exact LeO.refl _)
      | (with_reducible exact LeO.none _)
      | (with_reducible refine LeO.ite ?_ ?_)
      | (with_reducible refine LeO.bind ?_ (fun _ => ?_))
      | exact ih0 _ _ _ _ _ _
      | exact ih1 _ _ _ _ _ _ _
      | exact ih2 _ _ _ _ _ _ _ _ _
      | exact LeO.none _
      | refine LeO.ite ?_ ?_
      | refine LeO.bind ?_ (fun _ => ?_)
theorem postbagref13_Fits.mono : ∀ a0 a1 k, LeO (postbagref13_Fits.f k a0 a1) (postbagref13_Fits.f (k + 1) a0 a1) := by
  intro a0 a1 k
  obtain ⟨ih0, ih1, ih2⟩ := postbagref13_Fits.mono_l k
  unfold postbagref13_Fits.f
  repeat' first
      | (with_reducible exact ih0 _ _ _ _ _ _)
      | (with_reducible exact ih1 _ _ _ _ _ _ _)
      | (with_reducible exact ih2 _ _ _ _ _ _ _ _ _)
      | (with_reducible exact LeO.refl _)
      | (with_reducible exact LeO.none _)
      | (with_reducible refine LeO.ite ?_ ?_)
      | (with_reducible refine LeO.bind ?_ (fun _ => ?_))
      | exact ih0 _ _ _ _ _ _
      | exact ih1 _ _ _ _ _ _ _
      | exact ih2 _ _ _ _ _ _ _ _ _
      | exact LeO.none _
      | refine LeO.ite ?_ ?_
      | refine LeO.bind ?_ (fun _ => ?_)
def postbagref13_Fits.T15 : Bool × List (List Nat × List Nat) := (true, [([], []), ([], []), ([0, 1], [0, 1]), ([], []), ([], []), ([3, 4], [3, 4]), ([2, 5], [2, 5]), ([6], [6]), ([7], [7]), ([8, 7], [7, 8]), ([9, 7, 7], [7, 9]), ([10], [10]), ([10], [10]), ([10], [10]), ([13, 10], [10, 13]), ([11, 12, 14, 10], [10, 11, 12, 14]), ([15, 10, 10], [10, 15]), ([10], [10]), ([10], [10]), ([10], [10]), ([19, 10], [10, 19]), ([17, 18, 20, 10], [10, 17, 18, 20]), ([21, 16, 10], [10, 21]), ([16, 22, 10], [10, 16, 22]), ([10, 23, 7], [7, 10, 23]), ([7, 24], [7, 24]), ([25, 22, 0, 1, 2, 3, 4, 5, 6, 7, 8, 9, 10, 11, 12, 13, 14, 15, 16, 17, 18, 19, 20, 21, 22, 23, 24, 25], [25])])
def postbagref13_Fits.B15 : List Nat := [0, 0, 3, 0, 0, 24, 63, 127, 255, 511, 1023, 2047, 2047, 2047, 10239, 32767, 65535, 2047, 2047, 2047, 526335, 1968127, 4194303, 8388607, 16777215, 33554431, 67108863]
theorem postbagref13_Fits.tab15 : rtab .any (opsOf Try.f9 15) = postbagref13_Fits.T15 := by kernel_rfl
theorem postbagref13_Fits.bits15 : waitsOk postbagref13_Fits.T15.2 postbagref13_Fits.B15 = true := by kernel_rfl
set_option maxHeartbeats 8000000 in
set_option maxRecDepth 100000 in
theorem postbagref13_Fits.calls (k : Nat) (a0 : ByteArray) (a1 : ByteArray) (r : Bool) (w : World) (h : postbagref13_Fits.f k a0 a1 = some r) :
    Calls Try.prog 9 #[.string a0, .string a1] w fun e w' => e = .returned (.bool r) ∧ Below w.heap.size w w' := by
  have HB := Aside0.mk (Below.refl w.heap.size w)
  have H : (if 0 ≤ (wrap64 ((wrap64 ((a0.size : Int) + 1)) * (wrap64 ((a1.size : Int) + 1)))) then (if (wrap64 ((wrap64 ((a0.size : Int) + 1)) * (wrap64 ((a1.size : Int) + 1))) : Int).toNat ≤ 281474976710656 then (postbagref13_Fits.l0 k a0 a1 (wrap64 ((a0.size : Int) + 1)) (wrap64 ((a1.size : Int) + 1)) (List.replicate (wrap64 ((wrap64 ((a0.size : Int) + 1)) * (wrap64 ((a1.size : Int) + 1))) : Int).toNat false) (wrap64 ((wrap64 ((a0.size : Int) + 1)) - 1))) else (none)) else (none)) = some r := h
  clear h
  obtain ⟨ji3, hji3⟩ : ∃ j_ : Int, (wrap64 ((wrap64 ((a0.size : Int) + 1)) * (wrap64 ((a1.size : Int) + 1)))) = j_ := ⟨_, rfl⟩
  replace H : (if 0 ≤ (ji3) then (if (ji3 : Int).toNat ≤ 281474976710656 then (postbagref13_Fits.l0 k a0 a1 (wrap64 ((a0.size : Int) + 1)) (wrap64 ((a1.size : Int) + 1)) (List.replicate (ji3 : Int).toNat false) (wrap64 ((wrap64 ((a0.size : Int) + 1)) - 1))) else (none)) else (none)) = some r := by first | (rw [hji3] at H; exact H) | (simp only [hji3] at H ⊢; exact H)
  have hji3w : (IntKind.i64.wrap ((wrap64 ((a0.size : Int) + 1)) * (wrap64 ((a1.size : Int) + 1)))) = ji3 := (i64_w _).trans hji3
  by_cases c4 : 0 ≤ (ji3)
  · rw [if_pos c4] at H
    have c4b0 := eq_true c4
    have c4b1 : decide (0 ≤ (ji3)) = true := decide_eq_true c4
    clear c4
    by_cases c5 : (ji3 : Int).toNat ≤ 281474976710656
    · rw [if_pos c5] at H
      have c5b0 := eq_true c5
      have c5b1 : decide ((ji3 : Int).toNat ≤ 281474976710656) = true := decide_eq_true c5
      clear c5
      obtain ⟨y115, hy115⟩ : ∃ y_ : List Bool, y_ = (List.replicate (ji3 : Int).toNat false) := ⟨_, rfl⟩
      replace H : (postbagref13_Fits.l0 k a0 a1 (wrap64 ((a0.size : Int) + 1)) (wrap64 ((a1.size : Int) + 1)) y115 (wrap64 ((wrap64 ((a0.size : Int) + 1)) - 1))) = some r := by first | (rw [hy115]; with_reducible exact H) | (have H2_ := (Option.bind_some _ _).symm.trans H; rw [hy115]; with_reducible exact H2_) | (have H2_ := (Option.bind_some _ _).symm.trans H; with_reducible exact H2_) | with_reducible exact H | (rw [hy115]; exact H) | exact H
      have Ny115 := Aside0.mk hy115
      clear hy115
      have H' := Aside0.mk H
      clear H
      go_enter Try.func9, Try.ntmps9
      go_wp2_with (first | ((with_reducible refine gate_dst (N := 21) rfl ?_); refine Kd.R_make Kd.bool _ 4 rfl (N := 21) rfl 32 _ _ rfl ji3 rfl rfl Try.underlying32 (.bool false) 1 info4 rfl (by decide) (by omega) false (ok := fun _ => True) (okp := fun _ => True) rfl (fun _ hk => hk) trivial (of_decide_eq_true (by first | (with_reducible assumption) | assumption)) (Nat.le_trans (Nat.mul_le_mul_right _ (of_decide_eq_true (by first | (with_reducible assumption) | assumption) : ji3.toNat ≤ 281474976710656)) (by omega)) (Below.refl _ _) (Nat.le_refl _) ?_; intro v116 w6 ho7 hb hg_ hnew_; clear hg_ hnew_; (first | rw [← Ny115.out] at ho7 | (simp only [Int.reduceToNat] at ho7; rw [← Ny115.out] at ho7)); have n0_ := Aside0.mk (Kd.R_lower ho7 (below_size (by repeat (first | (with_reducible first | exact HB.out | apply below_alloc | apply pw_below_drewN | apply below_drew1) | exact HB.out | exact Below.refl _ _)))); have n1_ := Aside0.mk (below_step (by repeat (first | (with_reducible first | exact HB.out | apply below_alloc | apply pw_below_drewN | apply below_drew1) | exact HB.out | exact Below.refl _ _)) hb); clear HB; have HO117 := n0_; have HB := n1_; clear n0_ n1_; clear hb ho7))
      go_loopg [8] k (fun kq v8 w' => ∃ (x7_1 : List Bool) (x8_1 : Int), v8 = .int .i64 x8_1 ∧ Aside0 (postbagref13_Fits.l0 kq a0 a1 (wrap64 ((a0.size : Int) + 1)) (wrap64 ((a1.size : Int) + 1)) x7_1 x8_1 = some r) ∧ Aside0 (kq ≤ k) ∧ Aside0 (Kd.R Kd.bool 4 w' w.heap.size (fun _ => True) v116 x7_1) ∧ Aside0 (Below w.heap.size w w'))
      case atStart => exact ⟨(y115), (wrap64 ((wrap64 ((a0.size : Int) + 1)) - 1)), (by first | rfl | (simp; done) | (simp [*]; done)), H', ⟨Nat.le_refl _⟩, ⟨by (with_reducible repeat (first | apply Kd.R_alloc | apply Kd.R_drewN | apply Kd.R_drew)); exact HO117.out⟩, ⟨by repeat (first | (with_reducible first | exact HB.out | apply below_alloc | apply pw_below_drewN | apply below_drew1) | exact HB.out | exact Below.refl _ _)⟩⟩
      case round =>
        clear H'
        try clear p2
        try clear c4
        try clear c4b0
        try clear c4b1
        try clear c5
        try clear c5b0
        try clear c5b1
        try clear p6
        obtain ⟨x7_1, x8_1, rfl, HA, HK1, HO_7, HB⟩ := hrel
        cases gk with
        | zero => exact absurd HA.out (by simp [postbagref13_Fits.l0])
        | succ k1 =>
          have H := HA.out
          clear HA
          simp only [postbagref13_Fits.l0] at H
          by_cases c8 : x8_1 ≥ 0
          · rw [if_pos c8] at H
            have c8b0 : decide (0 ≤ x8_1) = true := decide_eq_true c8
            clear c8
            have H' := Aside0.mk H
            clear H
            go_wp2
            go_loopg [9] k1 (fun kq v9 w' => ∃ (x7_2 : List Bool) (x9_2 : Int), v9 = .int .i64 x9_2 ∧ Aside0 (postbagref13_Fits.l1 kq a0 a1 (wrap64 ((a0.size : Int) + 1)) (wrap64 ((a1.size : Int) + 1)) x7_2 x8_1 x9_2 = some r) ∧ Aside0 (kq ≤ k1) ∧ Aside0 (Kd.R Kd.bool 4 w' w.heap.size (fun _ => True) v116 x7_2) ∧ Aside0 (Below w.heap.size w w'))
            case atStart => exact ⟨(x7_1), (wrap64 ((wrap64 ((a1.size : Int) + 1)) - 1)), (by first | rfl | (simp; done) | (simp [*]; done)), H', ⟨Nat.le_refl _⟩, ⟨by (with_reducible repeat (first | apply Kd.R_alloc | apply Kd.R_drewN | apply Kd.R_drew)); exact HO_7.out⟩, ⟨by repeat (first | (with_reducible first | exact HB.out | apply below_alloc | apply pw_below_drewN | apply below_drew1) | exact HB.out | exact Below.refl _ _)⟩⟩
            case round =>
              clear H'
              try clear p2
              try clear c4
              try clear c4b0
              try clear c4b1
              try clear c5
              try clear c5b0
              try clear c5b1
              try clear p6
              try clear c8
              try clear c8b0
              try clear p2
              try clear p6
              obtain ⟨x7_2, x9_2, rfl, HA, HK2, HO_7, HB⟩ := hrel
              cases gk with
              | zero => exact absurd HA.out (by simp [postbagref13_Fits.l1])
              | succ k2 =>
                have H := HA.out
                clear HA
                simp only [postbagref13_Fits.l1] at H
                by_cases c9 : x9_2 ≥ 0
                · rw [if_pos c9] at H
                  have c9b0 : decide (0 ≤ x9_2) = true := decide_eq_true c9
                  clear c9
                  by_cases c10 : x8_1 = (wrap64 ((wrap64 ((a0.size : Int) + 1)) - 1))
                  · rw [if_pos c10] at H
                    have c10b0 : (x8_1 == (wrap64 ((wrap64 ((a0.size : Int) + 1)) - 1))) = true := beq_iff_eq.mpr c10
                    have c10b1 : (x8_1 != (wrap64 ((wrap64 ((a0.size : Int) + 1)) - 1))) = false := bne_eq_false_iff_eq.mpr c10
                    clear c10
                    obtain ⟨ji11, hji11⟩ : ∃ j_ : Int, (wrap64 ((wrap64 (x8_1 * (wrap64 ((a1.size : Int) + 1)))) + x9_2)) = j_ := ⟨_, rfl⟩
                    replace H : (if 0 ≤ (ji11) then (if (ji11) < (x7_2.length : Int) then (postbagref13_Fits.l1 k2 a0 a1 (wrap64 ((a0.size : Int) + 1)) (wrap64 ((a1.size : Int) + 1)) (x7_2.set ((ji11) : Int).toNat (x9_2 == (wrap64 ((wrap64 ((a1.size : Int) + 1)) - 1)))) x8_1 (wrap64 (x9_2 - 1))) else (none)) else (none)) = some r := by first | (rw [hji11] at H; exact H) | (simp only [hji11] at H ⊢; exact H)
                    have hji11w : (IntKind.i64.wrap ((wrap64 (x8_1 * (wrap64 ((a1.size : Int) + 1)))) + x9_2)) = ji11 := (i64_w _).trans hji11
                    by_cases c12 : 0 ≤ (ji11)
                    · rw [if_pos c12] at H
                      have c12b0 : decide (0 ≤ (ji11)) = true := decide_eq_true c12
                      clear c12
                      by_cases c13 : (ji11) < (x7_2.length : Int)
                      · rw [if_pos c13] at H
                        have c13b0 : decide ((ji11) < (x7_2.length : Int)) = true := decide_eq_true c13
                        clear c13
                        obtain ⟨y119, hy119⟩ : ∃ y_ : List Bool, y_ = (x7_2.set ((ji11) : Int).toNat (x9_2 == (wrap64 ((wrap64 ((a1.size : Int) + 1)) - 1)))) := ⟨_, rfl⟩
                        replace H : (postbagref13_Fits.l1 k2 a0 a1 (wrap64 ((a0.size : Int) + 1)) (wrap64 ((a1.size : Int) + 1)) y119 x8_1 (wrap64 (x9_2 - 1))) = some r := by first | (rw [hy119]; with_reducible exact H) | (have H2_ := (Option.bind_some _ _).symm.trans H; rw [hy119]; with_reducible exact H2_) | (have H2_ := (Option.bind_some _ _).symm.trans H; with_reducible exact H2_) | with_reducible exact H | (rw [hy119]; exact H) | exact H
                        have Ny119 := Aside0.mk hy119
                        clear hy119
                        have H' := Aside0.mk H
                        clear H
                        have p14 : 0 ≤ ((ji11) : Int) := of_decide_eq_true (by first | (with_reducible assumption) | assumption)
                        have q14 : ((ji11) : Int) < ((x7_2.length : Int) : Int) := of_decide_eq_true (by first | (with_reducible assumption) | assumption)
                        obtain ⟨go14, co14, eo14, gb14, gl14, cl14, HG14⟩ := Kd.R_form HO_7.out (by omega)
                        (first | cases eo14 | (injection eo14 with ea_ en_ ec_; (first | subst ea_ | (injection ea_ with ea_; subst ea_)); subst ec_; clear en_))
                        have GB14 := Aside0.mk gb14
                        have GG14 := Aside0.mk HG14
                        clear gb14 gl14 HG14
                        obtain ⟨hx14_0, hf14_0⟩ := Kd.R_celln false HO_7.out ((ji11) : Int) p14 q14
                        replace p14 := eq_true p14
                        replace q14 := eq_true q14
                        have HP15 := Kd.R_putg HO_7.out ((ji11) : Int) (x9_2 == (wrap64 ((wrap64 ((a1.size : Int) + 1)) - 1)))
                        go_wp2_with (first | ((with_reducible refine gate_store (t := 4) (p := 143) rfl ?_); refine store_event (t := 4) (p := 143) (v := ?vo_w16) (w1 := (wr.setCell ⟨go14, ((ji11) : Int).toNat, none⟩ (.bool (x9_2 == (wrap64 ((wrap64 ((a1.size : Int) + 1)) - 1)))))) ?hg ?ho ?hn ?hr ?_; (case ho => rfl); (case hg => rfl); (case hn => rfl); (case hr => first | (go_simp; done) | (go_simp; rfl)); intro w16 hw; have hg : wr.grownBy w16 (some go14) := (by rw [hw]; exact HP15.2); have hp_ : Kd.R Kd.bool 4 w16 w.heap.size (fun _ => True) (.slice (some ⟨go14, 0, none⟩) x7_2.length co14) y119 := (by rw [hw, Ny119.out]; exact HP15.1); clear HP15; have n0_ := Aside0.mk (hp_); have n1_ := Aside0.mk ((by rw [hw]; exact below_set (HB.out) GB14.out : Below w.heap.size w w16)); clear HO_7; clear HB; have HO_7 := n0_; have HB := n1_; clear n0_ n1_; clear hg hw hp_))
                        go_roundg k2
                        case measure => have := HK1.out; have := HK2.out; omega
                        case rel => exact ⟨(y119), (wrap64 (x9_2 - 1)), (by first | rfl | (simp; done) | (simp [*]; done)), H', ⟨by have := HK1.out; have := HK2.out; omega⟩, ⟨by (with_reducible repeat (first | apply Kd.R_alloc | apply Kd.R_drewN | apply Kd.R_drew)); exact HO_7.out⟩, ⟨by repeat (first | (with_reducible first | exact HB.out | apply below_alloc | apply pw_below_drewN | apply below_drew1) | exact HB.out | exact Below.refl _ _)⟩⟩
                      · rw [if_neg c13] at H
                        exact absurd H (by simp)
                    · rw [if_neg c12] at H
                      exact absurd H (by simp)
                  · rw [if_neg c10] at H
                    have c10b0 : (x8_1 == (wrap64 ((wrap64 ((a0.size : Int) + 1)) - 1))) = false := beq_eq_false_iff_ne.mpr c10
                    have c10b1 : (x8_1 != (wrap64 ((wrap64 ((a0.size : Int) + 1)) - 1))) = true := bne_iff_ne.mpr c10
                    have HC17 := Aside0.mk H
                    clear H
                    go_upto_region 12 with (fail)
                    go_cut [43] (fun v43 wc => ∃ (kq : Nat) (x43_16 : Bool), v43 = .bool x43_16 ∧ Aside0 (postbagref13_Fits.j2 kq a0 a1 (wrap64 ((a0.size : Int) + 1)) (wrap64 ((a1.size : Int) + 1)) x7_2 x8_1 x9_2 false x43_16 = some r) ∧ Aside0 (kq ≤ k2) ∧ Aside0 (Kd.R Kd.bool 4 wc w.heap.size (fun _ => True) v116 x7_2) ∧ Aside0 (Below w.heap.size w wc))
                    case first =>
                      have H := HC17.out
                      clear HC17
                      by_cases c18 : 0 ≤ x8_1
                      · rw [if_pos c18] at H
                        have c18b0 : decide (0 ≤ x8_1) = true := decide_eq_true c18
                        clear c18
                        (first | rw [c18b0] | (simp only [i64_w, i32_w]; rw [c18b0]) | skip)
                        by_cases c19 : x8_1 < (a0.size : Int)
                        · rw [if_pos c19] at H
                          have c19b0 : decide (x8_1 < (a0.size : Int)) = true := decide_eq_true c19
                          clear c19
                          by_cases c21 : (bt a0 x8_1) = 42
                          · rw [if_pos c21] at H
                            have c21b0 : ((bt a0 x8_1) == 42) = true := beq_iff_eq.mpr c21
                            have c21b1 : ((bt a0 x8_1) != 42) = false := bne_eq_false_iff_eq.mpr c21
                            clear c21
                            have H' := Aside0.mk H
                            clear H
                            have p20 : 0 ≤ (x8_1 : Int) := of_decide_eq_true (by first | (with_reducible assumption) | assumption)
                            have q20 : x8_1 < (a0.size : Int) := of_decide_eq_true (by first | (with_reducible assumption) | assumption)
                            have hx20 := bt_at a0 x8_1
                            replace p20 := eq_true p20
                            replace q20 := eq_true q20
                            go_wp2
                            go_meet
                            case rel => exact ⟨_, (true), (by first | rfl | (simp; done) | (simp [*]; done)), H', ⟨by have := HK1.out; have := HK2.out; first | omega | exact Nat.le_refl _⟩, ⟨by (with_reducible repeat (first | apply Kd.R_alloc | apply Kd.R_drewN | apply Kd.R_drew)); exact HO_7.out⟩, ⟨by repeat (first | (with_reducible first | exact HB.out | apply below_alloc | apply pw_below_drewN | apply below_drew1) | exact HB.out | exact Below.refl _ _)⟩⟩
                          · rw [if_neg c21] at H
                            have c21b0 : ((bt a0 x8_1) == 42) = false := beq_eq_false_iff_ne.mpr c21
                            have c21b1 : ((bt a0 x8_1) != 42) = true := bne_iff_ne.mpr c21
                            have H' := Aside0.mk H
                            clear H
                            have p20 : 0 ≤ (x8_1 : Int) := of_decide_eq_true (by first | (with_reducible assumption) | assumption)
                            have q20 : x8_1 < (a0.size : Int) := of_decide_eq_true (by first | (with_reducible assumption) | assumption)
                            have hx20 := bt_at a0 x8_1
                            replace p20 := eq_true p20
                            replace q20 := eq_true q20
                            have p22 : 0 ≤ (x8_1 : Int) := of_decide_eq_true (by first | (with_reducible assumption) | assumption)
                            have q22 : x8_1 < (a0.size : Int) := of_decide_eq_true (by first | (with_reducible assumption) | assumption)
                            have hx22 := bt_at a0 x8_1
                            replace p22 := eq_true p22
                            replace q22 := eq_true q22
                            go_wp2
                            go_meet
                            case rel => exact ⟨_, (((bt a0 x8_1) == 37)), (by first | rfl | (simp; done) | (simp [*]; done)), H', ⟨by have := HK1.out; have := HK2.out; first | omega | exact Nat.le_refl _⟩, ⟨by (with_reducible repeat (first | apply Kd.R_alloc | apply Kd.R_drewN | apply Kd.R_drew)); exact HO_7.out⟩, ⟨by repeat (first | (with_reducible first | exact HB.out | apply below_alloc | apply pw_below_drewN | apply below_drew1) | exact HB.out | exact Below.refl _ _)⟩⟩
                        · rw [if_neg c19] at H
                          exact absurd H (by simp)
                      · rw [if_neg c18] at H
                        exact absurd H (by simp)
                    case rest =>
                      clear HC17
                      try clear c1
                      try clear p1
                      try clear q1
                      try clear hx1
                      try clear c2
                      try clear p2
                      try clear q2
                      try clear hx2
                      try clear c4
                      try clear c4b0
                      try clear c4b1
                      try clear c5
                      try clear c5b0
                      try clear c5b1
                      try clear p6
                      try clear c8
                      try clear c8b0
                      try clear c9
                      try clear c9b0
                      try clear c10
                      try clear c10b0
                      try clear c10b1
                      try clear c12
                      try clear c12b0
                      try clear c13
                      try clear c13b0
                      try clear p14
                      try clear q14
                      try clear hx14
                      try clear hf14
                      try clear c18
                      try clear c18b0
                      try clear c19
                      try clear c19b0
                      try clear p20
                      try clear q20
                      try clear hx20
                      try clear c21
                      try clear c21b0
                      try clear c21b1
                      try clear p22
                      try clear q22
                      try clear hx22
                      try clear hx14_0
                      try clear p14
                      try clear p2
                      try clear p20
                      try clear p22
                      try clear p6
                      try clear q14
                      try clear q20
                      try clear q22
                      obtain ⟨kq, x43_16, rfl, HA, HJ16, HO_7, HB⟩ := hcut
                      cases kq with
                      | zero => exact absurd HA.out (by simp [postbagref13_Fits.j2])
                      | succ kj16 =>
                        have H := HA.out
                        clear HA
                        simp only [postbagref13_Fits.j2] at H
                        by_cases c23 : x43_16 = true
                        · subst c23
                          have H1 : (if 0 ≤ (wrap64 ((wrap64 ((wrap64 (x8_1 + 1)) * (wrap64 ((a1.size : Int) + 1)))) + x9_2)) then (if (wrap64 ((wrap64 ((wrap64 (x8_1 + 1)) * (wrap64 ((a1.size : Int) + 1)))) + x9_2)) < (x7_2.length : Int) then (if rdOf false x7_2 (wrap64 ((wrap64 ((wrap64 (x8_1 + 1)) * (wrap64 ((a1.size : Int) + 1)))) + x9_2)) = true then (if 0 ≤ (wrap64 ((wrap64 (x8_1 * (wrap64 ((a1.size : Int) + 1)))) + x9_2)) then (if (wrap64 ((wrap64 (x8_1 * (wrap64 ((a1.size : Int) + 1)))) + x9_2)) < (x7_2.length : Int) then (postbagref13_Fits.l1 kj16 a0 a1 (wrap64 ((a0.size : Int) + 1)) (wrap64 ((a1.size : Int) + 1)) (x7_2.set ((wrap64 ((wrap64 (x8_1 * (wrap64 ((a1.size : Int) + 1)))) + x9_2)) : Int).toNat true) x8_1 (wrap64 (x9_2 - 1))) else (none)) else (none)) else (if x9_2 < (wrap64 ((wrap64 ((a1.size : Int) + 1)) - 1)) then (if 0 ≤ x8_1 then (if x8_1 < (a0.size : Int) then (if (bt a0 x8_1) = 42 then (if 0 ≤ (wrap64 ((wrap64 ((wrap64 (x8_1 * (wrap64 ((a1.size : Int) + 1)))) + x9_2)) + 1)) then (if (wrap64 ((wrap64 ((wrap64 (x8_1 * (wrap64 ((a1.size : Int) + 1)))) + x9_2)) + 1)) < (x7_2.length : Int) then (if 0 ≤ (wrap64 ((wrap64 (x8_1 * (wrap64 ((a1.size : Int) + 1)))) + x9_2)) then (if (wrap64 ((wrap64 (x8_1 * (wrap64 ((a1.size : Int) + 1)))) + x9_2)) < (x7_2.length : Int) then (postbagref13_Fits.l1 kj16 a0 a1 (wrap64 ((a0.size : Int) + 1)) (wrap64 ((a1.size : Int) + 1)) (x7_2.set ((wrap64 ((wrap64 (x8_1 * (wrap64 ((a1.size : Int) + 1)))) + x9_2)) : Int).toNat (rdOf false x7_2 (wrap64 ((wrap64 ((wrap64 (x8_1 * (wrap64 ((a1.size : Int) + 1)))) + x9_2)) + 1)))) x8_1 (wrap64 (x9_2 - 1))) else (none)) else (none)) else (none)) else (none)) else (if 0 ≤ x9_2 then (if x9_2 < (a1.size : Int) then (if (bt a1 x9_2) = 47 then (if 0 ≤ (wrap64 ((wrap64 (x8_1 * (wrap64 ((a1.size : Int) + 1)))) + x9_2)) then (if (wrap64 ((wrap64 (x8_1 * (wrap64 ((a1.size : Int) + 1)))) + x9_2)) < (x7_2.length : Int) then (postbagref13_Fits.l1 kj16 a0 a1 (wrap64 ((a0.size : Int) + 1)) (wrap64 ((a1.size : Int) + 1)) (x7_2.set ((wrap64 ((wrap64 (x8_1 * (wrap64 ((a1.size : Int) + 1)))) + x9_2)) : Int).toNat false) x8_1 (wrap64 (x9_2 - 1))) else (none)) else (none)) else (if 0 ≤ (wrap64 ((wrap64 ((wrap64 (x8_1 * (wrap64 ((a1.size : Int) + 1)))) + x9_2)) + 1)) then (if (wrap64 ((wrap64 ((wrap64 (x8_1 * (wrap64 ((a1.size : Int) + 1)))) + x9_2)) + 1)) < (x7_2.length : Int) then (if 0 ≤ (wrap64 ((wrap64 (x8_1 * (wrap64 ((a1.size : Int) + 1)))) + x9_2)) then (if (wrap64 ((wrap64 (x8_1 * (wrap64 ((a1.size : Int) + 1)))) + x9_2)) < (x7_2.length : Int) then (postbagref13_Fits.l1 kj16 a0 a1 (wrap64 ((a0.size : Int) + 1)) (wrap64 ((a1.size : Int) + 1)) (x7_2.set ((wrap64 ((wrap64 (x8_1 * (wrap64 ((a1.size : Int) + 1)))) + x9_2)) : Int).toNat (rdOf false x7_2 (wrap64 ((wrap64 ((wrap64 (x8_1 * (wrap64 ((a1.size : Int) + 1)))) + x9_2)) + 1)))) x8_1 (wrap64 (x9_2 - 1))) else (none)) else (none)) else (none)) else (none))) else (none)) else (none))) else (none)) else (none)) else (if 0 ≤ (wrap64 ((wrap64 (x8_1 * (wrap64 ((a1.size : Int) + 1)))) + x9_2)) then (if (wrap64 ((wrap64 (x8_1 * (wrap64 ((a1.size : Int) + 1)))) + x9_2)) < (x7_2.length : Int) then (postbagref13_Fits.l1 kj16 a0 a1 (wrap64 ((a0.size : Int) + 1)) (wrap64 ((a1.size : Int) + 1)) (x7_2.set ((wrap64 ((wrap64 (x8_1 * (wrap64 ((a1.size : Int) + 1)))) + x9_2)) : Int).toNat false) x8_1 (wrap64 (x9_2 - 1))) else (none)) else (none)))) else (none)) else (none)) = some r := by rw [if_pos rfl] at H; exact H
                          clear H
                          have H := H1
                          clear H1
                          obtain ⟨ji24, hji24⟩ : ∃ j_ : Int, (wrap64 ((wrap64 ((wrap64 (x8_1 + 1)) * (wrap64 ((a1.size : Int) + 1)))) + x9_2)) = j_ := ⟨_, rfl⟩
                          replace H : (if 0 ≤ (ji24) then (if (ji24) < (x7_2.length : Int) then (if rdOf false x7_2 (ji24) = true then (if 0 ≤ (wrap64 ((wrap64 (x8_1 * (wrap64 ((a1.size : Int) + 1)))) + x9_2)) then (if (wrap64 ((wrap64 (x8_1 * (wrap64 ((a1.size : Int) + 1)))) + x9_2)) < (x7_2.length : Int) then (postbagref13_Fits.l1 kj16 a0 a1 (wrap64 ((a0.size : Int) + 1)) (wrap64 ((a1.size : Int) + 1)) (x7_2.set ((wrap64 ((wrap64 (x8_1 * (wrap64 ((a1.size : Int) + 1)))) + x9_2)) : Int).toNat true) x8_1 (wrap64 (x9_2 - 1))) else (none)) else (none)) else (if x9_2 < (wrap64 ((wrap64 ((a1.size : Int) + 1)) - 1)) then (if 0 ≤ x8_1 then (if x8_1 < (a0.size : Int) then (if (bt a0 x8_1) = 42 then (if 0 ≤ (wrap64 ((wrap64 ((wrap64 (x8_1 * (wrap64 ((a1.size : Int) + 1)))) + x9_2)) + 1)) then (if (wrap64 ((wrap64 ((wrap64 (x8_1 * (wrap64 ((a1.size : Int) + 1)))) + x9_2)) + 1)) < (x7_2.length : Int) then (if 0 ≤ (wrap64 ((wrap64 (x8_1 * (wrap64 ((a1.size : Int) + 1)))) + x9_2)) then (if (wrap64 ((wrap64 (x8_1 * (wrap64 ((a1.size : Int) + 1)))) + x9_2)) < (x7_2.length : Int) then (postbagref13_Fits.l1 kj16 a0 a1 (wrap64 ((a0.size : Int) + 1)) (wrap64 ((a1.size : Int) + 1)) (x7_2.set ((wrap64 ((wrap64 (x8_1 * (wrap64 ((a1.size : Int) + 1)))) + x9_2)) : Int).toNat (rdOf false x7_2 (wrap64 ((wrap64 ((wrap64 (x8_1 * (wrap64 ((a1.size : Int) + 1)))) + x9_2)) + 1)))) x8_1 (wrap64 (x9_2 - 1))) else (none)) else (none)) else (none)) else (none)) else (if 0 ≤ x9_2 then (if x9_2 < (a1.size : Int) then (if (bt a1 x9_2) = 47 then (if 0 ≤ (wrap64 ((wrap64 (x8_1 * (wrap64 ((a1.size : Int) + 1)))) + x9_2)) then (if (wrap64 ((wrap64 (x8_1 * (wrap64 ((a1.size : Int) + 1)))) + x9_2)) < (x7_2.length : Int) then (postbagref13_Fits.l1 kj16 a0 a1 (wrap64 ((a0.size : Int) + 1)) (wrap64 ((a1.size : Int) + 1)) (x7_2.set ((wrap64 ((wrap64 (x8_1 * (wrap64 ((a1.size : Int) + 1)))) + x9_2)) : Int).toNat false) x8_1 (wrap64 (x9_2 - 1))) else (none)) else (none)) else (if 0 ≤ (wrap64 ((wrap64 ((wrap64 (x8_1 * (wrap64 ((a1.size : Int) + 1)))) + x9_2)) + 1)) then (if (wrap64 ((wrap64 ((wrap64 (x8_1 * (wrap64 ((a1.size : Int) + 1)))) + x9_2)) + 1)) < (x7_2.length : Int) then (if 0 ≤ (wrap64 ((wrap64 (x8_1 * (wrap64 ((a1.size : Int) + 1)))) + x9_2)) then (if (wrap64 ((wrap64 (x8_1 * (wrap64 ((a1.size : Int) + 1)))) + x9_2)) < (x7_2.length : Int) then (postbagref13_Fits.l1 kj16 a0 a1 (wrap64 ((a0.size : Int) + 1)) (wrap64 ((a1.size : Int) + 1)) (x7_2.set ((wrap64 ((wrap64 (x8_1 * (wrap64 ((a1.size : Int) + 1)))) + x9_2)) : Int).toNat (rdOf false x7_2 (wrap64 ((wrap64 ((wrap64 (x8_1 * (wrap64 ((a1.size : Int) + 1)))) + x9_2)) + 1)))) x8_1 (wrap64 (x9_2 - 1))) else (none)) else (none)) else (none)) else (none))) else (none)) else (none))) else (none)) else (none)) else (if 0 ≤ (wrap64 ((wrap64 (x8_1 * (wrap64 ((a1.size : Int) + 1)))) + x9_2)) then (if (wrap64 ((wrap64 (x8_1 * (wrap64 ((a1.size : Int) + 1)))) + x9_2)) < (x7_2.length : Int) then (postbagref13_Fits.l1 kj16 a0 a1 (wrap64 ((a0.size : Int) + 1)) (wrap64 ((a1.size : Int) + 1)) (x7_2.set ((wrap64 ((wrap64 (x8_1 * (wrap64 ((a1.size : Int) + 1)))) + x9_2)) : Int).toNat false) x8_1 (wrap64 (x9_2 - 1))) else (none)) else (none)))) else (none)) else (none)) = some r := by first | (rw [hji24] at H; exact H) | (simp only [hji24] at H ⊢; exact H)
                          have hji24w : (IntKind.i64.wrap ((wrap64 ((wrap64 (x8_1 + 1)) * (wrap64 ((a1.size : Int) + 1)))) + x9_2)) = ji24 := (i64_w _).trans hji24
                          by_cases c25 : 0 ≤ (ji24)
                          · rw [if_pos c25] at H
                            have c25b0 : decide (0 ≤ (ji24)) = true := decide_eq_true c25
                            clear c25
                            by_cases c26 : (ji24) < (x7_2.length : Int)
                            · rw [if_pos c26] at H
                              have c26b0 : decide ((ji24) < (x7_2.length : Int)) = true := decide_eq_true c26
                              clear c26
                              obtain ⟨bq27, hbq27⟩ : ∃ b_ : Bool, b_ = (rdOf false x7_2 (ji24)) := ⟨_, rfl⟩
                              replace H : (if bq27 = true then (if 0 ≤ (wrap64 ((wrap64 (x8_1 * (wrap64 ((a1.size : Int) + 1)))) + x9_2)) then (if (wrap64 ((wrap64 (x8_1 * (wrap64 ((a1.size : Int) + 1)))) + x9_2)) < (x7_2.length : Int) then (postbagref13_Fits.l1 kj16 a0 a1 (wrap64 ((a0.size : Int) + 1)) (wrap64 ((a1.size : Int) + 1)) (x7_2.set ((wrap64 ((wrap64 (x8_1 * (wrap64 ((a1.size : Int) + 1)))) + x9_2)) : Int).toNat true) x8_1 (wrap64 (x9_2 - 1))) else (none)) else (none)) else (if x9_2 < (wrap64 ((wrap64 ((a1.size : Int) + 1)) - 1)) then (if 0 ≤ x8_1 then (if x8_1 < (a0.size : Int) then (if (bt a0 x8_1) = 42 then (if 0 ≤ (wrap64 ((wrap64 ((wrap64 (x8_1 * (wrap64 ((a1.size : Int) + 1)))) + x9_2)) + 1)) then (if (wrap64 ((wrap64 ((wrap64 (x8_1 * (wrap64 ((a1.size : Int) + 1)))) + x9_2)) + 1)) < (x7_2.length : Int) then (if 0 ≤ (wrap64 ((wrap64 (x8_1 * (wrap64 ((a1.size : Int) + 1)))) + x9_2)) then (if (wrap64 ((wrap64 (x8_1 * (wrap64 ((a1.size : Int) + 1)))) + x9_2)) < (x7_2.length : Int) then (postbagref13_Fits.l1 kj16 a0 a1 (wrap64 ((a0.size : Int) + 1)) (wrap64 ((a1.size : Int) + 1)) (x7_2.set ((wrap64 ((wrap64 (x8_1 * (wrap64 ((a1.size : Int) + 1)))) + x9_2)) : Int).toNat (rdOf false x7_2 (wrap64 ((wrap64 ((wrap64 (x8_1 * (wrap64 ((a1.size : Int) + 1)))) + x9_2)) + 1)))) x8_1 (wrap64 (x9_2 - 1))) else (none)) else (none)) else (none)) else (none)) else (if 0 ≤ x9_2 then (if x9_2 < (a1.size : Int) then (if (bt a1 x9_2) = 47 then (if 0 ≤ (wrap64 ((wrap64 (x8_1 * (wrap64 ((a1.size : Int) + 1)))) + x9_2)) then (if (wrap64 ((wrap64 (x8_1 * (wrap64 ((a1.size : Int) + 1)))) + x9_2)) < (x7_2.length : Int) then (postbagref13_Fits.l1 kj16 a0 a1 (wrap64 ((a0.size : Int) + 1)) (wrap64 ((a1.size : Int) + 1)) (x7_2.set ((wrap64 ((wrap64 (x8_1 * (wrap64 ((a1.size : Int) + 1)))) + x9_2)) : Int).toNat false) x8_1 (wrap64 (x9_2 - 1))) else (none)) else (none)) else (if 0 ≤ (wrap64 ((wrap64 ((wrap64 (x8_1 * (wrap64 ((a1.size : Int) + 1)))) + x9_2)) + 1)) then (if (wrap64 ((wrap64 ((wrap64 (x8_1 * (wrap64 ((a1.size : Int) + 1)))) + x9_2)) + 1)) < (x7_2.length : Int) then (if 0 ≤ (wrap64 ((wrap64 (x8_1 * (wrap64 ((a1.size : Int) + 1)))) + x9_2)) then (if (wrap64 ((wrap64 (x8_1 * (wrap64 ((a1.size : Int) + 1)))) + x9_2)) < (x7_2.length : Int) then (postbagref13_Fits.l1 kj16 a0 a1 (wrap64 ((a0.size : Int) + 1)) (wrap64 ((a1.size : Int) + 1)) (x7_2.set ((wrap64 ((wrap64 (x8_1 * (wrap64 ((a1.size : Int) + 1)))) + x9_2)) : Int).toNat (rdOf false x7_2 (wrap64 ((wrap64 ((wrap64 (x8_1 * (wrap64 ((a1.size : Int) + 1)))) + x9_2)) + 1)))) x8_1 (wrap64 (x9_2 - 1))) else (none)) else (none)) else (none)) else (none))) else (none)) else (none))) else (none)) else (none)) else (if 0 ≤ (wrap64 ((wrap64 (x8_1 * (wrap64 ((a1.size : Int) + 1)))) + x9_2)) then (if (wrap64 ((wrap64 (x8_1 * (wrap64 ((a1.size : Int) + 1)))) + x9_2)) < (x7_2.length : Int) then (postbagref13_Fits.l1 kj16 a0 a1 (wrap64 ((a0.size : Int) + 1)) (wrap64 ((a1.size : Int) + 1)) (x7_2.set ((wrap64 ((wrap64 (x8_1 * (wrap64 ((a1.size : Int) + 1)))) + x9_2)) : Int).toNat false) x8_1 (wrap64 (x9_2 - 1))) else (none)) else (none)))) = some r := by rw [← hbq27] at H; exact H
                              have Nbq27 := Aside0.mk hbq27
                              clear hbq27
                              by_cases c28 : bq27 = true
                              · subst c28
                                have H1 : (if 0 ≤ (wrap64 ((wrap64 (x8_1 * (wrap64 ((a1.size : Int) + 1)))) + x9_2)) then (if (wrap64 ((wrap64 (x8_1 * (wrap64 ((a1.size : Int) + 1)))) + x9_2)) < (x7_2.length : Int) then (postbagref13_Fits.l1 kj16 a0 a1 (wrap64 ((a0.size : Int) + 1)) (wrap64 ((a1.size : Int) + 1)) (x7_2.set ((wrap64 ((wrap64 (x8_1 * (wrap64 ((a1.size : Int) + 1)))) + x9_2)) : Int).toNat true) x8_1 (wrap64 (x9_2 - 1))) else (none)) else (none)) = some r := by rw [if_pos rfl] at H; exact H
                                clear H
                                have H := H1
                                clear H1
                                obtain ⟨ji29, hji29⟩ : ∃ j_ : Int, (wrap64 ((wrap64 (x8_1 * (wrap64 ((a1.size : Int) + 1)))) + x9_2)) = j_ := ⟨_, rfl⟩
                                replace H : (if 0 ≤ (ji29) then (if (ji29) < (x7_2.length : Int) then (postbagref13_Fits.l1 kj16 a0 a1 (wrap64 ((a0.size : Int) + 1)) (wrap64 ((a1.size : Int) + 1)) (x7_2.set ((ji29) : Int).toNat true) x8_1 (wrap64 (x9_2 - 1))) else (none)) else (none)) = some r := by first | (rw [hji29] at H; exact H) | (simp only [hji29] at H ⊢; exact H)
                                have hji29w : (IntKind.i64.wrap ((wrap64 (x8_1 * (wrap64 ((a1.size : Int) + 1)))) + x9_2)) = ji29 := (i64_w _).trans hji29
                                by_cases c30 : 0 ≤ (ji29)
                                · rw [if_pos c30] at H
                                  have c30b0 : decide (0 ≤ (ji29)) = true := decide_eq_true c30
                                  clear c30
                                  by_cases c31 : (ji29) < (x7_2.length : Int)
                                  · rw [if_pos c31] at H
                                    have c31b0 : decide ((ji29) < (x7_2.length : Int)) = true := decide_eq_true c31
                                    clear c31
                                    obtain ⟨y121, hy121⟩ : ∃ y_ : List Bool, y_ = (x7_2.set ((ji29) : Int).toNat true) := ⟨_, rfl⟩
                                    replace H : (postbagref13_Fits.l1 kj16 a0 a1 (wrap64 ((a0.size : Int) + 1)) (wrap64 ((a1.size : Int) + 1)) y121 x8_1 (wrap64 (x9_2 - 1))) = some r := by first | (rw [hy121]; with_reducible exact H) | (have H2_ := (Option.bind_some _ _).symm.trans H; rw [hy121]; with_reducible exact H2_) | (have H2_ := (Option.bind_some _ _).symm.trans H; with_reducible exact H2_) | with_reducible exact H | (rw [hy121]; exact H) | exact H
                                    have Ny121 := Aside0.mk hy121
                                    clear hy121
                                    have H' := Aside0.mk H
                                    clear H
                                    obtain ⟨Ao33, co33, eo33⟩ := Kd.R_slice HO_7.out
                                    subst eo33
                                    have p120 : 0 ≤ ((ji24) : Int) := of_decide_eq_true (by first | (with_reducible assumption) | assumption)
                                    have q120 : (ji24) < (x7_2.length : Int) := of_decide_eq_true (by first | (with_reducible assumption) | assumption)
                                    obtain ⟨ad120, e120, hx120_0⟩ := Kd.at_bool (Kd.R_reads' HO_7.out).2.2 (ji24) p120 q120
                                    (try rw [← Nbq27.out] at hx120_0)
                                    cases e120
                                    replace p120 := eq_true p120
                                    replace q120 := eq_true q120
                                    have p32 : 0 ≤ ((ji29) : Int) := of_decide_eq_true (by first | (with_reducible assumption) | assumption)
                                    have q32 : ((ji29) : Int) < ((x7_2.length : Int) : Int) := of_decide_eq_true (by first | (with_reducible assumption) | assumption)
                                    obtain ⟨go32, co32, eo32, gb32, gl32, cl32, HG32⟩ := Kd.R_form HO_7.out (by omega)
                                    (first | cases eo32 | (injection eo32 with ea_ en_ ec_; (first | subst ea_ | (injection ea_ with ea_; subst ea_)); subst ec_; clear en_))
                                    have GB32 := Aside0.mk gb32
                                    have GG32 := Aside0.mk HG32
                                    clear gb32 gl32 HG32
                                    (first | simp only [add_plain] at hx120_0 | skip)
                                    obtain ⟨hx32_0, hf32_0⟩ := Kd.R_celln false HO_7.out ((ji29) : Int) p32 q32
                                    replace p32 := eq_true p32
                                    replace q32 := eq_true q32
                                    have HP34 := Kd.R_putg HO_7.out ((ji29) : Int) true
                                    go_wp2_with (first | ((with_reducible refine gate_store (t := 4) (p := 143) rfl ?_); refine store_event (t := 4) (p := 143) (v := ?vo_w35) (w1 := (wc.setCell ⟨go32, ((ji29) : Int).toNat, none⟩ (.bool true))) ?hg ?ho ?hn ?hr ?_; (case ho => rfl); (case hg => rfl); (case hn => rfl); (case hr => first | (go_simp; done) | (go_simp; rfl)); intro w35 hw; have hg : wc.grownBy w35 (some go32) := (by rw [hw]; exact HP34.2); have hp_ : Kd.R Kd.bool 4 w35 w.heap.size (fun _ => True) (.slice (some ⟨go32, 0, none⟩) x7_2.length co33) y121 := (by rw [hw, Ny121.out]; exact HP34.1); clear HP34; have n0_ := Aside0.mk (hp_); have n1_ := Aside0.mk ((by rw [hw]; exact below_set (HB.out) GB32.out : Below w.heap.size w w35)); clear HO_7; clear HB; have HO_7 := n0_; have HB := n1_; clear n0_ n1_; clear hg hw hp_))
                                    go_roundg kj16
                                    case measure => have := HK1.out; have := HK2.out; have := HJ16.out; omega
                                    case rel => exact ⟨(y121), (wrap64 (x9_2 - 1)), (by first | rfl | (simp; done) | (simp [*]; done)), H', ⟨by have := HK1.out; have := HK2.out; have := HJ16.out; omega⟩, ⟨by (with_reducible repeat (first | apply Kd.R_alloc | apply Kd.R_drewN | apply Kd.R_drew)); exact HO_7.out⟩, ⟨by repeat (first | (with_reducible first | exact HB.out | apply below_alloc | apply pw_below_drewN | apply below_drew1) | exact HB.out | exact Below.refl _ _)⟩⟩
                                  · rw [if_neg c31] at H
                                    exact absurd H (by simp)
                                · rw [if_neg c30] at H
                                  exact absurd H (by simp)
                              · replace c28 := Bool.eq_false_iff.mpr c28
                                subst c28
                                have H1 : (if x9_2 < (wrap64 ((wrap64 ((a1.size : Int) + 1)) - 1)) then (if 0 ≤ x8_1 then (if x8_1 < (a0.size : Int) then (if (bt a0 x8_1) = 42 then (if 0 ≤ (wrap64 ((wrap64 ((wrap64 (x8_1 * (wrap64 ((a1.size : Int) + 1)))) + x9_2)) + 1)) then (if (wrap64 ((wrap64 ((wrap64 (x8_1 * (wrap64 ((a1.size : Int) + 1)))) + x9_2)) + 1)) < (x7_2.length : Int) then (if 0 ≤ (wrap64 ((wrap64 (x8_1 * (wrap64 ((a1.size : Int) + 1)))) + x9_2)) then (if (wrap64 ((wrap64 (x8_1 * (wrap64 ((a1.size : Int) + 1)))) + x9_2)) < (x7_2.length : Int) then (postbagref13_Fits.l1 kj16 a0 a1 (wrap64 ((a0.size : Int) + 1)) (wrap64 ((a1.size : Int) + 1)) (x7_2.set ((wrap64 ((wrap64 (x8_1 * (wrap64 ((a1.size : Int) + 1)))) + x9_2)) : Int).toNat (rdOf false x7_2 (wrap64 ((wrap64 ((wrap64 (x8_1 * (wrap64 ((a1.size : Int) + 1)))) + x9_2)) + 1)))) x8_1 (wrap64 (x9_2 - 1))) else (none)) else (none)) else (none)) else (none)) else (if 0 ≤ x9_2 then (if x9_2 < (a1.size : Int) then (if (bt a1 x9_2) = 47 then (if 0 ≤ (wrap64 ((wrap64 (x8_1 * (wrap64 ((a1.size : Int) + 1)))) + x9_2)) then (if (wrap64 ((wrap64 (x8_1 * (wrap64 ((a1.size : Int) + 1)))) + x9_2)) < (x7_2.length : Int) then (postbagref13_Fits.l1 kj16 a0 a1 (wrap64 ((a0.size : Int) + 1)) (wrap64 ((a1.size : Int) + 1)) (x7_2.set ((wrap64 ((wrap64 (x8_1 * (wrap64 ((a1.size : Int) + 1)))) + x9_2)) : Int).toNat false) x8_1 (wrap64 (x9_2 - 1))) else (none)) else (none)) else (if 0 ≤ (wrap64 ((wrap64 ((wrap64 (x8_1 * (wrap64 ((a1.size : Int) + 1)))) + x9_2)) + 1)) then (if (wrap64 ((wrap64 ((wrap64 (x8_1 * (wrap64 ((a1.size : Int) + 1)))) + x9_2)) + 1)) < (x7_2.length : Int) then (if 0 ≤ (wrap64 ((wrap64 (x8_1 * (wrap64 ((a1.size : Int) + 1)))) + x9_2)) then (if (wrap64 ((wrap64 (x8_1 * (wrap64 ((a1.size : Int) + 1)))) + x9_2)) < (x7_2.length : Int) then (postbagref13_Fits.l1 kj16 a0 a1 (wrap64 ((a0.size : Int) + 1)) (wrap64 ((a1.size : Int) + 1)) (x7_2.set ((wrap64 ((wrap64 (x8_1 * (wrap64 ((a1.size : Int) + 1)))) + x9_2)) : Int).toNat (rdOf false x7_2 (wrap64 ((wrap64 ((wrap64 (x8_1 * (wrap64 ((a1.size : Int) + 1)))) + x9_2)) + 1)))) x8_1 (wrap64 (x9_2 - 1))) else (none)) else (none)) else (none)) else (none))) else (none)) else (none))) else (none)) else (none)) else (if 0 ≤ (wrap64 ((wrap64 (x8_1 * (wrap64 ((a1.size : Int) + 1)))) + x9_2)) then (if (wrap64 ((wrap64 (x8_1 * (wrap64 ((a1.size : Int) + 1)))) + x9_2)) < (x7_2.length : Int) then (postbagref13_Fits.l1 kj16 a0 a1 (wrap64 ((a0.size : Int) + 1)) (wrap64 ((a1.size : Int) + 1)) (x7_2.set ((wrap64 ((wrap64 (x8_1 * (wrap64 ((a1.size : Int) + 1)))) + x9_2)) : Int).toNat false) x8_1 (wrap64 (x9_2 - 1))) else (none)) else (none))) = some r := by rw [if_neg (show ¬ (false = true) by decide)] at H; exact H
                                clear H
                                have H := H1
                                clear H1
                                by_cases c36 : x9_2 < (wrap64 ((wrap64 ((a1.size : Int) + 1)) - 1))
                                · rw [if_pos c36] at H
                                  have c36b0 : decide (x9_2 < (wrap64 ((wrap64 ((a1.size : Int) + 1)) - 1))) = true := decide_eq_true c36
                                  clear c36
                                  by_cases c37 : 0 ≤ x8_1
                                  · rw [if_pos c37] at H
                                    have c37b0 : decide (0 ≤ x8_1) = true := decide_eq_true c37
                                    clear c37
                                    by_cases c38 : x8_1 < (a0.size : Int)
                                    · rw [if_pos c38] at H
                                      have c38b0 : decide (x8_1 < (a0.size : Int)) = true := decide_eq_true c38
                                      clear c38
                                      by_cases c40 : (bt a0 x8_1) = 42
                                      · rw [if_pos c40] at H
                                        have c40b0 : ((bt a0 x8_1) == 42) = true := beq_iff_eq.mpr c40
                                        have c40b1 : ((bt a0 x8_1) != 42) = false := bne_eq_false_iff_eq.mpr c40
                                        clear c40
                                        obtain ⟨ji41, hji41⟩ : ∃ j_ : Int, (wrap64 ((wrap64 ((wrap64 (x8_1 * (wrap64 ((a1.size : Int) + 1)))) + x9_2)) + 1)) = j_ := ⟨_, rfl⟩
                                        replace H : (if 0 ≤ (ji41) then (if (ji41) < (x7_2.length : Int) then (if 0 ≤ (wrap64 ((wrap64 (x8_1 * (wrap64 ((a1.size : Int) + 1)))) + x9_2)) then (if (wrap64 ((wrap64 (x8_1 * (wrap64 ((a1.size : Int) + 1)))) + x9_2)) < (x7_2.length : Int) then (postbagref13_Fits.l1 kj16 a0 a1 (wrap64 ((a0.size : Int) + 1)) (wrap64 ((a1.size : Int) + 1)) (x7_2.set ((wrap64 ((wrap64 (x8_1 * (wrap64 ((a1.size : Int) + 1)))) + x9_2)) : Int).toNat (rdOf false x7_2 (ji41))) x8_1 (wrap64 (x9_2 - 1))) else (none)) else (none)) else (none)) else (none)) = some r := by first | (rw [hji41] at H; exact H) | (simp only [hji41] at H ⊢; exact H)
                                        have hji41w : (IntKind.i64.wrap ((wrap64 ((wrap64 (x8_1 * (wrap64 ((a1.size : Int) + 1)))) + x9_2)) + 1)) = ji41 := (i64_w _).trans hji41
                                        by_cases c42 : 0 ≤ (ji41)
                                        · rw [if_pos c42] at H
                                          have c42b0 : decide (0 ≤ (ji41)) = true := decide_eq_true c42
                                          clear c42
                                          by_cases c43 : (ji41) < (x7_2.length : Int)
                                          · rw [if_pos c43] at H
                                            have c43b0 : decide ((ji41) < (x7_2.length : Int)) = true := decide_eq_true c43
                                            clear c43
                                            obtain ⟨ji44, hji44⟩ : ∃ j_ : Int, (wrap64 ((wrap64 (x8_1 * (wrap64 ((a1.size : Int) + 1)))) + x9_2)) = j_ := ⟨_, rfl⟩
                                            replace H : (if 0 ≤ (ji44) then (if (ji44) < (x7_2.length : Int) then (postbagref13_Fits.l1 kj16 a0 a1 (wrap64 ((a0.size : Int) + 1)) (wrap64 ((a1.size : Int) + 1)) (x7_2.set ((ji44) : Int).toNat (rdOf false x7_2 (ji41))) x8_1 (wrap64 (x9_2 - 1))) else (none)) else (none)) = some r := by first | (rw [hji44] at H; exact H) | (simp only [hji44] at H ⊢; exact H)
                                            have hji44w : (IntKind.i64.wrap ((wrap64 (x8_1 * (wrap64 ((a1.size : Int) + 1)))) + x9_2)) = ji44 := (i64_w _).trans hji44
                                            have hji41xji44 := hji41
                                            (try rw [hji44] at hji41xji44)
                                            by_cases c45 : 0 ≤ (ji44)
                                            · rw [if_pos c45] at H
                                              have c45b0 : decide (0 ≤ (ji44)) = true := decide_eq_true c45
                                              clear c45
                                              by_cases c46 : (ji44) < (x7_2.length : Int)
                                              · rw [if_pos c46] at H
                                                have c46b0 : decide ((ji44) < (x7_2.length : Int)) = true := decide_eq_true c46
                                                clear c46
                                                obtain ⟨y123, hy123⟩ : ∃ y_ : List Bool, y_ = (x7_2.set ((ji44) : Int).toNat (rdOf false x7_2 (ji41))) := ⟨_, rfl⟩
                                                replace H : (postbagref13_Fits.l1 kj16 a0 a1 (wrap64 ((a0.size : Int) + 1)) (wrap64 ((a1.size : Int) + 1)) y123 x8_1 (wrap64 (x9_2 - 1))) = some r := by first | (rw [hy123]; with_reducible exact H) | (have H2_ := (Option.bind_some _ _).symm.trans H; rw [hy123]; with_reducible exact H2_) | (have H2_ := (Option.bind_some _ _).symm.trans H; with_reducible exact H2_) | with_reducible exact H | (rw [hy123]; exact H) | exact H
                                                have Ny123 := Aside0.mk hy123
                                                clear hy123
                                                have H' := Aside0.mk H
                                                clear H
                                                obtain ⟨Ao48, co48, eo48⟩ := Kd.R_slice HO_7.out
                                                subst eo48
                                                have p120 : 0 ≤ ((ji24) : Int) := of_decide_eq_true (by first | (with_reducible assumption) | assumption)
                                                have q120 : (ji24) < (x7_2.length : Int) := of_decide_eq_true (by first | (with_reducible assumption) | assumption)
                                                obtain ⟨ad120, e120, hx120_0⟩ := Kd.at_bool (Kd.R_reads' HO_7.out).2.2 (ji24) p120 q120
                                                (try rw [← Nbq27.out] at hx120_0)
                                                cases e120
                                                replace p120 := eq_true p120
                                                replace q120 := eq_true q120
                                                have p39 : 0 ≤ (x8_1 : Int) := of_decide_eq_true (by first | (with_reducible assumption) | assumption)
                                                have q39 : x8_1 < (a0.size : Int) := of_decide_eq_true (by first | (with_reducible assumption) | assumption)
                                                have hx39 := bt_at a0 x8_1
                                                replace p39 := eq_true p39
                                                replace q39 := eq_true q39
                                                have p122 : 0 ≤ ((ji41) : Int) := of_decide_eq_true (by first | (with_reducible assumption) | assumption)
                                                have q122 : (ji41) < (x7_2.length : Int) := of_decide_eq_true (by first | (with_reducible assumption) | assumption)
                                                obtain ⟨ad122, e122, hx122_0⟩ := Kd.at_bool (Kd.R_reads' HO_7.out).2.2 (ji41) p122 q122
                                                (try rw [← Nbq27.out] at hx122_0)
                                                obtain rfl : ad120 = ad122 := (by injection e122)
                                                replace p122 := eq_true p122
                                                replace q122 := eq_true q122
                                                have p47 : 0 ≤ ((ji44) : Int) := of_decide_eq_true (by first | (with_reducible assumption) | assumption)
                                                have q47 : ((ji44) : Int) < ((x7_2.length : Int) : Int) := of_decide_eq_true (by first | (with_reducible assumption) | assumption)
                                                obtain ⟨go47, co47, eo47, gb47, gl47, cl47, HG47⟩ := Kd.R_form HO_7.out (by omega)
                                                (first | cases eo47 | (injection eo47 with ea_ en_ ec_; (first | subst ea_ | (injection ea_ with ea_; subst ea_)); subst ec_; clear en_))
                                                have GB47 := Aside0.mk gb47
                                                have GG47 := Aside0.mk HG47
                                                clear gb47 gl47 HG47
                                                (first | simp only [add_plain] at hx120_0 | skip)
                                                (first | simp only [add_plain] at hx122_0 | skip)
                                                obtain ⟨hx47_0, hf47_0⟩ := Kd.R_celln false HO_7.out ((ji44) : Int) p47 q47
                                                replace p47 := eq_true p47
                                                replace q47 := eq_true q47
                                                have HP49 := Kd.R_putg HO_7.out ((ji44) : Int) (rdOf false x7_2 (ji41))
                                                go_wp2_with (first | ((with_reducible refine gate_store (t := 4) (p := 143) rfl ?_); refine store_event (t := 4) (p := 143) (v := ?vo_w50) (w1 := (wc.setCell ⟨go47, ((ji44) : Int).toNat, none⟩ (.bool (rdOf false x7_2 (ji41))))) ?hg ?ho ?hn ?hr ?_; (case ho => rfl); (case hg => rfl); (case hn => rfl); (case hr => first | (go_simp; done) | (go_simp; rfl)); intro w50 hw; have hg : wc.grownBy w50 (some go47) := (by rw [hw]; exact HP49.2); have hp_ : Kd.R Kd.bool 4 w50 w.heap.size (fun _ => True) (.slice (some ⟨go47, 0, none⟩) x7_2.length co48) y123 := (by rw [hw, Ny123.out]; exact HP49.1); clear HP49; have n0_ := Aside0.mk (hp_); have n1_ := Aside0.mk ((by rw [hw]; exact below_set (HB.out) GB47.out : Below w.heap.size w w50)); clear HO_7; clear HB; have HO_7 := n0_; have HB := n1_; clear n0_ n1_; clear hg hw hp_))
                                                go_roundg kj16
                                                case measure => have := HK1.out; have := HK2.out; have := HJ16.out; omega
                                                case rel => exact ⟨(y123), (wrap64 (x9_2 - 1)), (by first | rfl | (simp; done) | (simp [*]; done)), H', ⟨by have := HK1.out; have := HK2.out; have := HJ16.out; omega⟩, ⟨by (with_reducible repeat (first | apply Kd.R_alloc | apply Kd.R_drewN | apply Kd.R_drew)); exact HO_7.out⟩, ⟨by repeat (first | (with_reducible first | exact HB.out | apply below_alloc | apply pw_below_drewN | apply below_drew1) | exact HB.out | exact Below.refl _ _)⟩⟩
                                              · rw [if_neg c46] at H
                                                exact absurd H (by simp)
                                            · rw [if_neg c45] at H
                                              exact absurd H (by simp)
                                          · rw [if_neg c43] at H
                                            exact absurd H (by simp)
                                        · rw [if_neg c42] at H
                                          exact absurd H (by simp)
                                      · rw [if_neg c40] at H
                                        have c40b0 : ((bt a0 x8_1) == 42) = false := beq_eq_false_iff_ne.mpr c40
                                        have c40b1 : ((bt a0 x8_1) != 42) = true := bne_iff_ne.mpr c40
                                        by_cases c51 : 0 ≤ x9_2
                                        · rw [if_pos c51] at H
                                          have c51b0 : decide (0 ≤ x9_2) = true := decide_eq_true c51
                                          clear c51
                                          by_cases c52 : x9_2 < (a1.size : Int)
                                          · rw [if_pos c52] at H
                                            have c52b0 : decide (x9_2 < (a1.size : Int)) = true := decide_eq_true c52
                                            clear c52
                                            by_cases c54 : (bt a1 x9_2) = 47
                                            · rw [if_pos c54] at H
                                              have c54b0 : ((bt a1 x9_2) == 47) = true := beq_iff_eq.mpr c54
                                              have c54b1 : ((bt a1 x9_2) != 47) = false := bne_eq_false_iff_eq.mpr c54
                                              clear c54
                                              obtain ⟨ji55, hji55⟩ : ∃ j_ : Int, (wrap64 ((wrap64 (x8_1 * (wrap64 ((a1.size : Int) + 1)))) + x9_2)) = j_ := ⟨_, rfl⟩
                                              replace H : (if 0 ≤ (ji55) then (if (ji55) < (x7_2.length : Int) then (postbagref13_Fits.l1 kj16 a0 a1 (wrap64 ((a0.size : Int) + 1)) (wrap64 ((a1.size : Int) + 1)) (x7_2.set ((ji55) : Int).toNat false) x8_1 (wrap64 (x9_2 - 1))) else (none)) else (none)) = some r := by first | (rw [hji55] at H; exact H) | (simp only [hji55] at H ⊢; exact H)
                                              have hji55w : (IntKind.i64.wrap ((wrap64 (x8_1 * (wrap64 ((a1.size : Int) + 1)))) + x9_2)) = ji55 := (i64_w _).trans hji55
                                              by_cases c56 : 0 ≤ (ji55)
                                              · rw [if_pos c56] at H
                                                have c56b0 : decide (0 ≤ (ji55)) = true := decide_eq_true c56
                                                clear c56
                                                by_cases c57 : (ji55) < (x7_2.length : Int)
                                                · rw [if_pos c57] at H
                                                  have c57b0 : decide ((ji55) < (x7_2.length : Int)) = true := decide_eq_true c57
                                                  clear c57
                                                  obtain ⟨y124, hy124⟩ : ∃ y_ : List Bool, y_ = (x7_2.set ((ji55) : Int).toNat false) := ⟨_, rfl⟩
                                                  replace H : (postbagref13_Fits.l1 kj16 a0 a1 (wrap64 ((a0.size : Int) + 1)) (wrap64 ((a1.size : Int) + 1)) y124 x8_1 (wrap64 (x9_2 - 1))) = some r := by first | (rw [hy124]; with_reducible exact H) | (have H2_ := (Option.bind_some _ _).symm.trans H; rw [hy124]; with_reducible exact H2_) | (have H2_ := (Option.bind_some _ _).symm.trans H; with_reducible exact H2_) | with_reducible exact H | (rw [hy124]; exact H) | exact H
                                                  have Ny124 := Aside0.mk hy124
                                                  clear hy124
                                                  have H' := Aside0.mk H
                                                  clear H
                                                  obtain ⟨Ao59, co59, eo59⟩ := Kd.R_slice HO_7.out
                                                  subst eo59
                                                  have p120 : 0 ≤ ((ji24) : Int) := of_decide_eq_true (by first | (with_reducible assumption) | assumption)
                                                  have q120 : (ji24) < (x7_2.length : Int) := of_decide_eq_true (by first | (with_reducible assumption) | assumption)
                                                  obtain ⟨ad120, e120, hx120_0⟩ := Kd.at_bool (Kd.R_reads' HO_7.out).2.2 (ji24) p120 q120
                                                  (try rw [← Nbq27.out] at hx120_0)
                                                  cases e120
                                                  replace p120 := eq_true p120
                                                  replace q120 := eq_true q120
                                                  have p39 : 0 ≤ (x8_1 : Int) := of_decide_eq_true (by first | (with_reducible assumption) | assumption)
                                                  have q39 : x8_1 < (a0.size : Int) := of_decide_eq_true (by first | (with_reducible assumption) | assumption)
                                                  have hx39 := bt_at a0 x8_1
                                                  replace p39 := eq_true p39
                                                  replace q39 := eq_true q39
                                                  have p53 : 0 ≤ (x9_2 : Int) := of_decide_eq_true (by first | (with_reducible assumption) | assumption)
                                                  have q53 : x9_2 < (a1.size : Int) := of_decide_eq_true (by first | (with_reducible assumption) | assumption)
                                                  have hx53 := bt_at a1 x9_2
                                                  replace p53 := eq_true p53
                                                  replace q53 := eq_true q53
                                                  have p58 : 0 ≤ ((ji55) : Int) := of_decide_eq_true (by first | (with_reducible assumption) | assumption)
                                                  have q58 : ((ji55) : Int) < ((x7_2.length : Int) : Int) := of_decide_eq_true (by first | (with_reducible assumption) | assumption)
                                                  obtain ⟨go58, co58, eo58, gb58, gl58, cl58, HG58⟩ := Kd.R_form HO_7.out (by omega)
                                                  (first | cases eo58 | (injection eo58 with ea_ en_ ec_; (first | subst ea_ | (injection ea_ with ea_; subst ea_)); subst ec_; clear en_))
                                                  have GB58 := Aside0.mk gb58
                                                  have GG58 := Aside0.mk HG58
                                                  clear gb58 gl58 HG58
                                                  (first | simp only [add_plain] at hx120_0 | skip)
                                                  obtain ⟨hx58_0, hf58_0⟩ := Kd.R_celln false HO_7.out ((ji55) : Int) p58 q58
                                                  replace p58 := eq_true p58
                                                  replace q58 := eq_true q58
                                                  have HP60 := Kd.R_putg HO_7.out ((ji55) : Int) false
                                                  go_wp2_with (first | ((with_reducible refine gate_store (t := 4) (p := 143) rfl ?_); refine store_event (t := 4) (p := 143) (v := ?vo_w61) (w1 := (wc.setCell ⟨go58, ((ji55) : Int).toNat, none⟩ (.bool false))) ?hg ?ho ?hn ?hr ?_; (case ho => rfl); (case hg => rfl); (case hn => rfl); (case hr => first | (go_simp; done) | (go_simp; rfl)); intro w61 hw; have hg : wc.grownBy w61 (some go58) := (by rw [hw]; exact HP60.2); have hp_ : Kd.R Kd.bool 4 w61 w.heap.size (fun _ => True) (.slice (some ⟨go58, 0, none⟩) x7_2.length co59) y124 := (by rw [hw, Ny124.out]; exact HP60.1); clear HP60; have n0_ := Aside0.mk (hp_); have n1_ := Aside0.mk ((by rw [hw]; exact below_set (HB.out) GB58.out : Below w.heap.size w w61)); clear HO_7; clear HB; have HO_7 := n0_; have HB := n1_; clear n0_ n1_; clear hg hw hp_))
                                                  go_roundg kj16
                                                  case measure => have := HK1.out; have := HK2.out; have := HJ16.out; omega
                                                  case rel => exact ⟨(y124), (wrap64 (x9_2 - 1)), (by first | rfl | (simp; done) | (simp [*]; done)), H', ⟨by have := HK1.out; have := HK2.out; have := HJ16.out; omega⟩, ⟨by (with_reducible repeat (first | apply Kd.R_alloc | apply Kd.R_drewN | apply Kd.R_drew)); exact HO_7.out⟩, ⟨by repeat (first | (with_reducible first | exact HB.out | apply below_alloc | apply pw_below_drewN | apply below_drew1) | exact HB.out | exact Below.refl _ _)⟩⟩
                                                · rw [if_neg c57] at H
                                                  exact absurd H (by simp)
                                              · rw [if_neg c56] at H
                                                exact absurd H (by simp)
                                            · rw [if_neg c54] at H
                                              have c54b0 : ((bt a1 x9_2) == 47) = false := beq_eq_false_iff_ne.mpr c54
                                              have c54b1 : ((bt a1 x9_2) != 47) = true := bne_iff_ne.mpr c54
                                              obtain ⟨ji62, hji62⟩ : ∃ j_ : Int, (wrap64 ((wrap64 ((wrap64 (x8_1 * (wrap64 ((a1.size : Int) + 1)))) + x9_2)) + 1)) = j_ := ⟨_, rfl⟩
                                              replace H : (if 0 ≤ (ji62) then (if (ji62) < (x7_2.length : Int) then (if 0 ≤ (wrap64 ((wrap64 (x8_1 * (wrap64 ((a1.size : Int) + 1)))) + x9_2)) then (if (wrap64 ((wrap64 (x8_1 * (wrap64 ((a1.size : Int) + 1)))) + x9_2)) < (x7_2.length : Int) then (postbagref13_Fits.l1 kj16 a0 a1 (wrap64 ((a0.size : Int) + 1)) (wrap64 ((a1.size : Int) + 1)) (x7_2.set ((wrap64 ((wrap64 (x8_1 * (wrap64 ((a1.size : Int) + 1)))) + x9_2)) : Int).toNat (rdOf false x7_2 (ji62))) x8_1 (wrap64 (x9_2 - 1))) else (none)) else (none)) else (none)) else (none)) = some r := by first | (rw [hji62] at H; exact H) | (simp only [hji62] at H ⊢; exact H)
                                              have hji62w : (IntKind.i64.wrap ((wrap64 ((wrap64 (x8_1 * (wrap64 ((a1.size : Int) + 1)))) + x9_2)) + 1)) = ji62 := (i64_w _).trans hji62
                                              by_cases c63 : 0 ≤ (ji62)
                                              · rw [if_pos c63] at H
                                                have c63b0 : decide (0 ≤ (ji62)) = true := decide_eq_true c63
                                                clear c63
                                                by_cases c64 : (ji62) < (x7_2.length : Int)
                                                · rw [if_pos c64] at H
                                                  have c64b0 : decide ((ji62) < (x7_2.length : Int)) = true := decide_eq_true c64
                                                  clear c64
                                                  obtain ⟨ji65, hji65⟩ : ∃ j_ : Int, (wrap64 ((wrap64 (x8_1 * (wrap64 ((a1.size : Int) + 1)))) + x9_2)) = j_ := ⟨_, rfl⟩
                                                  replace H : (if 0 ≤ (ji65) then (if (ji65) < (x7_2.length : Int) then (postbagref13_Fits.l1 kj16 a0 a1 (wrap64 ((a0.size : Int) + 1)) (wrap64 ((a1.size : Int) + 1)) (x7_2.set ((ji65) : Int).toNat (rdOf false x7_2 (ji62))) x8_1 (wrap64 (x9_2 - 1))) else (none)) else (none)) = some r := by first | (rw [hji65] at H; exact H) | (simp only [hji65] at H ⊢; exact H)
                                                  have hji65w : (IntKind.i64.wrap ((wrap64 (x8_1 * (wrap64 ((a1.size : Int) + 1)))) + x9_2)) = ji65 := (i64_w _).trans hji65
                                                  have hji62xji65 := hji62
                                                  (try rw [hji65] at hji62xji65)
                                                  by_cases c66 : 0 ≤ (ji65)
                                                  · rw [if_pos c66] at H
                                                    have c66b0 : decide (0 ≤ (ji65)) = true := decide_eq_true c66
                                                    clear c66
                                                    by_cases c67 : (ji65) < (x7_2.length : Int)
                                                    · rw [if_pos c67] at H
                                                      have c67b0 : decide ((ji65) < (x7_2.length : Int)) = true := decide_eq_true c67
                                                      clear c67
                                                      obtain ⟨y126, hy126⟩ : ∃ y_ : List Bool, y_ = (x7_2.set ((ji65) : Int).toNat (rdOf false x7_2 (ji62))) := ⟨_, rfl⟩
                                                      replace H : (postbagref13_Fits.l1 kj16 a0 a1 (wrap64 ((a0.size : Int) + 1)) (wrap64 ((a1.size : Int) + 1)) y126 x8_1 (wrap64 (x9_2 - 1))) = some r := by first | (rw [hy126]; with_reducible exact H) | (have H2_ := (Option.bind_some _ _).symm.trans H; rw [hy126]; with_reducible exact H2_) | (have H2_ := (Option.bind_some _ _).symm.trans H; with_reducible exact H2_) | with_reducible exact H | (rw [hy126]; exact H) | exact H
                                                      have Ny126 := Aside0.mk hy126
                                                      clear hy126
                                                      have H' := Aside0.mk H
                                                      clear H
                                                      obtain ⟨Ao69, co69, eo69⟩ := Kd.R_slice HO_7.out
                                                      subst eo69
                                                      have p120 : 0 ≤ ((ji24) : Int) := of_decide_eq_true (by first | (with_reducible assumption) | assumption)
                                                      have q120 : (ji24) < (x7_2.length : Int) := of_decide_eq_true (by first | (with_reducible assumption) | assumption)
                                                      obtain ⟨ad120, e120, hx120_0⟩ := Kd.at_bool (Kd.R_reads' HO_7.out).2.2 (ji24) p120 q120
                                                      (try rw [← Nbq27.out] at hx120_0)
                                                      cases e120
                                                      replace p120 := eq_true p120
                                                      replace q120 := eq_true q120
                                                      have p39 : 0 ≤ (x8_1 : Int) := of_decide_eq_true (by first | (with_reducible assumption) | assumption)
                                                      have q39 : x8_1 < (a0.size : Int) := of_decide_eq_true (by first | (with_reducible assumption) | assumption)
                                                      have hx39 := bt_at a0 x8_1
                                                      replace p39 := eq_true p39
                                                      replace q39 := eq_true q39
                                                      have p53 : 0 ≤ (x9_2 : Int) := of_decide_eq_true (by first | (with_reducible assumption) | assumption)
                                                      have q53 : x9_2 < (a1.size : Int) := of_decide_eq_true (by first | (with_reducible assumption) | assumption)
                                                      have hx53 := bt_at a1 x9_2
                                                      replace p53 := eq_true p53
                                                      replace q53 := eq_true q53
                                                      have p125 : 0 ≤ ((ji62) : Int) := of_decide_eq_true (by first | (with_reducible assumption) | assumption)
                                                      have q125 : (ji62) < (x7_2.length : Int) := of_decide_eq_true (by first | (with_reducible assumption) | assumption)
                                                      obtain ⟨ad125, e125, hx125_0⟩ := Kd.at_bool (Kd.R_reads' HO_7.out).2.2 (ji62) p125 q125
                                                      (try rw [← Nbq27.out] at hx125_0)
                                                      obtain rfl : ad120 = ad125 := (by injection e125)
                                                      replace p125 := eq_true p125
                                                      replace q125 := eq_true q125
                                                      have p68 : 0 ≤ ((ji65) : Int) := of_decide_eq_true (by first | (with_reducible assumption) | assumption)
                                                      have q68 : ((ji65) : Int) < ((x7_2.length : Int) : Int) := of_decide_eq_true (by first | (with_reducible assumption) | assumption)
                                                      obtain ⟨go68, co68, eo68, gb68, gl68, cl68, HG68⟩ := Kd.R_form HO_7.out (by omega)
                                                      (first | cases eo68 | (injection eo68 with ea_ en_ ec_; (first | subst ea_ | (injection ea_ with ea_; subst ea_)); subst ec_; clear en_))
                                                      have GB68 := Aside0.mk gb68
                                                      have GG68 := Aside0.mk HG68
                                                      clear gb68 gl68 HG68
                                                      (first | simp only [add_plain] at hx120_0 | skip)
                                                      (first | simp only [add_plain] at hx125_0 | skip)
                                                      obtain ⟨hx68_0, hf68_0⟩ := Kd.R_celln false HO_7.out ((ji65) : Int) p68 q68
                                                      replace p68 := eq_true p68
                                                      replace q68 := eq_true q68
                                                      have HP70 := Kd.R_putg HO_7.out ((ji65) : Int) (rdOf false x7_2 (ji62))
                                                      go_wp2_with (first | ((with_reducible refine gate_store (t := 4) (p := 143) rfl ?_); refine store_event (t := 4) (p := 143) (v := ?vo_w71) (w1 := (wc.setCell ⟨go68, ((ji65) : Int).toNat, none⟩ (.bool (rdOf false x7_2 (ji62))))) ?hg ?ho ?hn ?hr ?_; (case ho => rfl); (case hg => rfl); (case hn => rfl); (case hr => first | (go_simp; done) | (go_simp; rfl)); intro w71 hw; have hg : wc.grownBy w71 (some go68) := (by rw [hw]; exact HP70.2); have hp_ : Kd.R Kd.bool 4 w71 w.heap.size (fun _ => True) (.slice (some ⟨go68, 0, none⟩) x7_2.length co69) y126 := (by rw [hw, Ny126.out]; exact HP70.1); clear HP70; have n0_ := Aside0.mk (hp_); have n1_ := Aside0.mk ((by rw [hw]; exact below_set (HB.out) GB68.out : Below w.heap.size w w71)); clear HO_7; clear HB; have HO_7 := n0_; have HB := n1_; clear n0_ n1_; clear hg hw hp_))
                                                      go_roundg kj16
                                                      case measure => have := HK1.out; have := HK2.out; have := HJ16.out; omega
                                                      case rel => exact ⟨(y126), (wrap64 (x9_2 - 1)), (by first | rfl | (simp; done) | (simp [*]; done)), H', ⟨by have := HK1.out; have := HK2.out; have := HJ16.out; omega⟩, ⟨by (with_reducible repeat (first | apply Kd.R_alloc | apply Kd.R_drewN | apply Kd.R_drew)); exact HO_7.out⟩, ⟨by repeat (first | (with_reducible first | exact HB.out | apply below_alloc | apply pw_below_drewN | apply below_drew1) | exact HB.out | exact Below.refl _ _)⟩⟩
                                                    · rw [if_neg c67] at H
                                                      exact absurd H (by simp)
                                                  · rw [if_neg c66] at H
                                                    exact absurd H (by simp)
                                                · rw [if_neg c64] at H
                                                  exact absurd H (by simp)
                                              · rw [if_neg c63] at H
                                                exact absurd H (by simp)
                                          · rw [if_neg c52] at H
                                            exact absurd H (by simp)
                                        · rw [if_neg c51] at H
                                          exact absurd H (by simp)
                                    · rw [if_neg c38] at H
                                      exact absurd H (by simp)
                                  · rw [if_neg c37] at H
                                    exact absurd H (by simp)
                                · rw [if_neg c36] at H
                                  have c36b0 : decide (x9_2 < (wrap64 ((wrap64 ((a1.size : Int) + 1)) - 1))) = false := decide_eq_false c36
                                  clear c36
                                  obtain ⟨ji72, hji72⟩ : ∃ j_ : Int, (wrap64 ((wrap64 (x8_1 * (wrap64 ((a1.size : Int) + 1)))) + x9_2)) = j_ := ⟨_, rfl⟩
                                  replace H : (if 0 ≤ (ji72) then (if (ji72) < (x7_2.length : Int) then (postbagref13_Fits.l1 kj16 a0 a1 (wrap64 ((a0.size : Int) + 1)) (wrap64 ((a1.size : Int) + 1)) (x7_2.set ((ji72) : Int).toNat false) x8_1 (wrap64 (x9_2 - 1))) else (none)) else (none)) = some r := by first | (rw [hji72] at H; exact H) | (simp only [hji72] at H ⊢; exact H)
                                  have hji72w : (IntKind.i64.wrap ((wrap64 (x8_1 * (wrap64 ((a1.size : Int) + 1)))) + x9_2)) = ji72 := (i64_w _).trans hji72
                                  by_cases c73 : 0 ≤ (ji72)
                                  · rw [if_pos c73] at H
                                    have c73b0 : decide (0 ≤ (ji72)) = true := decide_eq_true c73
                                    clear c73
                                    by_cases c74 : (ji72) < (x7_2.length : Int)
                                    · rw [if_pos c74] at H
                                      have c74b0 : decide ((ji72) < (x7_2.length : Int)) = true := decide_eq_true c74
                                      clear c74
                                      obtain ⟨y127, hy127⟩ : ∃ y_ : List Bool, y_ = (x7_2.set ((ji72) : Int).toNat false) := ⟨_, rfl⟩
                                      replace H : (postbagref13_Fits.l1 kj16 a0 a1 (wrap64 ((a0.size : Int) + 1)) (wrap64 ((a1.size : Int) + 1)) y127 x8_1 (wrap64 (x9_2 - 1))) = some r := by first | (rw [hy127]; with_reducible exact H) | (have H2_ := (Option.bind_some _ _).symm.trans H; rw [hy127]; with_reducible exact H2_) | (have H2_ := (Option.bind_some _ _).symm.trans H; with_reducible exact H2_) | with_reducible exact H | (rw [hy127]; exact H) | exact H
                                      have Ny127 := Aside0.mk hy127
                                      clear hy127
                                      have H' := Aside0.mk H
                                      clear H
                                      obtain ⟨Ao76, co76, eo76⟩ := Kd.R_slice HO_7.out
                                      subst eo76
                                      have p120 : 0 ≤ ((ji24) : Int) := of_decide_eq_true (by first | (with_reducible assumption) | assumption)
                                      have q120 : (ji24) < (x7_2.length : Int) := of_decide_eq_true (by first | (with_reducible assumption) | assumption)
                                      obtain ⟨ad120, e120, hx120_0⟩ := Kd.at_bool (Kd.R_reads' HO_7.out).2.2 (ji24) p120 q120
                                      (try rw [← Nbq27.out] at hx120_0)
                                      cases e120
                                      replace p120 := eq_true p120
                                      replace q120 := eq_true q120
                                      have p75 : 0 ≤ ((ji72) : Int) := of_decide_eq_true (by first | (with_reducible assumption) | assumption)
                                      have q75 : ((ji72) : Int) < ((x7_2.length : Int) : Int) := of_decide_eq_true (by first | (with_reducible assumption) | assumption)
                                      obtain ⟨go75, co75, eo75, gb75, gl75, cl75, HG75⟩ := Kd.R_form HO_7.out (by omega)
                                      (first | cases eo75 | (injection eo75 with ea_ en_ ec_; (first | subst ea_ | (injection ea_ with ea_; subst ea_)); subst ec_; clear en_))
                                      have GB75 := Aside0.mk gb75
                                      have GG75 := Aside0.mk HG75
                                      clear gb75 gl75 HG75
                                      (first | simp only [add_plain] at hx120_0 | skip)
                                      obtain ⟨hx75_0, hf75_0⟩ := Kd.R_celln false HO_7.out ((ji72) : Int) p75 q75
                                      replace p75 := eq_true p75
                                      replace q75 := eq_true q75
                                      have HP77 := Kd.R_putg HO_7.out ((ji72) : Int) false
                                      go_wp2_with (first | ((with_reducible refine gate_store (t := 4) (p := 143) rfl ?_); refine store_event (t := 4) (p := 143) (v := ?vo_w78) (w1 := (wc.setCell ⟨go75, ((ji72) : Int).toNat, none⟩ (.bool false))) ?hg ?ho ?hn ?hr ?_; (case ho => rfl); (case hg => rfl); (case hn => rfl); (case hr => first | (go_simp; done) | (go_simp; rfl)); intro w78 hw; have hg : wc.grownBy w78 (some go75) := (by rw [hw]; exact HP77.2); have hp_ : Kd.R Kd.bool 4 w78 w.heap.size (fun _ => True) (.slice (some ⟨go75, 0, none⟩) x7_2.length co76) y127 := (by rw [hw, Ny127.out]; exact HP77.1); clear HP77; have n0_ := Aside0.mk (hp_); have n1_ := Aside0.mk ((by rw [hw]; exact below_set (HB.out) GB75.out : Below w.heap.size w w78)); clear HO_7; clear HB; have HO_7 := n0_; have HB := n1_; clear n0_ n1_; clear hg hw hp_))
                                      go_roundg kj16
                                      case measure => have := HK1.out; have := HK2.out; have := HJ16.out; omega
                                      case rel => exact ⟨(y127), (wrap64 (x9_2 - 1)), (by first | rfl | (simp; done) | (simp [*]; done)), H', ⟨by have := HK1.out; have := HK2.out; have := HJ16.out; omega⟩, ⟨by (with_reducible repeat (first | apply Kd.R_alloc | apply Kd.R_drewN | apply Kd.R_drew)); exact HO_7.out⟩, ⟨by repeat (first | (with_reducible first | exact HB.out | apply below_alloc | apply pw_below_drewN | apply below_drew1) | exact HB.out | exact Below.refl _ _)⟩⟩
                                    · rw [if_neg c74] at H
                                      exact absurd H (by simp)
                                  · rw [if_neg c73] at H
                                    exact absurd H (by simp)
                            · rw [if_neg c26] at H
                              exact absurd H (by simp)
                          · rw [if_neg c25] at H
                            exact absurd H (by simp)
                        · replace c23 := Bool.eq_false_iff.mpr c23
                          subst c23
                          have H1 : (if x9_2 < (wrap64 ((wrap64 ((a1.size : Int) + 1)) - 1)) then (if 0 ≤ x8_1 then (if x8_1 < (a0.size : Int) then (if 0 ≤ x9_2 then (if x9_2 < (a1.size : Int) then (if (bt a0 x8_1) = (bt a1 x9_2) then (if 0 ≤ (wrap64 ((wrap64 ((wrap64 ((wrap64 (x8_1 + 1)) * (wrap64 ((a1.size : Int) + 1)))) + x9_2)) + 1)) then (if (wrap64 ((wrap64 ((wrap64 ((wrap64 (x8_1 + 1)) * (wrap64 ((a1.size : Int) + 1)))) + x9_2)) + 1)) < (x7_2.length : Int) then (if 0 ≤ (wrap64 ((wrap64 (x8_1 * (wrap64 ((a1.size : Int) + 1)))) + x9_2)) then (if (wrap64 ((wrap64 (x8_1 * (wrap64 ((a1.size : Int) + 1)))) + x9_2)) < (x7_2.length : Int) then (postbagref13_Fits.l1 kj16 a0 a1 (wrap64 ((a0.size : Int) + 1)) (wrap64 ((a1.size : Int) + 1)) (x7_2.set ((wrap64 ((wrap64 (x8_1 * (wrap64 ((a1.size : Int) + 1)))) + x9_2)) : Int).toNat (rdOf false x7_2 (wrap64 ((wrap64 ((wrap64 ((wrap64 (x8_1 + 1)) * (wrap64 ((a1.size : Int) + 1)))) + x9_2)) + 1)))) x8_1 (wrap64 (x9_2 - 1))) else (none)) else (none)) else (none)) else (none)) else (if a1.toList = ([73, 78, 66, 79, 88] : List UInt8) then (if x8_1 ≤ (wrap64 (x8_1 + 1)) then (if (wrap64 (x8_1 + 1)) ≤ (a0.size : Int) then ((postbagref08_Small.f (a0.extract (x8_1 : Int).toNat ((wrap64 (x8_1 + 1)) : Int).toNat)).bind fun t130 => (if x9_2 ≤ (wrap64 (x9_2 + 1)) then (if (wrap64 (x9_2 + 1)) ≤ (a1.size : Int) then ((postbagref08_Small.f (a1.extract (x9_2 : Int).toNat ((wrap64 (x9_2 + 1)) : Int).toNat)).bind fun t131 => (if t130.toList = t131.toList then (if 0 ≤ (wrap64 ((wrap64 ((wrap64 ((wrap64 (x8_1 + 1)) * (wrap64 ((a1.size : Int) + 1)))) + x9_2)) + 1)) then (if (wrap64 ((wrap64 ((wrap64 ((wrap64 (x8_1 + 1)) * (wrap64 ((a1.size : Int) + 1)))) + x9_2)) + 1)) < (x7_2.length : Int) then (if 0 ≤ (wrap64 ((wrap64 (x8_1 * (wrap64 ((a1.size : Int) + 1)))) + x9_2)) then (if (wrap64 ((wrap64 (x8_1 * (wrap64 ((a1.size : Int) + 1)))) + x9_2)) < (x7_2.length : Int) then (postbagref13_Fits.l1 kj16 a0 a1 (wrap64 ((a0.size : Int) + 1)) (wrap64 ((a1.size : Int) + 1)) (x7_2.set ((wrap64 ((wrap64 (x8_1 * (wrap64 ((a1.size : Int) + 1)))) + x9_2)) : Int).toNat (rdOf false x7_2 (wrap64 ((wrap64 ((wrap64 ((wrap64 (x8_1 + 1)) * (wrap64 ((a1.size : Int) + 1)))) + x9_2)) + 1)))) x8_1 (wrap64 (x9_2 - 1))) else (none)) else (none)) else (none)) else (none)) else (if 0 ≤ (wrap64 ((wrap64 (x8_1 * (wrap64 ((a1.size : Int) + 1)))) + x9_2)) then (if (wrap64 ((wrap64 (x8_1 * (wrap64 ((a1.size : Int) + 1)))) + x9_2)) < (x7_2.length : Int) then (postbagref13_Fits.l1 kj16 a0 a1 (wrap64 ((a0.size : Int) + 1)) (wrap64 ((a1.size : Int) + 1)) (x7_2.set ((wrap64 ((wrap64 (x8_1 * (wrap64 ((a1.size : Int) + 1)))) + x9_2)) : Int).toNat false) x8_1 (wrap64 (x9_2 - 1))) else (none)) else (none)))) else (none)) else (none))) else (none)) else (none)) else (if 0 ≤ (wrap64 ((wrap64 (x8_1 * (wrap64 ((a1.size : Int) + 1)))) + x9_2)) then (if (wrap64 ((wrap64 (x8_1 * (wrap64 ((a1.size : Int) + 1)))) + x9_2)) < (x7_2.length : Int) then (postbagref13_Fits.l1 kj16 a0 a1 (wrap64 ((a0.size : Int) + 1)) (wrap64 ((a1.size : Int) + 1)) (x7_2.set ((wrap64 ((wrap64 (x8_1 * (wrap64 ((a1.size : Int) + 1)))) + x9_2)) : Int).toNat false) x8_1 (wrap64 (x9_2 - 1))) else (none)) else (none)))) else (none)) else (none)) else (none)) else (none)) else (if 0 ≤ (wrap64 ((wrap64 (x8_1 * (wrap64 ((a1.size : Int) + 1)))) + x9_2)) then (if (wrap64 ((wrap64 (x8_1 * (wrap64 ((a1.size : Int) + 1)))) + x9_2)) < (x7_2.length : Int) then (postbagref13_Fits.l1 kj16 a0 a1 (wrap64 ((a0.size : Int) + 1)) (wrap64 ((a1.size : Int) + 1)) (x7_2.set ((wrap64 ((wrap64 (x8_1 * (wrap64 ((a1.size : Int) + 1)))) + x9_2)) : Int).toNat false) x8_1 (wrap64 (x9_2 - 1))) else (none)) else (none))) = some r := by rw [if_neg (show ¬ (false = true) by decide)] at H; exact H
                          clear H
                          have H := H1
                          clear H1
                          by_cases c79 : x9_2 < (wrap64 ((wrap64 ((a1.size : Int) + 1)) - 1))
                          · rw [if_pos c79] at H
                            have c79b0 : decide (x9_2 < (wrap64 ((wrap64 ((a1.size : Int) + 1)) - 1))) = true := decide_eq_true c79
                            clear c79
                            by_cases c80 : 0 ≤ x8_1
                            · rw [if_pos c80] at H
                              have c80b0 : decide (0 ≤ x8_1) = true := decide_eq_true c80
                              clear c80
                              by_cases c81 : x8_1 < (a0.size : Int)
                              · rw [if_pos c81] at H
                                have c81b0 : decide (x8_1 < (a0.size : Int)) = true := decide_eq_true c81
                                clear c81
                                by_cases c83 : 0 ≤ x9_2
                                · rw [if_pos c83] at H
                                  have c83b0 : decide (0 ≤ x9_2) = true := decide_eq_true c83
                                  clear c83
                                  by_cases c84 : x9_2 < (a1.size : Int)
                                  · rw [if_pos c84] at H
                                    have c84b0 : decide (x9_2 < (a1.size : Int)) = true := decide_eq_true c84
                                    clear c84
                                    by_cases c86 : (bt a0 x8_1) = (bt a1 x9_2)
                                    · rw [if_pos c86] at H
                                      have c86b0 : ((bt a0 x8_1) == (bt a1 x9_2)) = true := beq_iff_eq.mpr c86
                                      have c86b1 : ((bt a0 x8_1) != (bt a1 x9_2)) = false := bne_eq_false_iff_eq.mpr c86
                                      clear c86
                                      obtain ⟨ji87, hji87⟩ : ∃ j_ : Int, (wrap64 ((wrap64 ((wrap64 ((wrap64 (x8_1 + 1)) * (wrap64 ((a1.size : Int) + 1)))) + x9_2)) + 1)) = j_ := ⟨_, rfl⟩
                                      replace H : (if 0 ≤ (ji87) then (if (ji87) < (x7_2.length : Int) then (if 0 ≤ (wrap64 ((wrap64 (x8_1 * (wrap64 ((a1.size : Int) + 1)))) + x9_2)) then (if (wrap64 ((wrap64 (x8_1 * (wrap64 ((a1.size : Int) + 1)))) + x9_2)) < (x7_2.length : Int) then (postbagref13_Fits.l1 kj16 a0 a1 (wrap64 ((a0.size : Int) + 1)) (wrap64 ((a1.size : Int) + 1)) (x7_2.set ((wrap64 ((wrap64 (x8_1 * (wrap64 ((a1.size : Int) + 1)))) + x9_2)) : Int).toNat (rdOf false x7_2 (ji87))) x8_1 (wrap64 (x9_2 - 1))) else (none)) else (none)) else (none)) else (none)) = some r := by first | (rw [hji87] at H; exact H) | (simp only [hji87] at H ⊢; exact H)
                                      have hji87w : (IntKind.i64.wrap ((wrap64 ((wrap64 ((wrap64 (x8_1 + 1)) * (wrap64 ((a1.size : Int) + 1)))) + x9_2)) + 1)) = ji87 := (i64_w _).trans hji87
                                      by_cases c88 : 0 ≤ (ji87)
                                      · rw [if_pos c88] at H
                                        have c88b0 : decide (0 ≤ (ji87)) = true := decide_eq_true c88
                                        clear c88
                                        by_cases c89 : (ji87) < (x7_2.length : Int)
                                        · rw [if_pos c89] at H
                                          have c89b0 : decide ((ji87) < (x7_2.length : Int)) = true := decide_eq_true c89
                                          clear c89
                                          obtain ⟨ji90, hji90⟩ : ∃ j_ : Int, (wrap64 ((wrap64 (x8_1 * (wrap64 ((a1.size : Int) + 1)))) + x9_2)) = j_ := ⟨_, rfl⟩
                                          replace H : (if 0 ≤ (ji90) then (if (ji90) < (x7_2.length : Int) then (postbagref13_Fits.l1 kj16 a0 a1 (wrap64 ((a0.size : Int) + 1)) (wrap64 ((a1.size : Int) + 1)) (x7_2.set ((ji90) : Int).toNat (rdOf false x7_2 (ji87))) x8_1 (wrap64 (x9_2 - 1))) else (none)) else (none)) = some r := by first | (rw [hji90] at H; exact H) | (simp only [hji90] at H ⊢; exact H)
                                          have hji90w : (IntKind.i64.wrap ((wrap64 (x8_1 * (wrap64 ((a1.size : Int) + 1)))) + x9_2)) = ji90 := (i64_w _).trans hji90
                                          by_cases c91 : 0 ≤ (ji90)
                                          · rw [if_pos c91] at H
                                            have c91b0 : decide (0 ≤ (ji90)) = true := decide_eq_true c91
                                            clear c91
                                            by_cases c92 : (ji90) < (x7_2.length : Int)
                                            · rw [if_pos c92] at H
                                              have c92b0 : decide ((ji90) < (x7_2.length : Int)) = true := decide_eq_true c92
                                              clear c92
                                              obtain ⟨y129, hy129⟩ : ∃ y_ : List Bool, y_ = (x7_2.set ((ji90) : Int).toNat (rdOf false x7_2 (ji87))) := ⟨_, rfl⟩
                                              replace H : (postbagref13_Fits.l1 kj16 a0 a1 (wrap64 ((a0.size : Int) + 1)) (wrap64 ((a1.size : Int) + 1)) y129 x8_1 (wrap64 (x9_2 - 1))) = some r := by first | (rw [hy129]; with_reducible exact H) | (have H2_ := (Option.bind_some _ _).symm.trans H; rw [hy129]; with_reducible exact H2_) | (have H2_ := (Option.bind_some _ _).symm.trans H; with_reducible exact H2_) | with_reducible exact H | (rw [hy129]; exact H) | exact H
                                              have Ny129 := Aside0.mk hy129
                                              clear hy129
                                              have H' := Aside0.mk H
                                              clear H
                                              try go_wp2
                                              have n0_ := Aside0.mk (Kd.R_drew HO_7.out)
                                              have n1_ := Aside0.mk (below_drew1 HB.out)
                                              clear HO_7
                                              clear HB
                                              have HO_7 := n0_
                                              have HB := n1_
                                              clear n0_ n1_
                                              have p82 : 0 ≤ (x8_1 : Int) := of_decide_eq_true (by first | (with_reducible assumption) | assumption)
                                              have q82 : x8_1 < (a0.size : Int) := of_decide_eq_true (by first | (with_reducible assumption) | assumption)
                                              have hx82 := bt_at a0 x8_1
                                              replace p82 := eq_true p82
                                              replace q82 := eq_true q82
                                              have p85 : 0 ≤ (x9_2 : Int) := of_decide_eq_true (by first | (with_reducible assumption) | assumption)
                                              have q85 : x9_2 < (a1.size : Int) := of_decide_eq_true (by first | (with_reducible assumption) | assumption)
                                              have hx85 := bt_at a1 x9_2
                                              replace p85 := eq_true p85
                                              replace q85 := eq_true q85
                                              refine start_ (n := 27) (S := fun w' => True) (ds := []) #[false, false, false, false, false, false, false, false, false, false, false, false, false, false, false, false, false, false, false, false, false, false, false, false, false, false, false] (by kernel_rfl) rfl rfl trivial (fun hHeld => ?_); refine with_tabW postbagref13_Fits.tab15 postbagref13_Fits.bits15 (fun HT_ HW_ => ?_)
                                              generalize wc.drew = w94 at HO_7 HB hHeld ⊢
                                              refine pure_ (i := 0) (N := some 97) (v := ?_) (a' := ?_) #[true, false, false, false, false, false, false, false, false, false, false, false, false, false, false, false, false, false, false, false, false, false, false, false, false, false, false] rfl rfl (any_of HT_.out (by kernel_rfl)) (fun _ _ _ h => h) (Or.inl ⟨by rfl, ?_⟩) ?_ ?_
                                              rotate_left
                                              · intro w'
                                                go_simp
                                                with_reducible rfl
                                              rotate_left
                                              · simp only [Act.put, List.setIfInBounds_toArray, List.set_cons_zero, List.set_cons_succ, i64_w, i32_w]
                                                rfl
                                              refine pure_ (i := 1) (N := some 98) (v := ?_) (a' := ?_) #[true, true, false, false, false, false, false, false, false, false, false, false, false, false, false, false, false, false, false, false, false, false, false, false, false, false, false] rfl rfl (any_of HT_.out (by kernel_rfl)) (fun _ _ _ h => h) (Or.inl ⟨by rfl, ?_⟩) ?_ ?_
                                              rotate_left
                                              · intro w'
                                                go_simp
                                                with_reducible rfl
                                              rotate_left
                                              · simp only [Act.put, List.setIfInBounds_toArray, List.set_cons_zero, List.set_cons_succ, i64_w, i32_w]
                                                rfl
                                              refine pure_ (i := 3) (N := some 100) (v := ?_) (a' := ?_) #[true, true, false, true, false, false, false, false, false, false, false, false, false, false, false, false, false, false, false, false, false, false, false, false, false, false, false] rfl rfl (any_of HT_.out (by kernel_rfl)) (fun _ _ _ h => h) (Or.inl ⟨by rfl, ?_⟩) ?_ ?_
                                              rotate_left
                                              · intro w'
                                                go_simp
                                                with_reducible rfl
                                              rotate_left
                                              · simp only [Act.put, List.setIfInBounds_toArray, List.set_cons_zero, List.set_cons_succ, i64_w, i32_w]
                                                rfl
                                              refine pure_ (i := 4) (N := some 101) (v := ?_) (a' := ?_) #[true, true, false, true, true, false, false, false, false, false, false, false, false, false, false, false, false, false, false, false, false, false, false, false, false, false, false] rfl rfl (any_of HT_.out (by kernel_rfl)) (fun _ _ _ h => h) (Or.inl ⟨by rfl, ?_⟩) ?_ ?_
                                              rotate_left
                                              · intro w'
                                                go_simp
                                                with_reducible rfl
                                              rotate_left
                                              · simp only [Act.put, List.setIfInBounds_toArray, List.set_cons_zero, List.set_cons_succ, i64_w, i32_w]
                                                rfl
                                              refine take_ (i := 2) (N := some 99) (v := ?_) (a' := ?_) #[true, true, true, true, true, false, false, false, false, false, false, false, false, false, false, false, false, false, false, false, false, false, false, false, false, false, false] rfl rfl (take_ofW HT_.out HW_.out (by kernel_rfl)) (fun _ _ _ h => h) (Or.inl ⟨by rfl, ?_⟩) hHeld ?_ ?_
                                              rotate_left
                                              · intro w' _
                                                go_simp
                                                with_reducible rfl
                                              rotate_left
                                              · simp only [Act.put, List.setIfInBounds_toArray, List.set_cons_zero, List.set_cons_succ, i64_w, i32_w]
                                                rfl
                                              refine take_ (i := 5) (N := some 102) (v := ?_) (a' := ?_) #[true, true, true, true, true, true, false, false, false, false, false, false, false, false, false, false, false, false, false, false, false, false, false, false, false, false, false] rfl rfl (take_ofW HT_.out HW_.out (by kernel_rfl)) (fun _ _ _ h => h) (Or.inl ⟨by rfl, ?_⟩) hHeld ?_ ?_
                                              rotate_left
                                              · intro w' _
                                                go_simp
                                                with_reducible rfl
                                              rotate_left
                                              · simp only [Act.put, List.setIfInBounds_toArray, List.set_cons_zero, List.set_cons_succ, i64_w, i32_w]
                                                rfl
                                              refine pure_ (i := 6) (N := some 103) (v := ?_) (a' := ?_) #[true, true, true, true, true, true, true, false, false, false, false, false, false, false, false, false, false, false, false, false, false, false, false, false, false, false, false] rfl rfl (any_of HT_.out (by kernel_rfl)) (fun _ _ _ h => h) (Or.inl ⟨by rfl, ?_⟩) ?_ ?_
                                              rotate_left
                                              · intro w'
                                                go_simp
                                                with_reducible rfl
                                              rotate_left
                                              · simp only [Act.put, List.setIfInBounds_toArray, List.set_cons_zero, List.set_cons_succ, i64_w, i32_w]
                                                rfl
                                              refine pure_ (i := 7) (N := some 104) (v := ?_) (a' := ?_) #[true, true, true, true, true, true, true, true, false, false, false, false, false, false, false, false, false, false, false, false, false, false, false, false, false, false, false] rfl rfl (any_of HT_.out (by kernel_rfl)) (fun _ _ _ h => h) (Or.inl ⟨by rfl, ?_⟩) ?_ ?_
                                              rotate_left
                                              · intro w'
                                                go_simp
                                                with_reducible rfl
                                              rotate_left
                                              · simp only [Act.put, List.setIfInBounds_toArray, List.set_cons_zero, List.set_cons_succ, i64_w, i32_w]
                                                rfl
                                              refine pure_ (i := 8) (N := some 105) (v := undef) (a' := ?_) #[true, true, true, true, true, true, true, true, true, false, false, false, false, false, false, false, false, false, false, false, false, false, false, false, false, false, false] rfl rfl (any_of HT_.out (by kernel_rfl)) (fun _ _ _ h => h) (Or.inr ⟨by rfl, rfl⟩) ?_ ?_
                                              rotate_left
                                              · simp only [Act.put, List.setIfInBounds_toArray, List.set_cons_zero, List.set_cons_succ, i64_w, i32_w]
                                                rfl
                                              refine pure_ (i := 9) (N := some 106) (v := undef) (a' := ?_) #[true, true, true, true, true, true, true, true, true, true, false, false, false, false, false, false, false, false, false, false, false, false, false, false, false, false, false] rfl rfl (any_of HT_.out (by kernel_rfl)) (fun _ _ _ h => h) (Or.inr ⟨by rfl, rfl⟩) ?_ ?_
                                              rotate_left
                                              · simp only [Act.put, List.setIfInBounds_toArray, List.set_cons_zero, List.set_cons_succ, i64_w, i32_w]
                                                rfl
                                              refine pure_ (i := 10) (N := some 107) (v := undef) (a' := ?_) #[true, true, true, true, true, true, true, true, true, true, true, false, false, false, false, false, false, false, false, false, false, false, false, false, false, false, false] rfl rfl (any_of HT_.out (by kernel_rfl)) (fun _ _ _ h => h) (Or.inr ⟨by rfl, rfl⟩) ?_ ?_
                                              rotate_left
                                              · simp only [Act.put, List.setIfInBounds_toArray, List.set_cons_zero, List.set_cons_succ, i64_w, i32_w]
                                                rfl
                                              refine pure_ (i := 11) (N := some 108) (v := undef) (a' := ?_) #[true, true, true, true, true, true, true, true, true, true, true, true, false, false, false, false, false, false, false, false, false, false, false, false, false, false, false] rfl rfl (any_of HT_.out (by kernel_rfl)) (fun _ _ _ h => h) (Or.inr ⟨by rfl, rfl⟩) ?_ ?_
                                              rotate_left
                                              · simp only [Act.put, List.setIfInBounds_toArray, List.set_cons_zero, List.set_cons_succ, i64_w, i32_w]
                                                rfl
                                              refine pure_ (i := 12) (N := some 109) (v := undef) (a' := ?_) #[true, true, true, true, true, true, true, true, true, true, true, true, true, false, false, false, false, false, false, false, false, false, false, false, false, false, false] rfl rfl (any_of HT_.out (by kernel_rfl)) (fun _ _ _ h => h) (Or.inr ⟨by rfl, rfl⟩) ?_ ?_
                                              rotate_left
                                              · simp only [Act.put, List.setIfInBounds_toArray, List.set_cons_zero, List.set_cons_succ, i64_w, i32_w]
                                                rfl
                                              refine pure_ (i := 13) (N := some 110) (v := undef) (a' := ?_) #[true, true, true, true, true, true, true, true, true, true, true, true, true, true, false, false, false, false, false, false, false, false, false, false, false, false, false] rfl rfl (any_of HT_.out (by kernel_rfl)) (fun _ _ _ h => h) (Or.inr ⟨by rfl, rfl⟩) ?_ ?_
                                              rotate_left
                                              · simp only [Act.put, List.setIfInBounds_toArray, List.set_cons_zero, List.set_cons_succ, i64_w, i32_w]
                                                rfl
                                              refine pure_ (i := 14) (N := some 111) (v := undef) (a' := ?_) #[true, true, true, true, true, true, true, true, true, true, true, true, true, true, true, false, false, false, false, false, false, false, false, false, false, false, false] rfl rfl (any_of HT_.out (by kernel_rfl)) (fun _ _ _ h => h) (Or.inr ⟨by rfl, rfl⟩) ?_ ?_
                                              rotate_left
                                              · simp only [Act.put, List.setIfInBounds_toArray, List.set_cons_zero, List.set_cons_succ, i64_w, i32_w]
                                                rfl
                                              refine pure_ (i := 15) (N := some 112) (v := undef) (a' := ?_) #[true, true, true, true, true, true, true, true, true, true, true, true, true, true, true, true, false, false, false, false, false, false, false, false, false, false, false] rfl rfl (any_of HT_.out (by kernel_rfl)) (fun _ _ _ h => h) (Or.inr ⟨by rfl, rfl⟩) ?_ ?_
                                              rotate_left
                                              · simp only [Act.put, List.setIfInBounds_toArray, List.set_cons_zero, List.set_cons_succ, i64_w, i32_w]
                                                rfl
                                              refine pure_ (i := 16) (N := some 113) (v := undef) (a' := ?_) #[true, true, true, true, true, true, true, true, true, true, true, true, true, true, true, true, true, false, false, false, false, false, false, false, false, false, false] rfl rfl (any_of HT_.out (by kernel_rfl)) (fun _ _ _ h => h) (Or.inr ⟨by rfl, rfl⟩) ?_ ?_
                                              rotate_left
                                              · simp only [Act.put, List.setIfInBounds_toArray, List.set_cons_zero, List.set_cons_succ, i64_w, i32_w]
                                                rfl
                                              refine pure_ (i := 17) (N := some 114) (v := undef) (a' := ?_) #[true, true, true, true, true, true, true, true, true, true, true, true, true, true, true, true, true, true, false, false, false, false, false, false, false, false, false] rfl rfl (any_of HT_.out (by kernel_rfl)) (fun _ _ _ h => h) (Or.inr ⟨by rfl, rfl⟩) ?_ ?_
                                              rotate_left
                                              · simp only [Act.put, List.setIfInBounds_toArray, List.set_cons_zero, List.set_cons_succ, i64_w, i32_w]
                                                rfl
                                              refine pure_ (i := 18) (N := some 115) (v := undef) (a' := ?_) #[true, true, true, true, true, true, true, true, true, true, true, true, true, true, true, true, true, true, true, false, false, false, false, false, false, false, false] rfl rfl (any_of HT_.out (by kernel_rfl)) (fun _ _ _ h => h) (Or.inr ⟨by rfl, rfl⟩) ?_ ?_
                                              rotate_left
                                              · simp only [Act.put, List.setIfInBounds_toArray, List.set_cons_zero, List.set_cons_succ, i64_w, i32_w]
                                                rfl
                                              refine pure_ (i := 19) (N := some 116) (v := undef) (a' := ?_) #[true, true, true, true, true, true, true, true, true, true, true, true, true, true, true, true, true, true, true, true, false, false, false, false, false, false, false] rfl rfl (any_of HT_.out (by kernel_rfl)) (fun _ _ _ h => h) (Or.inr ⟨by rfl, rfl⟩) ?_ ?_
                                              rotate_left
                                              · simp only [Act.put, List.setIfInBounds_toArray, List.set_cons_zero, List.set_cons_succ, i64_w, i32_w]
                                                rfl
                                              refine pure_ (i := 20) (N := some 117) (v := undef) (a' := ?_) #[true, true, true, true, true, true, true, true, true, true, true, true, true, true, true, true, true, true, true, true, true, false, false, false, false, false, false] rfl rfl (any_of HT_.out (by kernel_rfl)) (fun _ _ _ h => h) (Or.inr ⟨by rfl, rfl⟩) ?_ ?_
                                              rotate_left
                                              · simp only [Act.put, List.setIfInBounds_toArray, List.set_cons_zero, List.set_cons_succ, i64_w, i32_w]
                                                rfl
                                              refine pure_ (i := 21) (N := some 118) (v := undef) (a' := ?_) #[true, true, true, true, true, true, true, true, true, true, true, true, true, true, true, true, true, true, true, true, true, true, false, false, false, false, false] rfl rfl (any_of HT_.out (by kernel_rfl)) (fun _ _ _ h => h) (Or.inr ⟨by rfl, rfl⟩) ?_ ?_
                                              rotate_left
                                              · simp only [Act.put, List.setIfInBounds_toArray, List.set_cons_zero, List.set_cons_succ, i64_w, i32_w]
                                                rfl
                                              refine pure_ (i := 22) (N := some 119) (v := undef) (a' := ?_) #[true, true, true, true, true, true, true, true, true, true, true, true, true, true, true, true, true, true, true, true, true, true, true, false, false, false, false] rfl rfl (any_of HT_.out (by kernel_rfl)) (fun _ _ _ h => h) (Or.inr ⟨by rfl, rfl⟩) ?_ ?_
                                              rotate_left
                                              · simp only [Act.put, List.setIfInBounds_toArray, List.set_cons_zero, List.set_cons_succ, i64_w, i32_w]
                                                rfl
                                              refine pure_ (i := 23) (N := some 120) (v := undef) (a' := ?_) #[true, true, true, true, true, true, true, true, true, true, true, true, true, true, true, true, true, true, true, true, true, true, true, true, false, false, false] rfl rfl (any_of HT_.out (by kernel_rfl)) (fun _ _ _ h => h) (Or.inr ⟨by rfl, rfl⟩) ?_ ?_
                                              rotate_left
                                              · simp only [Act.put, List.setIfInBounds_toArray, List.set_cons_zero, List.set_cons_succ, i64_w, i32_w]
                                                rfl
                                              refine pure_ (i := 24) (N := some 121) (v := undef) (a' := ?_) #[true, true, true, true, true, true, true, true, true, true, true, true, true, true, true, true, true, true, true, true, true, true, true, true, true, false, false] rfl rfl (any_of HT_.out (by kernel_rfl)) (fun _ _ _ h => h) (Or.inr ⟨by rfl, rfl⟩) ?_ ?_
                                              rotate_left
                                              · simp only [Act.put, List.setIfInBounds_toArray, List.set_cons_zero, List.set_cons_succ, i64_w, i32_w]
                                                rfl
                                              refine pure_ (i := 25) (N := some 122) (v := ?_) (a' := ?_) #[true, true, true, true, true, true, true, true, true, true, true, true, true, true, true, true, true, true, true, true, true, true, true, true, true, true, false] rfl rfl (any_of HT_.out (by kernel_rfl)) (fun _ _ _ h => h) (Or.inl ⟨by rfl, ?_⟩) ?_ ?_
                                              rotate_left
                                              · intro w'
                                                go_simp
                                                with_reducible rfl
                                              rotate_left
                                              · simp only [Act.put, List.setIfInBounds_toArray, List.set_cons_zero, List.set_cons_succ, i64_w, i32_w]
                                                rfl
                                              refine pure_ (i := 26) (N := some 11) (v := ?_) (a' := ?_) #[true, true, true, true, true, true, true, true, true, true, true, true, true, true, true, true, true, true, true, true, true, true, true, true, true, true, true] rfl rfl (any_of HT_.out (by kernel_rfl)) (fun _ _ _ h => h) (Or.inl ⟨by rfl, ?_⟩) ?_ ?_
                                              rotate_left
                                              · intro w'
                                                go_simp
                                                with_reducible rfl
                                              rotate_left
                                              · simp only [Act.put, List.setIfInBounds_toArray, List.set_cons_zero, List.set_cons_succ, i64_w, i32_w]
                                                rfl
                                              refine done_ (done_of HT_.out (by kernel_rfl)) ?_
                                              obtain ⟨Ao95, co95, eo95⟩ := Kd.R_slice HO_7.out
                                              subst eo95
                                              have p128 : 0 ≤ ((ji87) : Int) := of_decide_eq_true (by first | (with_reducible assumption) | assumption)
                                              have q128 : (ji87) < (x7_2.length : Int) := of_decide_eq_true (by first | (with_reducible assumption) | assumption)
                                              obtain ⟨ad128, e128, hx128_0⟩ := Kd.at_bool (Kd.R_reads' HO_7.out).2.2 (ji87) p128 q128
                                              cases e128
                                              replace p128 := eq_true p128
                                              replace q128 := eq_true q128
                                              have p93 : 0 ≤ ((ji90) : Int) := of_decide_eq_true (by first | (with_reducible assumption) | assumption)
                                              have q93 : ((ji90) : Int) < ((x7_2.length : Int) : Int) := of_decide_eq_true (by first | (with_reducible assumption) | assumption)
                                              obtain ⟨go93, co93, eo93, gb93, gl93, cl93, HG93⟩ := Kd.R_form HO_7.out (by omega)
                                              (first | cases eo93 | (injection eo93 with ea_ en_ ec_; (first | subst ea_ | (injection ea_ with ea_; subst ea_)); subst ec_; clear en_))
                                              have GB93 := Aside0.mk gb93
                                              have GG93 := Aside0.mk HG93
                                              clear gb93 gl93 HG93
                                              (first | simp only [add_plain] at hx128_0 | skip)
                                              obtain ⟨hx93_0, hf93_0⟩ := Kd.R_celln false HO_7.out ((ji90) : Int) p93 q93
                                              replace p93 := eq_true p93
                                              replace q93 := eq_true q93
                                              obtain ⟨hy96_, hz96_⟩ := Kd.R_celln false HO_7.out ((ji90) : Int) (of_decide_eq_true (by first | (with_reducible assumption) | assumption)) (of_decide_eq_true (by first | (with_reducible assumption) | assumption))
                                              have HP96 := Kd.R_putg HO_7.out ((ji90) : Int) (rdOf false x7_2 (ji87))
                                              try go_wp2_with (first | ((with_reducible refine gate_store (t := 4) (p := 143) rfl ?_); refine store_event (t := 4) (p := 143) (v := ?vo_w97) (w1 := (w94.setCell ⟨go93, ((ji90) : Int).toNat, none⟩ (.bool (rdOf false x7_2 (ji87))))) ?hg ?ho ?hn ?hr ?_; (case ho => rfl); (case hg => rfl); (case hn => rfl); (case hr => first | (go_simp; done) | (go_simp; rfl)); intro w97 hw; have hg : w94.grownBy w97 (some go93) := (by rw [hw]; exact HP96.2); have hp_ : Kd.R Kd.bool 4 w97 w.heap.size (fun _ => True) (.slice (some ⟨go93, 0, none⟩) x7_2.length co95) y129 := (by rw [hw, Ny129.out]; exact HP96.1); clear HP96; have n0_ := Aside0.mk (hp_); have n1_ := Aside0.mk ((by rw [hw]; exact below_set (HB.out) GB93.out : Below w.heap.size w w97)); clear HO_7; clear HB; have HO_7 := n0_; have HB := n1_; clear n0_ n1_; clear hg hw hp_))
                                              go_roundg kj16
                                              case measure => have := HK1.out; have := HK2.out; have := HJ16.out; omega
                                              case rel => exact ⟨(y129), (wrap64 (x9_2 - 1)), (by first | rfl | (simp; done) | (simp [*]; done)), H', ⟨by have := HK1.out; have := HK2.out; have := HJ16.out; omega⟩, ⟨by (with_reducible repeat (first | apply Kd.R_alloc | apply Kd.R_drewN | apply Kd.R_drew)); exact HO_7.out⟩, ⟨by repeat (first | (with_reducible first | exact HB.out | apply below_alloc | apply pw_below_drewN | apply below_drew1) | exact HB.out | exact Below.refl _ _)⟩⟩
                                            · rw [if_neg c92] at H
                                              exact absurd H (by simp)
                                          · rw [if_neg c91] at H
                                            exact absurd H (by simp)
                                        · rw [if_neg c89] at H
                                          exact absurd H (by simp)
                                      · rw [if_neg c88] at H
                                        exact absurd H (by simp)
                                    · rw [if_neg c86] at H
                                      have c86b0 : ((bt a0 x8_1) == (bt a1 x9_2)) = false := beq_eq_false_iff_ne.mpr c86
                                      have c86b1 : ((bt a0 x8_1) != (bt a1 x9_2)) = true := bne_iff_ne.mpr c86
                                      by_cases c98 : a1.toList = ([73, 78, 66, 79, 88] : List UInt8)
                                      · rw [if_pos c98] at H
                                        have c98b0 : (a1.toList == ([73, 78, 66, 79, 88] : List UInt8)) = true := beq_iff_eq.mpr c98
                                        have c98b1 : (a1.toList != ([73, 78, 66, 79, 88] : List UInt8)) = false := bne_eq_false_iff_eq.mpr c98
                                        clear c98
                                        have c99b0 := eq_true (of_decide_eq_true (by first | (with_reducible assumption) | assumption) : 0 ≤ x8_1)
                                        by_cases c100 : x8_1 ≤ (wrap64 (x8_1 + 1))
                                        · rw [if_pos c100] at H
                                          have c100b0 := eq_true c100
                                          have c100b1 : decide (x8_1 ≤ (wrap64 (x8_1 + 1))) = true := decide_eq_true c100
                                          by_cases c101 : (wrap64 (x8_1 + 1)) ≤ (a0.size : Int)
                                          · rw [if_pos c101] at H
                                            have c101b0 := eq_true c101
                                            have c101b1 : decide ((wrap64 (x8_1 + 1)) ≤ (a0.size : Int)) = true := decide_eq_true c101
                                            replace H := Option.bind_eq_some_iff.mp H
                                            obtain ⟨t130, A1020, H⟩ := H
                                            replace H : (if x9_2 ≤ (wrap64 (x9_2 + 1)) then (if (wrap64 (x9_2 + 1)) ≤ (a1.size : Int) then ((postbagref08_Small.f (a1.extract (x9_2 : Int).toNat ((wrap64 (x9_2 + 1)) : Int).toNat)).bind fun t131 => (if t130.toList = t131.toList then (if 0 ≤ (wrap64 ((wrap64 ((wrap64 ((wrap64 (x8_1 + 1)) * (wrap64 ((a1.size : Int) + 1)))) + x9_2)) + 1)) then (if (wrap64 ((wrap64 ((wrap64 ((wrap64 (x8_1 + 1)) * (wrap64 ((a1.size : Int) + 1)))) + x9_2)) + 1)) < (x7_2.length : Int) then (if 0 ≤ (wrap64 ((wrap64 (x8_1 * (wrap64 ((a1.size : Int) + 1)))) + x9_2)) then (if (wrap64 ((wrap64 (x8_1 * (wrap64 ((a1.size : Int) + 1)))) + x9_2)) < (x7_2.length : Int) then (postbagref13_Fits.l1 kj16 a0 a1 (wrap64 ((a0.size : Int) + 1)) (wrap64 ((a1.size : Int) + 1)) (x7_2.set ((wrap64 ((wrap64 (x8_1 * (wrap64 ((a1.size : Int) + 1)))) + x9_2)) : Int).toNat (rdOf false x7_2 (wrap64 ((wrap64 ((wrap64 ((wrap64 (x8_1 + 1)) * (wrap64 ((a1.size : Int) + 1)))) + x9_2)) + 1)))) x8_1 (wrap64 (x9_2 - 1))) else (none)) else (none)) else (none)) else (none)) else (if 0 ≤ (wrap64 ((wrap64 (x8_1 * (wrap64 ((a1.size : Int) + 1)))) + x9_2)) then (if (wrap64 ((wrap64 (x8_1 * (wrap64 ((a1.size : Int) + 1)))) + x9_2)) < (x7_2.length : Int) then (postbagref13_Fits.l1 kj16 a0 a1 (wrap64 ((a0.size : Int) + 1)) (wrap64 ((a1.size : Int) + 1)) (x7_2.set ((wrap64 ((wrap64 (x8_1 * (wrap64 ((a1.size : Int) + 1)))) + x9_2)) : Int).toNat false) x8_1 (wrap64 (x9_2 - 1))) else (none)) else (none)))) else (none)) else (none)) = some r := H
                                            have A102 := Aside0.mk A1020
                                            clear A1020
                                            have c103b0 := eq_true (of_decide_eq_true (by first | (with_reducible assumption) | assumption) : 0 ≤ x9_2)
                                            by_cases c104 : x9_2 ≤ (wrap64 (x9_2 + 1))
                                            · rw [if_pos c104] at H
                                              have c104b0 := eq_true c104
                                              have c104b1 : decide (x9_2 ≤ (wrap64 (x9_2 + 1))) = true := decide_eq_true c104
                                              by_cases c105 : (wrap64 (x9_2 + 1)) ≤ (a1.size : Int)
                                              · rw [if_pos c105] at H
                                                have c105b0 := eq_true c105
                                                have c105b1 : decide ((wrap64 (x9_2 + 1)) ≤ (a1.size : Int)) = true := decide_eq_true c105
                                                replace H := Option.bind_eq_some_iff.mp H
                                                obtain ⟨t131, A1060, H⟩ := H
                                                replace H : (if t130.toList = t131.toList then (if 0 ≤ (wrap64 ((wrap64 ((wrap64 ((wrap64 (x8_1 + 1)) * (wrap64 ((a1.size : Int) + 1)))) + x9_2)) + 1)) then (if (wrap64 ((wrap64 ((wrap64 ((wrap64 (x8_1 + 1)) * (wrap64 ((a1.size : Int) + 1)))) + x9_2)) + 1)) < (x7_2.length : Int) then (if 0 ≤ (wrap64 ((wrap64 (x8_1 * (wrap64 ((a1.size : Int) + 1)))) + x9_2)) then (if (wrap64 ((wrap64 (x8_1 * (wrap64 ((a1.size : Int) + 1)))) + x9_2)) < (x7_2.length : Int) then (postbagref13_Fits.l1 kj16 a0 a1 (wrap64 ((a0.size : Int) + 1)) (wrap64 ((a1.size : Int) + 1)) (x7_2.set ((wrap64 ((wrap64 (x8_1 * (wrap64 ((a1.size : Int) + 1)))) + x9_2)) : Int).toNat (rdOf false x7_2 (wrap64 ((wrap64 ((wrap64 ((wrap64 (x8_1 + 1)) * (wrap64 ((a1.size : Int) + 1)))) + x9_2)) + 1)))) x8_1 (wrap64 (x9_2 - 1))) else (none)) else (none)) else (none)) else (none)) else (if 0 ≤ (wrap64 ((wrap64 (x8_1 * (wrap64 ((a1.size : Int) + 1)))) + x9_2)) then (if (wrap64 ((wrap64 (x8_1 * (wrap64 ((a1.size : Int) + 1)))) + x9_2)) < (x7_2.length : Int) then (postbagref13_Fits.l1 kj16 a0 a1 (wrap64 ((a0.size : Int) + 1)) (wrap64 ((a1.size : Int) + 1)) (x7_2.set ((wrap64 ((wrap64 (x8_1 * (wrap64 ((a1.size : Int) + 1)))) + x9_2)) : Int).toNat false) x8_1 (wrap64 (x9_2 - 1))) else (none)) else (none))) = some r := H
                                                have A106 := Aside0.mk A1060
                                                clear A1060
                                                by_cases c107 : t130.toList = t131.toList
                                                · rw [if_pos c107] at H
                                                  have c107b0 : (t130.toList == t131.toList) = true := beq_iff_eq.mpr c107
                                                  have c107b1 : (t130.toList != t131.toList) = false := bne_eq_false_iff_eq.mpr c107
                                                  clear c107
                                                  obtain ⟨ji108, hji108⟩ : ∃ j_ : Int, (wrap64 ((wrap64 ((wrap64 ((wrap64 (x8_1 + 1)) * (wrap64 ((a1.size : Int) + 1)))) + x9_2)) + 1)) = j_ := ⟨_, rfl⟩
                                                  replace H : (if 0 ≤ (ji108) then (if (ji108) < (x7_2.length : Int) then (if 0 ≤ (wrap64 ((wrap64 (x8_1 * (wrap64 ((a1.size : Int) + 1)))) + x9_2)) then (if (wrap64 ((wrap64 (x8_1 * (wrap64 ((a1.size : Int) + 1)))) + x9_2)) < (x7_2.length : Int) then (postbagref13_Fits.l1 kj16 a0 a1 (wrap64 ((a0.size : Int) + 1)) (wrap64 ((a1.size : Int) + 1)) (x7_2.set ((wrap64 ((wrap64 (x8_1 * (wrap64 ((a1.size : Int) + 1)))) + x9_2)) : Int).toNat (rdOf false x7_2 (ji108))) x8_1 (wrap64 (x9_2 - 1))) else (none)) else (none)) else (none)) else (none)) = some r := by first | (rw [hji108] at H; exact H) | (simp only [hji108] at H ⊢; exact H)
                                                  (try rw [hji108] at A102)
                                                  (try rw [hji108] at A106)
                                                  have hji108w : (IntKind.i64.wrap ((wrap64 ((wrap64 ((wrap64 (x8_1 + 1)) * (wrap64 ((a1.size : Int) + 1)))) + x9_2)) + 1)) = ji108 := (i64_w _).trans hji108
                                                  by_cases c109 : 0 ≤ (ji108)
                                                  · rw [if_pos c109] at H
                                                    have c109b0 : decide (0 ≤ (ji108)) = true := decide_eq_true c109
                                                    clear c109
                                                    by_cases c110 : (ji108) < (x7_2.length : Int)
                                                    · rw [if_pos c110] at H
                                                      have c110b0 : decide ((ji108) < (x7_2.length : Int)) = true := decide_eq_true c110
                                                      clear c110
                                                      obtain ⟨ji111, hji111⟩ : ∃ j_ : Int, (wrap64 ((wrap64 (x8_1 * (wrap64 ((a1.size : Int) + 1)))) + x9_2)) = j_ := ⟨_, rfl⟩
                                                      replace H : (if 0 ≤ (ji111) then (if (ji111) < (x7_2.length : Int) then (postbagref13_Fits.l1 kj16 a0 a1 (wrap64 ((a0.size : Int) + 1)) (wrap64 ((a1.size : Int) + 1)) (x7_2.set ((ji111) : Int).toNat (rdOf false x7_2 (ji108))) x8_1 (wrap64 (x9_2 - 1))) else (none)) else (none)) = some r := by first | (rw [hji111] at H; exact H) | (simp only [hji111] at H ⊢; exact H)
                                                      (try rw [hji111] at A102)
                                                      (try rw [hji111] at A106)
                                                      have hji111w : (IntKind.i64.wrap ((wrap64 (x8_1 * (wrap64 ((a1.size : Int) + 1)))) + x9_2)) = ji111 := (i64_w _).trans hji111
                                                      by_cases c112 : 0 ≤ (ji111)
                                                      · rw [if_pos c112] at H
                                                        have c112b0 : decide (0 ≤ (ji111)) = true := decide_eq_true c112
                                                        clear c112
                                                        by_cases c113 : (ji111) < (x7_2.length : Int)
                                                        · rw [if_pos c113] at H
                                                          have c113b0 : decide ((ji111) < (x7_2.length : Int)) = true := decide_eq_true c113
                                                          clear c113
                                                          obtain ⟨y133, hy133⟩ : ∃ y_ : List Bool, y_ = (x7_2.set ((ji111) : Int).toNat (rdOf false x7_2 (ji108))) := ⟨_, rfl⟩
                                                          replace H : (postbagref13_Fits.l1 kj16 a0 a1 (wrap64 ((a0.size : Int) + 1)) (wrap64 ((a1.size : Int) + 1)) y133 x8_1 (wrap64 (x9_2 - 1))) = some r := by first | (rw [hy133]; with_reducible exact H) | (have H2_ := (Option.bind_some _ _).symm.trans H; rw [hy133]; with_reducible exact H2_) | (have H2_ := (Option.bind_some _ _).symm.trans H; with_reducible exact H2_) | with_reducible exact H | (rw [hy133]; exact H) | exact H
                                                          have Ny133 := Aside0.mk hy133
                                                          clear hy133
                                                          have H' := Aside0.mk H
                                                          clear H
                                                          try go_wp2
                                                          have n0_ := Aside0.mk (Kd.R_drew HO_7.out)
                                                          have n1_ := Aside0.mk (below_drew1 HB.out)
                                                          clear HO_7
                                                          clear HB
                                                          have HO_7 := n0_
                                                          have HB := n1_
                                                          clear n0_ n1_
                                                          have p82 : 0 ≤ (x8_1 : Int) := of_decide_eq_true (by first | (with_reducible assumption) | assumption)
                                                          have q82 : x8_1 < (a0.size : Int) := of_decide_eq_true (by first | (with_reducible assumption) | assumption)
                                                          have hx82 := bt_at a0 x8_1
                                                          replace p82 := eq_true p82
                                                          replace q82 := eq_true q82
                                                          have p85 : 0 ≤ (x9_2 : Int) := of_decide_eq_true (by first | (with_reducible assumption) | assumption)
                                                          have q85 : x9_2 < (a1.size : Int) := of_decide_eq_true (by first | (with_reducible assumption) | assumption)
                                                          have hx85 := bt_at a1 x9_2
                                                          replace p85 := eq_true p85
                                                          replace q85 := eq_true q85
                                                          refine start_ (n := 27) (S := fun w' => True) (ds := []) #[false, false, false, false, false, false, false, false, false, false, false, false, false, false, false, false, false, false, false, false, false, false, false, false, false, false, false] (by kernel_rfl) rfl rfl trivial (fun hHeld => ?_); refine with_tabW postbagref13_Fits.tab15 postbagref13_Fits.bits15 (fun HT_ HW_ => ?_)
                                                          generalize wc.drew = w115 at HO_7 HB hHeld ⊢
                                                          refine pure_ (i := 0) (N := some 97) (v := ?_) (a' := ?_) #[true, false, false, false, false, false, false, false, false, false, false, false, false, false, false, false, false, false, false, false, false, false, false, false, false, false, false] rfl rfl (any_of HT_.out (by kernel_rfl)) (fun _ _ _ h => h) (Or.inl ⟨by rfl, ?_⟩) ?_ ?_
                                                          rotate_left
                                                          · intro w'
                                                            go_simp
                                                            with_reducible rfl
                                                          rotate_left
                                                          · simp only [Act.put, List.setIfInBounds_toArray, List.set_cons_zero, List.set_cons_succ, i64_w, i32_w]
                                                            rfl
                                                          refine pure_ (i := 1) (N := some 98) (v := ?_) (a' := ?_) #[true, true, false, false, false, false, false, false, false, false, false, false, false, false, false, false, false, false, false, false, false, false, false, false, false, false, false] rfl rfl (any_of HT_.out (by kernel_rfl)) (fun _ _ _ h => h) (Or.inl ⟨by rfl, ?_⟩) ?_ ?_
                                                          rotate_left
                                                          · intro w'
                                                            go_simp
                                                            with_reducible rfl
                                                          rotate_left
                                                          · simp only [Act.put, List.setIfInBounds_toArray, List.set_cons_zero, List.set_cons_succ, i64_w, i32_w]
                                                            rfl
                                                          refine pure_ (i := 3) (N := some 100) (v := ?_) (a' := ?_) #[true, true, false, true, false, false, false, false, false, false, false, false, false, false, false, false, false, false, false, false, false, false, false, false, false, false, false] rfl rfl (any_of HT_.out (by kernel_rfl)) (fun _ _ _ h => h) (Or.inl ⟨by rfl, ?_⟩) ?_ ?_
                                                          rotate_left
                                                          · intro w'
                                                            go_simp
                                                            with_reducible rfl
                                                          rotate_left
                                                          · simp only [Act.put, List.setIfInBounds_toArray, List.set_cons_zero, List.set_cons_succ, i64_w, i32_w]
                                                            rfl
                                                          refine pure_ (i := 4) (N := some 101) (v := ?_) (a' := ?_) #[true, true, false, true, true, false, false, false, false, false, false, false, false, false, false, false, false, false, false, false, false, false, false, false, false, false, false] rfl rfl (any_of HT_.out (by kernel_rfl)) (fun _ _ _ h => h) (Or.inl ⟨by rfl, ?_⟩) ?_ ?_
                                                          rotate_left
                                                          · intro w'
                                                            go_simp
                                                            with_reducible rfl
                                                          rotate_left
                                                          · simp only [Act.put, List.setIfInBounds_toArray, List.set_cons_zero, List.set_cons_succ, i64_w, i32_w]
                                                            rfl
                                                          refine take_ (i := 2) (N := some 99) (v := ?_) (a' := ?_) #[true, true, true, true, true, false, false, false, false, false, false, false, false, false, false, false, false, false, false, false, false, false, false, false, false, false, false] rfl rfl (take_ofW HT_.out HW_.out (by kernel_rfl)) (fun _ _ _ h => h) (Or.inl ⟨by rfl, ?_⟩) hHeld ?_ ?_
                                                          rotate_left
                                                          · intro w' _
                                                            go_simp
                                                            with_reducible rfl
                                                          rotate_left
                                                          · simp only [Act.put, List.setIfInBounds_toArray, List.set_cons_zero, List.set_cons_succ, i64_w, i32_w]
                                                            rfl
                                                          refine take_ (i := 5) (N := some 102) (v := ?_) (a' := ?_) #[true, true, true, true, true, true, false, false, false, false, false, false, false, false, false, false, false, false, false, false, false, false, false, false, false, false, false] rfl rfl (take_ofW HT_.out HW_.out (by kernel_rfl)) (fun _ _ _ h => h) (Or.inl ⟨by rfl, ?_⟩) hHeld ?_ ?_
                                                          rotate_left
                                                          · intro w' _
                                                            go_simp
                                                            with_reducible rfl
                                                          rotate_left
                                                          · simp only [Act.put, List.setIfInBounds_toArray, List.set_cons_zero, List.set_cons_succ, i64_w, i32_w]
                                                            rfl
                                                          refine pure_ (i := 6) (N := some 103) (v := ?_) (a' := ?_) #[true, true, true, true, true, true, true, false, false, false, false, false, false, false, false, false, false, false, false, false, false, false, false, false, false, false, false] rfl rfl (any_of HT_.out (by kernel_rfl)) (fun _ _ _ h => h) (Or.inl ⟨by rfl, ?_⟩) ?_ ?_
                                                          rotate_left
                                                          · intro w'
                                                            go_simp
                                                            with_reducible rfl
                                                          rotate_left
                                                          · simp only [Act.put, List.setIfInBounds_toArray, List.set_cons_zero, List.set_cons_succ, i64_w, i32_w]
                                                            rfl
                                                          refine pure_ (i := 7) (N := some 104) (v := ?_) (a' := ?_) #[true, true, true, true, true, true, true, true, false, false, false, false, false, false, false, false, false, false, false, false, false, false, false, false, false, false, false] rfl rfl (any_of HT_.out (by kernel_rfl)) (fun _ _ _ h => h) (Or.inl ⟨by rfl, ?_⟩) ?_ ?_
                                                          rotate_left
                                                          · intro w'
                                                            go_simp
                                                            with_reducible rfl
                                                          rotate_left
                                                          · simp only [Act.put, List.setIfInBounds_toArray, List.set_cons_zero, List.set_cons_succ, i64_w, i32_w]
                                                            rfl
                                                          refine pure_ (i := 8) (N := some 105) (v := ?_) (a' := ?_) #[true, true, true, true, true, true, true, true, true, false, false, false, false, false, false, false, false, false, false, false, false, false, false, false, false, false, false] rfl rfl (any_of HT_.out (by kernel_rfl)) (fun _ _ _ h => h) (Or.inl ⟨by rfl, ?_⟩) ?_ ?_
                                                          rotate_left
                                                          · intro w'
                                                            go_simp
                                                            with_reducible rfl
                                                          rotate_left
                                                          · simp only [Act.put, List.setIfInBounds_toArray, List.set_cons_zero, List.set_cons_succ, i64_w, i32_w]
                                                            rfl
                                                          refine pure_ (i := 9) (N := some 106) (v := ?_) (a' := ?_) #[true, true, true, true, true, true, true, true, true, true, false, false, false, false, false, false, false, false, false, false, false, false, false, false, false, false, false] rfl rfl (any_of HT_.out (by kernel_rfl)) (fun _ _ _ h => h) (Or.inl ⟨by rfl, ?_⟩) ?_ ?_
                                                          rotate_left
                                                          · intro w'
                                                            go_simp
                                                            with_reducible rfl
                                                          rotate_left
                                                          · simp only [Act.put, List.setIfInBounds_toArray, List.set_cons_zero, List.set_cons_succ, i64_w, i32_w]
                                                            rfl
                                                          refine pure_ (i := 10) (N := some 107) (v := ?_) (a' := ?_) #[true, true, true, true, true, true, true, true, true, true, true, false, false, false, false, false, false, false, false, false, false, false, false, false, false, false, false] rfl rfl (any_of HT_.out (by kernel_rfl)) (fun _ _ _ h => h) (Or.inl ⟨by rfl, ?_⟩) ?_ ?_
                                                          rotate_left
                                                          · intro w'
                                                            go_simp
                                                            with_reducible rfl
                                                          rotate_left
                                                          · simp only [Act.put, List.setIfInBounds_toArray, List.set_cons_zero, List.set_cons_succ, i64_w, i32_w]
                                                            rfl
                                                          refine pure_ (i := 11) (N := some 108) (v := ?_) (a' := ?_) #[true, true, true, true, true, true, true, true, true, true, true, true, false, false, false, false, false, false, false, false, false, false, false, false, false, false, false] rfl rfl (any_of HT_.out (by kernel_rfl)) (fun _ _ _ h => h) (Or.inl ⟨by rfl, ?_⟩) ?_ ?_
                                                          rotate_left
                                                          · intro w'
                                                            go_simp
                                                            with_reducible rfl
                                                          rotate_left
                                                          · simp only [Act.put, List.setIfInBounds_toArray, List.set_cons_zero, List.set_cons_succ, i64_w, i32_w]
                                                            rfl
                                                          refine pure_ (i := 12) (N := some 109) (v := ?_) (a' := ?_) #[true, true, true, true, true, true, true, true, true, true, true, true, true, false, false, false, false, false, false, false, false, false, false, false, false, false, false] rfl rfl (any_of HT_.out (by kernel_rfl)) (fun _ _ _ h => h) (Or.inl ⟨by rfl, ?_⟩) ?_ ?_
                                                          rotate_left
                                                          · intro w'
                                                            go_simp
                                                            with_reducible rfl
                                                          rotate_left
                                                          · simp only [Act.put, List.setIfInBounds_toArray, List.set_cons_zero, List.set_cons_succ, i64_w, i32_w]
                                                            rfl
                                                          refine pure_ (i := 13) (N := some 110) (v := ?_) (a' := ?_) #[true, true, true, true, true, true, true, true, true, true, true, true, true, true, false, false, false, false, false, false, false, false, false, false, false, false, false] rfl rfl (any_of HT_.out (by kernel_rfl)) (fun _ _ _ h => h) (Or.inl ⟨by rfl, ?_⟩) ?_ ?_
                                                          rotate_left
                                                          · intro w'
                                                            go_simp
                                                            with_reducible rfl
                                                          rotate_left
                                                          · simp only [Act.put, List.setIfInBounds_toArray, List.set_cons_zero, List.set_cons_succ, i64_w, i32_w]
                                                            rfl
                                                          refine pure_ (i := 14) (N := some 111) (v := ?_) (a' := ?_) #[true, true, true, true, true, true, true, true, true, true, true, true, true, true, true, false, false, false, false, false, false, false, false, false, false, false, false] rfl rfl (any_of HT_.out (by kernel_rfl)) (fun _ _ _ h => h) (Or.inl ⟨by rfl, ?_⟩) ?_ ?_
                                                          rotate_left
                                                          · intro w'
                                                            go_simp
                                                            with_reducible rfl
                                                          rotate_left
                                                          · simp only [Act.put, List.setIfInBounds_toArray, List.set_cons_zero, List.set_cons_succ, i64_w, i32_w]
                                                            rfl
                                                          refine pure_ (i := 15) (N := some 112) (v := ?_) (a' := ?_) #[true, true, true, true, true, true, true, true, true, true, true, true, true, true, true, true, false, false, false, false, false, false, false, false, false, false, false] rfl rfl (any_of HT_.out (by kernel_rfl)) (fun _ _ _ h => h) (Or.inl ⟨by rfl, ?_⟩) ?_ ?_
                                                          rotate_left
                                                          · intro w'
                                                            go_simp
                                                            with_reducible rfl
                                                          rotate_left
                                                          · simp only [Act.put, List.setIfInBounds_toArray, List.set_cons_zero, List.set_cons_succ, i64_w, i32_w]
                                                            rfl
                                                          refine pure_ (i := 17) (N := some 114) (v := ?_) (a' := ?_) #[true, true, true, true, true, true, true, true, true, true, true, true, true, true, true, true, false, true, false, false, false, false, false, false, false, false, false] rfl rfl (any_of HT_.out (by kernel_rfl)) (fun _ _ _ h => h) (Or.inl ⟨by rfl, ?_⟩) ?_ ?_
                                                          rotate_left
                                                          · intro w'
                                                            go_simp
                                                            with_reducible rfl
                                                          rotate_left
                                                          · simp only [Act.put, List.setIfInBounds_toArray, List.set_cons_zero, List.set_cons_succ, i64_w, i32_w]
                                                            rfl
                                                          refine pure_ (i := 18) (N := some 115) (v := ?_) (a' := ?_) #[true, true, true, true, true, true, true, true, true, true, true, true, true, true, true, true, false, true, true, false, false, false, false, false, false, false, false] rfl rfl (any_of HT_.out (by kernel_rfl)) (fun _ _ _ h => h) (Or.inl ⟨by rfl, ?_⟩) ?_ ?_
                                                          rotate_left
                                                          · intro w'
                                                            go_simp
                                                            with_reducible rfl
                                                          rotate_left
                                                          · simp only [Act.put, List.setIfInBounds_toArray, List.set_cons_zero, List.set_cons_succ, i64_w, i32_w]
                                                            rfl
                                                          refine pure_ (i := 19) (N := some 116) (v := ?_) (a' := ?_) #[true, true, true, true, true, true, true, true, true, true, true, true, true, true, true, true, false, true, true, true, false, false, false, false, false, false, false] rfl rfl (any_of HT_.out (by kernel_rfl)) (fun _ _ _ h => h) (Or.inl ⟨by rfl, ?_⟩) ?_ ?_
                                                          rotate_left
                                                          · intro w'
                                                            go_simp
                                                            with_reducible rfl
                                                          rotate_left
                                                          · simp only [Act.put, List.setIfInBounds_toArray, List.set_cons_zero, List.set_cons_succ, i64_w, i32_w]
                                                            rfl
                                                          refine pure_ (i := 20) (N := some 117) (v := ?_) (a' := ?_) #[true, true, true, true, true, true, true, true, true, true, true, true, true, true, true, true, false, true, true, true, true, false, false, false, false, false, false] rfl rfl (any_of HT_.out (by kernel_rfl)) (fun _ _ _ h => h) (Or.inl ⟨by rfl, ?_⟩) ?_ ?_
                                                          rotate_left
                                                          · intro w'
                                                            go_simp
                                                            with_reducible rfl
                                                          rotate_left
                                                          · simp only [Act.put, List.setIfInBounds_toArray, List.set_cons_zero, List.set_cons_succ, i64_w, i32_w]
                                                            rfl
                                                          refine pure_ (i := 21) (N := some 118) (v := ?_) (a' := ?_) #[true, true, true, true, true, true, true, true, true, true, true, true, true, true, true, true, false, true, true, true, true, true, false, false, false, false, false] rfl rfl (any_of HT_.out (by kernel_rfl)) (fun _ _ _ h => h) (Or.inl ⟨by rfl, ?_⟩) ?_ ?_
                                                          rotate_left
                                                          · intro w'
                                                            go_simp
                                                            with_reducible rfl
                                                          rotate_left
                                                          · simp only [Act.put, List.setIfInBounds_toArray, List.set_cons_zero, List.set_cons_succ, i64_w, i32_w]
                                                            rfl
                                                          refine one_ (i := 16) (N := some 113) #[true, true, true, true, true, true, true, true, true, true, true, true, true, true, true, true, true, true, true, true, true, true, false, false, false, false, false] rfl rfl (one_of HT_.out (by kernel_rfl)) (by decide) (fun K hK => ?_)
                                                          refine goes_ Try.func18 (by kernel_rfl) rfl #[.string (a0.extract (x8_1 : Int).toNat ((wrap64 (x8_1 + 1)) : Int).toNat)] (by rfl) rfl rfl (by (try simp only [List.map_toArray, List.map_cons, List.map_nil]); first | done | rfl | (simp only [List.length_drop, List.length_take]; rfl)) ?_
                                                          with_reducible refine (postbagref08_Small.calls (a0.extract (x8_1 : Int).toNat ((wrap64 (x8_1 + 1)) : Int).toNat) t130 _ A102.out).mono ?_
                                                          rintro e w116 ⟨rfl, hb⟩
                                                          refine ⟨_, rfl, ?_⟩
                                                          have n0_ := Aside0.mk (Kd.R_below (by (with_reducible repeat (first | apply Kd.R_alloc | apply Kd.R_drewN | apply Kd.R_drew)); exact HO_7.out) hb)
                                                          have n1_ := Aside0.mk (below_step (by repeat (first | (with_reducible first | exact HB.out | apply below_alloc | apply pw_below_drewN | apply below_drew1) | exact HB.out | exact Below.refl _ _)) hb)
                                                          clear HO_7
                                                          clear HB
                                                          have HO_7 := n0_
                                                          have HB := n1_
                                                          clear n0_ n1_
                                                          (try clear hb)
                                                          (try clear hb2)
                                                          (try clear hk)
                                                          (try clear hi)
                                                          refine hK.out _ _ trivial (fun hHeld => ?_)
                                                          clear hK K
                                                          refine norm_ (a' := ?_) ?_ ?_
                                                          rotate_left
                                                          · show Act.put _ (some 113) _ = _
                                                            simp only [Act.put, List.setIfInBounds_toArray, List.set_cons_zero, List.set_cons_succ, i64_w, i32_w]
                                                            rfl
                                                          refine one_ (i := 22) (N := some 119) #[true, true, true, true, true, true, true, true, true, true, true, true, true, true, true, true, true, true, true, true, true, true, true, false, false, false, false] rfl rfl (one_of HT_.out (by kernel_rfl)) (by decide) (fun K hK => ?_)
                                                          refine goes_ Try.func18 (by kernel_rfl) rfl #[.string (a1.extract (x9_2 : Int).toNat ((wrap64 (x9_2 + 1)) : Int).toNat)] (by rfl) rfl rfl (by (try simp only [List.map_toArray, List.map_cons, List.map_nil]); first | done | rfl | (simp only [List.length_drop, List.length_take]; rfl)) ?_
                                                          with_reducible refine (postbagref08_Small.calls (a1.extract (x9_2 : Int).toNat ((wrap64 (x9_2 + 1)) : Int).toNat) t131 _ A106.out).mono ?_
                                                          rintro e w117 ⟨rfl, hb⟩
                                                          refine ⟨_, rfl, ?_⟩
                                                          have n0_ := Aside0.mk (Kd.R_below (by (with_reducible repeat (first | apply Kd.R_alloc | apply Kd.R_drewN | apply Kd.R_drew)); exact HO_7.out) hb)
                                                          have n1_ := Aside0.mk (below_step (by repeat (first | (with_reducible first | exact HB.out | apply below_alloc | apply pw_below_drewN | apply below_drew1) | exact HB.out | exact Below.refl _ _)) hb)
                                                          clear HO_7
                                                          clear HB
                                                          have HO_7 := n0_
                                                          have HB := n1_
                                                          clear n0_ n1_
                                                          (try clear hb)
                                                          (try clear hb2)
                                                          (try clear hk)
                                                          (try clear hi)
                                                          refine hK.out _ _ trivial (fun hHeld => ?_)
                                                          clear hK K
                                                          refine norm_ (a' := ?_) ?_ ?_
                                                          rotate_left
                                                          · show Act.put _ (some 119) _ = _
                                                            simp only [Act.put, List.setIfInBounds_toArray, List.set_cons_zero, List.set_cons_succ, i64_w, i32_w]
                                                            rfl
                                                          refine pure_ (i := 23) (N := some 120) (v := ?_) (a' := ?_) #[true, true, true, true, true, true, true, true, true, true, true, true, true, true, true, true, true, true, true, true, true, true, true, true, false, false, false] rfl rfl (any_of HT_.out (by kernel_rfl)) (fun _ _ _ h => h) (Or.inl ⟨by rfl, ?_⟩) ?_ ?_
                                                          rotate_left
                                                          · intro w'
                                                            go_simp
                                                            with_reducible rfl
                                                          rotate_left
                                                          · simp only [Act.put, List.setIfInBounds_toArray, List.set_cons_zero, List.set_cons_succ, i64_w, i32_w]
                                                            rfl
                                                          refine pure_ (i := 24) (N := some 121) (v := ?_) (a' := ?_) #[true, true, true, true, true, true, true, true, true, true, true, true, true, true, true, true, true, true, true, true, true, true, true, true, true, false, false] rfl rfl (any_of HT_.out (by kernel_rfl)) (fun _ _ _ h => h) (Or.inl ⟨by rfl, ?_⟩) ?_ ?_
                                                          rotate_left
                                                          · intro w'
                                                            go_simp
                                                            with_reducible rfl
                                                          rotate_left
                                                          · simp only [Act.put, List.setIfInBounds_toArray, List.set_cons_zero, List.set_cons_succ, i64_w, i32_w]
                                                            rfl
                                                          refine pure_ (i := 25) (N := some 122) (v := ?_) (a' := ?_) #[true, true, true, true, true, true, true, true, true, true, true, true, true, true, true, true, true, true, true, true, true, true, true, true, true, true, false] rfl rfl (any_of HT_.out (by kernel_rfl)) (fun _ _ _ h => h) (Or.inl ⟨by rfl, ?_⟩) ?_ ?_
                                                          rotate_left
                                                          · intro w'
                                                            go_simp
                                                            with_reducible rfl
                                                          rotate_left
                                                          · simp only [Act.put, List.setIfInBounds_toArray, List.set_cons_zero, List.set_cons_succ, i64_w, i32_w]
                                                            rfl
                                                          refine pure_ (i := 26) (N := some 11) (v := ?_) (a' := ?_) #[true, true, true, true, true, true, true, true, true, true, true, true, true, true, true, true, true, true, true, true, true, true, true, true, true, true, true] rfl rfl (any_of HT_.out (by kernel_rfl)) (fun _ _ _ h => h) (Or.inl ⟨by rfl, ?_⟩) ?_ ?_
                                                          rotate_left
                                                          · intro w'
                                                            go_simp
                                                            with_reducible rfl
                                                          rotate_left
                                                          · simp only [Act.put, List.setIfInBounds_toArray, List.set_cons_zero, List.set_cons_succ, i64_w, i32_w]
                                                            rfl
                                                          refine done_ (done_of HT_.out (by kernel_rfl)) ?_
                                                          obtain ⟨Ao118, co118, eo118⟩ := Kd.R_slice HO_7.out
                                                          subst eo118
                                                          have p132 : 0 ≤ ((ji108) : Int) := of_decide_eq_true (by first | (with_reducible assumption) | assumption)
                                                          have q132 : (ji108) < (x7_2.length : Int) := of_decide_eq_true (by first | (with_reducible assumption) | assumption)
                                                          obtain ⟨ad132, e132, hx132_0⟩ := Kd.at_bool (Kd.R_reads' HO_7.out).2.2 (ji108) p132 q132
                                                          cases e132
                                                          replace p132 := eq_true p132
                                                          replace q132 := eq_true q132
                                                          have p114 : 0 ≤ ((ji111) : Int) := of_decide_eq_true (by first | (with_reducible assumption) | assumption)
                                                          have q114 : ((ji111) : Int) < ((x7_2.length : Int) : Int) := of_decide_eq_true (by first | (with_reducible assumption) | assumption)
                                                          obtain ⟨go114, co114, eo114, gb114, gl114, cl114, HG114⟩ := Kd.R_form HO_7.out (by omega)
                                                          (first | cases eo114 | (injection eo114 with ea_ en_ ec_; (first | subst ea_ | (injection ea_ with ea_; subst ea_)); subst ec_; clear en_))
                                                          have GB114 := Aside0.mk gb114
                                                          have GG114 := Aside0.mk HG114
                                                          clear gb114 gl114 HG114
                                                          (first | simp only [add_plain] at hx132_0 | skip)
                                                          obtain ⟨hx114_0, hf114_0⟩ := Kd.R_celln false HO_7.out ((ji111) : Int) p114 q114
                                                          replace p114 := eq_true p114
                                                          replace q114 := eq_true q114
                                                          obtain ⟨hy119_, hz119_⟩ := Kd.R_celln false HO_7.out ((ji111) : Int) (of_decide_eq_true (by first | (with_reducible assumption) | assumption)) (of_decide_eq_true (by first | (with_reducible assumption) | assumption))
                                                          have HP119 := Kd.R_putg HO_7.out ((ji111) : Int) (rdOf false x7_2 (ji108))
                                                          try go_wp2_with (first | ((with_reducible refine gate_store (t := 4) (p := 143) rfl ?_); refine store_event (t := 4) (p := 143) (v := ?vo_w120) (w1 := (w117.setCell ⟨go114, ((ji111) : Int).toNat, none⟩ (.bool (rdOf false x7_2 (ji108))))) ?hg ?ho ?hn ?hr ?_; (case ho => rfl); (case hg => rfl); (case hn => rfl); (case hr => first | (go_simp; done) | (go_simp; rfl)); intro w120 hw; have hg : w117.grownBy w120 (some go114) := (by rw [hw]; exact HP119.2); have hp_ : Kd.R Kd.bool 4 w120 w.heap.size (fun _ => True) (.slice (some ⟨go114, 0, none⟩) x7_2.length co118) y133 := (by rw [hw, Ny133.out]; exact HP119.1); clear HP119; have n0_ := Aside0.mk (hp_); have n1_ := Aside0.mk ((by rw [hw]; exact below_set (HB.out) GB114.out : Below w.heap.size w w120)); clear HO_7; clear HB; have HO_7 := n0_; have HB := n1_; clear n0_ n1_; clear hg hw hp_))
                                                          go_roundg kj16
                                                          case measure => have := HK1.out; have := HK2.out; have := HJ16.out; omega
                                                          case rel => exact ⟨(y133), (wrap64 (x9_2 - 1)), (by first | rfl | (simp; done) | (simp [*]; done)), H', ⟨by have := HK1.out; have := HK2.out; have := HJ16.out; omega⟩, ⟨by (with_reducible repeat (first | apply Kd.R_alloc | apply Kd.R_drewN | apply Kd.R_drew)); exact HO_7.out⟩, ⟨by repeat (first | (with_reducible first | exact HB.out | apply below_alloc | apply pw_below_drewN | apply below_drew1) | exact HB.out | exact Below.refl _ _)⟩⟩
                                                        · rw [if_neg c113] at H
                                                          exact absurd H (by simp)
                                                      · rw [if_neg c112] at H
                                                        exact absurd H (by simp)
                                                    · rw [if_neg c110] at H
                                                      exact absurd H (by simp)
                                                  · rw [if_neg c109] at H
                                                    exact absurd H (by simp)
                                                · rw [if_neg c107] at H
                                                  have c107b0 : (t130.toList == t131.toList) = false := beq_eq_false_iff_ne.mpr c107
                                                  have c107b1 : (t130.toList != t131.toList) = true := bne_iff_ne.mpr c107
                                                  obtain ⟨ji121, hji121⟩ : ∃ j_ : Int, (wrap64 ((wrap64 (x8_1 * (wrap64 ((a1.size : Int) + 1)))) + x9_2)) = j_ := ⟨_, rfl⟩
                                                  replace H : (if 0 ≤ (ji121) then (if (ji121) < (x7_2.length : Int) then (postbagref13_Fits.l1 kj16 a0 a1 (wrap64 ((a0.size : Int) + 1)) (wrap64 ((a1.size : Int) + 1)) (x7_2.set ((ji121) : Int).toNat false) x8_1 (wrap64 (x9_2 - 1))) else (none)) else (none)) = some r := by first | (rw [hji121] at H; exact H) | (simp only [hji121] at H ⊢; exact H)
                                                  (try rw [hji121] at A102)
                                                  (try rw [hji121] at A106)
                                                  have hji121w : (IntKind.i64.wrap ((wrap64 (x8_1 * (wrap64 ((a1.size : Int) + 1)))) + x9_2)) = ji121 := (i64_w _).trans hji121
                                                  by_cases c122 : 0 ≤ (ji121)
                                                  · rw [if_pos c122] at H
                                                    have c122b0 : decide (0 ≤ (ji121)) = true := decide_eq_true c122
                                                    clear c122
                                                    by_cases c123 : (ji121) < (x7_2.length : Int)
                                                    · rw [if_pos c123] at H
                                                      have c123b0 : decide ((ji121) < (x7_2.length : Int)) = true := decide_eq_true c123
                                                      clear c123
                                                      obtain ⟨y134, hy134⟩ : ∃ y_ : List Bool, y_ = (x7_2.set ((ji121) : Int).toNat false) := ⟨_, rfl⟩
                                                      replace H : (postbagref13_Fits.l1 kj16 a0 a1 (wrap64 ((a0.size : Int) + 1)) (wrap64 ((a1.size : Int) + 1)) y134 x8_1 (wrap64 (x9_2 - 1))) = some r := by first | (rw [hy134]; with_reducible exact H) | (have H2_ := (Option.bind_some _ _).symm.trans H; rw [hy134]; with_reducible exact H2_) | (have H2_ := (Option.bind_some _ _).symm.trans H; with_reducible exact H2_) | with_reducible exact H | (rw [hy134]; exact H) | exact H
                                                      have Ny134 := Aside0.mk hy134
                                                      clear hy134
                                                      have H' := Aside0.mk H
                                                      clear H
                                                      try go_wp2
                                                      have n0_ := Aside0.mk (Kd.R_drew HO_7.out)
                                                      have n1_ := Aside0.mk (below_drew1 HB.out)
                                                      clear HO_7
                                                      clear HB
                                                      have HO_7 := n0_
                                                      have HB := n1_
                                                      clear n0_ n1_
                                                      have p82 : 0 ≤ (x8_1 : Int) := of_decide_eq_true (by first | (with_reducible assumption) | assumption)
                                                      have q82 : x8_1 < (a0.size : Int) := of_decide_eq_true (by first | (with_reducible assumption) | assumption)
                                                      have hx82 := bt_at a0 x8_1
                                                      replace p82 := eq_true p82
                                                      replace q82 := eq_true q82
                                                      have p85 : 0 ≤ (x9_2 : Int) := of_decide_eq_true (by first | (with_reducible assumption) | assumption)
                                                      have q85 : x9_2 < (a1.size : Int) := of_decide_eq_true (by first | (with_reducible assumption) | assumption)
                                                      have hx85 := bt_at a1 x9_2
                                                      replace p85 := eq_true p85
                                                      replace q85 := eq_true q85
                                                      refine start_ (n := 27) (S := fun w' => True) (ds := []) #[false, false, false, false, false, false, false, false, false, false, false, false, false, false, false, false, false, false, false, false, false, false, false, false, false, false, false] (by kernel_rfl) rfl rfl trivial (fun hHeld => ?_); refine with_tabW postbagref13_Fits.tab15 postbagref13_Fits.bits15 (fun HT_ HW_ => ?_)
                                                      generalize wc.drew = w125 at HO_7 HB hHeld ⊢
                                                      refine pure_ (i := 0) (N := some 97) (v := ?_) (a' := ?_) #[true, false, false, false, false, false, false, false, false, false, false, false, false, false, false, false, false, false, false, false, false, false, false, false, false, false, false] rfl rfl (any_of HT_.out (by kernel_rfl)) (fun _ _ _ h => h) (Or.inl ⟨by rfl, ?_⟩) ?_ ?_
                                                      rotate_left
                                                      · intro w'
                                                        go_simp
                                                        with_reducible rfl
                                                      rotate_left
                                                      · simp only [Act.put, List.setIfInBounds_toArray, List.set_cons_zero, List.set_cons_succ, i64_w, i32_w]
                                                        rfl
                                                      refine pure_ (i := 1) (N := some 98) (v := ?_) (a' := ?_) #[true, true, false, false, false, false, false, false, false, false, false, false, false, false, false, false, false, false, false, false, false, false, false, false, false, false, false] rfl rfl (any_of HT_.out (by kernel_rfl)) (fun _ _ _ h => h) (Or.inl ⟨by rfl, ?_⟩) ?_ ?_
                                                      rotate_left
                                                      · intro w'
                                                        go_simp
                                                        with_reducible rfl
                                                      rotate_left
                                                      · simp only [Act.put, List.setIfInBounds_toArray, List.set_cons_zero, List.set_cons_succ, i64_w, i32_w]
                                                        rfl
                                                      refine pure_ (i := 3) (N := some 100) (v := ?_) (a' := ?_) #[true, true, false, true, false, false, false, false, false, false, false, false, false, false, false, false, false, false, false, false, false, false, false, false, false, false, false] rfl rfl (any_of HT_.out (by kernel_rfl)) (fun _ _ _ h => h) (Or.inl ⟨by rfl, ?_⟩) ?_ ?_
                                                      rotate_left
                                                      · intro w'
                                                        go_simp
                                                        with_reducible rfl
                                                      rotate_left
                                                      · simp only [Act.put, List.setIfInBounds_toArray, List.set_cons_zero, List.set_cons_succ, i64_w, i32_w]
                                                        rfl
                                                      refine pure_ (i := 4) (N := some 101) (v := ?_) (a' := ?_) #[true, true, false, true, true, false, false, false, false, false, false, false, false, false, false, false, false, false, false, false, false, false, false, false, false, false, false] rfl rfl (any_of HT_.out (by kernel_rfl)) (fun _ _ _ h => h) (Or.inl ⟨by rfl, ?_⟩) ?_ ?_
                                                      rotate_left
                                                      · intro w'
                                                        go_simp
                                                        with_reducible rfl
                                                      rotate_left
                                                      · simp only [Act.put, List.setIfInBounds_toArray, List.set_cons_zero, List.set_cons_succ, i64_w, i32_w]
                                                        rfl
                                                      refine take_ (i := 2) (N := some 99) (v := ?_) (a' := ?_) #[true, true, true, true, true, false, false, false, false, false, false, false, false, false, false, false, false, false, false, false, false, false, false, false, false, false, false] rfl rfl (take_ofW HT_.out HW_.out (by kernel_rfl)) (fun _ _ _ h => h) (Or.inl ⟨by rfl, ?_⟩) hHeld ?_ ?_
                                                      rotate_left
                                                      · intro w' _
                                                        go_simp
                                                        with_reducible rfl
                                                      rotate_left
                                                      · simp only [Act.put, List.setIfInBounds_toArray, List.set_cons_zero, List.set_cons_succ, i64_w, i32_w]
                                                        rfl
                                                      refine take_ (i := 5) (N := some 102) (v := ?_) (a' := ?_) #[true, true, true, true, true, true, false, false, false, false, false, false, false, false, false, false, false, false, false, false, false, false, false, false, false, false, false] rfl rfl (take_ofW HT_.out HW_.out (by kernel_rfl)) (fun _ _ _ h => h) (Or.inl ⟨by rfl, ?_⟩) hHeld ?_ ?_
                                                      rotate_left
                                                      · intro w' _
                                                        go_simp
                                                        with_reducible rfl
                                                      rotate_left
                                                      · simp only [Act.put, List.setIfInBounds_toArray, List.set_cons_zero, List.set_cons_succ, i64_w, i32_w]
                                                        rfl
                                                      refine pure_ (i := 6) (N := some 103) (v := ?_) (a' := ?_) #[true, true, true, true, true, true, true, false, false, false, false, false, false, false, false, false, false, false, false, false, false, false, false, false, false, false, false] rfl rfl (any_of HT_.out (by kernel_rfl)) (fun _ _ _ h => h) (Or.inl ⟨by rfl, ?_⟩) ?_ ?_
                                                      rotate_left
                                                      · intro w'
                                                        go_simp
                                                        with_reducible rfl
                                                      rotate_left
                                                      · simp only [Act.put, List.setIfInBounds_toArray, List.set_cons_zero, List.set_cons_succ, i64_w, i32_w]
                                                        rfl
                                                      refine pure_ (i := 7) (N := some 104) (v := ?_) (a' := ?_) #[true, true, true, true, true, true, true, true, false, false, false, false, false, false, false, false, false, false, false, false, false, false, false, false, false, false, false] rfl rfl (any_of HT_.out (by kernel_rfl)) (fun _ _ _ h => h) (Or.inl ⟨by rfl, ?_⟩) ?_ ?_
                                                      rotate_left
                                                      · intro w'
                                                        go_simp
                                                        with_reducible rfl
                                                      rotate_left
                                                      · simp only [Act.put, List.setIfInBounds_toArray, List.set_cons_zero, List.set_cons_succ, i64_w, i32_w]
                                                        rfl
                                                      refine pure_ (i := 8) (N := some 105) (v := ?_) (a' := ?_) #[true, true, true, true, true, true, true, true, true, false, false, false, false, false, false, false, false, false, false, false, false, false, false, false, false, false, false] rfl rfl (any_of HT_.out (by kernel_rfl)) (fun _ _ _ h => h) (Or.inl ⟨by rfl, ?_⟩) ?_ ?_
                                                      rotate_left
                                                      · intro w'
                                                        go_simp
                                                        with_reducible rfl
                                                      rotate_left
                                                      · simp only [Act.put, List.setIfInBounds_toArray, List.set_cons_zero, List.set_cons_succ, i64_w, i32_w]
                                                        rfl
                                                      refine pure_ (i := 9) (N := some 106) (v := ?_) (a' := ?_) #[true, true, true, true, true, true, true, true, true, true, false, false, false, false, false, false, false, false, false, false, false, false, false, false, false, false, false] rfl rfl (any_of HT_.out (by kernel_rfl)) (fun _ _ _ h => h) (Or.inl ⟨by rfl, ?_⟩) ?_ ?_
                                                      rotate_left
                                                      · intro w'
                                                        go_simp
                                                        with_reducible rfl
                                                      rotate_left
                                                      · simp only [Act.put, List.setIfInBounds_toArray, List.set_cons_zero, List.set_cons_succ, i64_w, i32_w]
                                                        rfl
                                                      refine pure_ (i := 10) (N := some 107) (v := ?_) (a' := ?_) #[true, true, true, true, true, true, true, true, true, true, true, false, false, false, false, false, false, false, false, false, false, false, false, false, false, false, false] rfl rfl (any_of HT_.out (by kernel_rfl)) (fun _ _ _ h => h) (Or.inl ⟨by rfl, ?_⟩) ?_ ?_
                                                      rotate_left
                                                      · intro w'
                                                        go_simp
                                                        with_reducible rfl
                                                      rotate_left
                                                      · simp only [Act.put, List.setIfInBounds_toArray, List.set_cons_zero, List.set_cons_succ, i64_w, i32_w]
                                                        rfl
                                                      refine pure_ (i := 11) (N := some 108) (v := ?_) (a' := ?_) #[true, true, true, true, true, true, true, true, true, true, true, true, false, false, false, false, false, false, false, false, false, false, false, false, false, false, false] rfl rfl (any_of HT_.out (by kernel_rfl)) (fun _ _ _ h => h) (Or.inl ⟨by rfl, ?_⟩) ?_ ?_
                                                      rotate_left
                                                      · intro w'
                                                        go_simp
                                                        with_reducible rfl
                                                      rotate_left
                                                      · simp only [Act.put, List.setIfInBounds_toArray, List.set_cons_zero, List.set_cons_succ, i64_w, i32_w]
                                                        rfl
                                                      refine pure_ (i := 12) (N := some 109) (v := ?_) (a' := ?_) #[true, true, true, true, true, true, true, true, true, true, true, true, true, false, false, false, false, false, false, false, false, false, false, false, false, false, false] rfl rfl (any_of HT_.out (by kernel_rfl)) (fun _ _ _ h => h) (Or.inl ⟨by rfl, ?_⟩) ?_ ?_
                                                      rotate_left
                                                      · intro w'
                                                        go_simp
                                                        with_reducible rfl
                                                      rotate_left
                                                      · simp only [Act.put, List.setIfInBounds_toArray, List.set_cons_zero, List.set_cons_succ, i64_w, i32_w]
                                                        rfl
                                                      refine pure_ (i := 13) (N := some 110) (v := ?_) (a' := ?_) #[true, true, true, true, true, true, true, true, true, true, true, true, true, true, false, false, false, false, false, false, false, false, false, false, false, false, false] rfl rfl (any_of HT_.out (by kernel_rfl)) (fun _ _ _ h => h) (Or.inl ⟨by rfl, ?_⟩) ?_ ?_
                                                      rotate_left
                                                      · intro w'
                                                        go_simp
                                                        with_reducible rfl
                                                      rotate_left
                                                      · simp only [Act.put, List.setIfInBounds_toArray, List.set_cons_zero, List.set_cons_succ, i64_w, i32_w]
                                                        rfl
                                                      refine pure_ (i := 14) (N := some 111) (v := ?_) (a' := ?_) #[true, true, true, true, true, true, true, true, true, true, true, true, true, true, true, false, false, false, false, false, false, false, false, false, false, false, false] rfl rfl (any_of HT_.out (by kernel_rfl)) (fun _ _ _ h => h) (Or.inl ⟨by rfl, ?_⟩) ?_ ?_
                                                      rotate_left
                                                      · intro w'
                                                        go_simp
                                                        with_reducible rfl
                                                      rotate_left
                                                      · simp only [Act.put, List.setIfInBounds_toArray, List.set_cons_zero, List.set_cons_succ, i64_w, i32_w]
                                                        rfl
                                                      refine pure_ (i := 15) (N := some 112) (v := ?_) (a' := ?_) #[true, true, true, true, true, true, true, true, true, true, true, true, true, true, true, true, false, false, false, false, false, false, false, false, false, false, false] rfl rfl (any_of HT_.out (by kernel_rfl)) (fun _ _ _ h => h) (Or.inl ⟨by rfl, ?_⟩) ?_ ?_
                                                      rotate_left
                                                      · intro w'
                                                        go_simp
                                                        with_reducible rfl
                                                      rotate_left
                                                      · simp only [Act.put, List.setIfInBounds_toArray, List.set_cons_zero, List.set_cons_succ, i64_w, i32_w]
                                                        rfl
                                                      refine pure_ (i := 17) (N := some 114) (v := ?_) (a' := ?_) #[true, true, true, true, true, true, true, true, true, true, true, true, true, true, true, true, false, true, false, false, false, false, false, false, false, false, false] rfl rfl (any_of HT_.out (by kernel_rfl)) (fun _ _ _ h => h) (Or.inl ⟨by rfl, ?_⟩) ?_ ?_
                                                      rotate_left
                                                      · intro w'
                                                        go_simp
                                                        with_reducible rfl
                                                      rotate_left
                                                      · simp only [Act.put, List.setIfInBounds_toArray, List.set_cons_zero, List.set_cons_succ, i64_w, i32_w]
                                                        rfl
                                                      refine pure_ (i := 18) (N := some 115) (v := ?_) (a' := ?_) #[true, true, true, true, true, true, true, true, true, true, true, true, true, true, true, true, false, true, true, false, false, false, false, false, false, false, false] rfl rfl (any_of HT_.out (by kernel_rfl)) (fun _ _ _ h => h) (Or.inl ⟨by rfl, ?_⟩) ?_ ?_
                                                      rotate_left
                                                      · intro w'
                                                        go_simp
                                                        with_reducible rfl
                                                      rotate_left
                                                      · simp only [Act.put, List.setIfInBounds_toArray, List.set_cons_zero, List.set_cons_succ, i64_w, i32_w]
                                                        rfl
                                                      refine pure_ (i := 19) (N := some 116) (v := ?_) (a' := ?_) #[true, true, true, true, true, true, true, true, true, true, true, true, true, true, true, true, false, true, true, true, false, false, false, false, false, false, false] rfl rfl (any_of HT_.out (by kernel_rfl)) (fun _ _ _ h => h) (Or.inl ⟨by rfl, ?_⟩) ?_ ?_
                                                      rotate_left
                                                      · intro w'
                                                        go_simp
                                                        with_reducible rfl
                                                      rotate_left
                                                      · simp only [Act.put, List.setIfInBounds_toArray, List.set_cons_zero, List.set_cons_succ, i64_w, i32_w]
                                                        rfl
                                                      refine pure_ (i := 20) (N := some 117) (v := ?_) (a' := ?_) #[true, true, true, true, true, true, true, true, true, true, true, true, true, true, true, true, false, true, true, true, true, false, false, false, false, false, false] rfl rfl (any_of HT_.out (by kernel_rfl)) (fun _ _ _ h => h) (Or.inl ⟨by rfl, ?_⟩) ?_ ?_
                                                      rotate_left
                                                      · intro w'
                                                        go_simp
                                                        with_reducible rfl
                                                      rotate_left
                                                      · simp only [Act.put, List.setIfInBounds_toArray, List.set_cons_zero, List.set_cons_succ, i64_w, i32_w]
                                                        rfl
                                                      refine pure_ (i := 21) (N := some 118) (v := ?_) (a' := ?_) #[true, true, true, true, true, true, true, true, true, true, true, true, true, true, true, true, false, true, true, true, true, true, false, false, false, false, false] rfl rfl (any_of HT_.out (by kernel_rfl)) (fun _ _ _ h => h) (Or.inl ⟨by rfl, ?_⟩) ?_ ?_
                                                      rotate_left
                                                      · intro w'
                                                        go_simp
                                                        with_reducible rfl
                                                      rotate_left
                                                      · simp only [Act.put, List.setIfInBounds_toArray, List.set_cons_zero, List.set_cons_succ, i64_w, i32_w]
                                                        rfl
                                                      refine one_ (i := 16) (N := some 113) #[true, true, true, true, true, true, true, true, true, true, true, true, true, true, true, true, true, true, true, true, true, true, false, false, false, false, false] rfl rfl (one_of HT_.out (by kernel_rfl)) (by decide) (fun K hK => ?_)
                                                      refine goes_ Try.func18 (by kernel_rfl) rfl #[.string (a0.extract (x8_1 : Int).toNat ((wrap64 (x8_1 + 1)) : Int).toNat)] (by rfl) rfl rfl (by (try simp only [List.map_toArray, List.map_cons, List.map_nil]); first | done | rfl | (simp only [List.length_drop, List.length_take]; rfl)) ?_
                                                      with_reducible refine (postbagref08_Small.calls (a0.extract (x8_1 : Int).toNat ((wrap64 (x8_1 + 1)) : Int).toNat) t130 _ A102.out).mono ?_
                                                      rintro e w126 ⟨rfl, hb⟩
                                                      refine ⟨_, rfl, ?_⟩
                                                      have n0_ := Aside0.mk (Kd.R_below (by (with_reducible repeat (first | apply Kd.R_alloc | apply Kd.R_drewN | apply Kd.R_drew)); exact HO_7.out) hb)
                                                      have n1_ := Aside0.mk (below_step (by repeat (first | (with_reducible first | exact HB.out | apply below_alloc | apply pw_below_drewN | apply below_drew1) | exact HB.out | exact Below.refl _ _)) hb)
                                                      clear HO_7
                                                      clear HB
                                                      have HO_7 := n0_
                                                      have HB := n1_
                                                      clear n0_ n1_
                                                      (try clear hb)
                                                      (try clear hb2)
                                                      (try clear hk)
                                                      (try clear hi)
                                                      refine hK.out _ _ trivial (fun hHeld => ?_)
                                                      clear hK K
                                                      refine norm_ (a' := ?_) ?_ ?_
                                                      rotate_left
                                                      · show Act.put _ (some 113) _ = _
                                                        simp only [Act.put, List.setIfInBounds_toArray, List.set_cons_zero, List.set_cons_succ, i64_w, i32_w]
                                                        rfl
                                                      refine one_ (i := 22) (N := some 119) #[true, true, true, true, true, true, true, true, true, true, true, true, true, true, true, true, true, true, true, true, true, true, true, false, false, false, false] rfl rfl (one_of HT_.out (by kernel_rfl)) (by decide) (fun K hK => ?_)
                                                      refine goes_ Try.func18 (by kernel_rfl) rfl #[.string (a1.extract (x9_2 : Int).toNat ((wrap64 (x9_2 + 1)) : Int).toNat)] (by rfl) rfl rfl (by (try simp only [List.map_toArray, List.map_cons, List.map_nil]); first | done | rfl | (simp only [List.length_drop, List.length_take]; rfl)) ?_
                                                      with_reducible refine (postbagref08_Small.calls (a1.extract (x9_2 : Int).toNat ((wrap64 (x9_2 + 1)) : Int).toNat) t131 _ A106.out).mono ?_
                                                      rintro e w127 ⟨rfl, hb⟩
                                                      refine ⟨_, rfl, ?_⟩
                                                      have n0_ := Aside0.mk (Kd.R_below (by (with_reducible repeat (first | apply Kd.R_alloc | apply Kd.R_drewN | apply Kd.R_drew)); exact HO_7.out) hb)
                                                      have n1_ := Aside0.mk (below_step (by repeat (first | (with_reducible first | exact HB.out | apply below_alloc | apply pw_below_drewN | apply below_drew1) | exact HB.out | exact Below.refl _ _)) hb)
                                                      clear HO_7
                                                      clear HB
                                                      have HO_7 := n0_
                                                      have HB := n1_
                                                      clear n0_ n1_
                                                      (try clear hb)
                                                      (try clear hb2)
                                                      (try clear hk)
                                                      (try clear hi)
                                                      refine hK.out _ _ trivial (fun hHeld => ?_)
                                                      clear hK K
                                                      refine norm_ (a' := ?_) ?_ ?_
                                                      rotate_left
                                                      · show Act.put _ (some 119) _ = _
                                                        simp only [Act.put, List.setIfInBounds_toArray, List.set_cons_zero, List.set_cons_succ, i64_w, i32_w]
                                                        rfl
                                                      refine pure_ (i := 23) (N := some 120) (v := ?_) (a' := ?_) #[true, true, true, true, true, true, true, true, true, true, true, true, true, true, true, true, true, true, true, true, true, true, true, true, false, false, false] rfl rfl (any_of HT_.out (by kernel_rfl)) (fun _ _ _ h => h) (Or.inl ⟨by rfl, ?_⟩) ?_ ?_
                                                      rotate_left
                                                      · intro w'
                                                        go_simp
                                                        with_reducible rfl
                                                      rotate_left
                                                      · simp only [Act.put, List.setIfInBounds_toArray, List.set_cons_zero, List.set_cons_succ, i64_w, i32_w]
                                                        rfl
                                                      refine pure_ (i := 24) (N := some 121) (v := ?_) (a' := ?_) #[true, true, true, true, true, true, true, true, true, true, true, true, true, true, true, true, true, true, true, true, true, true, true, true, true, false, false] rfl rfl (any_of HT_.out (by kernel_rfl)) (fun _ _ _ h => h) (Or.inl ⟨by rfl, ?_⟩) ?_ ?_
                                                      rotate_left
                                                      · intro w'
                                                        go_simp
                                                        with_reducible rfl
                                                      rotate_left
                                                      · simp only [Act.put, List.setIfInBounds_toArray, List.set_cons_zero, List.set_cons_succ, i64_w, i32_w]
                                                        rfl
                                                      refine pure_ (i := 25) (N := some 122) (v := ?_) (a' := ?_) #[true, true, true, true, true, true, true, true, true, true, true, true, true, true, true, true, true, true, true, true, true, true, true, true, true, true, false] rfl rfl (any_of HT_.out (by kernel_rfl)) (fun _ _ _ h => h) (Or.inl ⟨by rfl, ?_⟩) ?_ ?_
                                                      rotate_left
                                                      · intro w'
                                                        go_simp
                                                        with_reducible rfl
                                                      rotate_left
                                                      · simp only [Act.put, List.setIfInBounds_toArray, List.set_cons_zero, List.set_cons_succ, i64_w, i32_w]
                                                        rfl
                                                      refine pure_ (i := 26) (N := some 11) (v := ?_) (a' := ?_) #[true, true, true, true, true, true, true, true, true, true, true, true, true, true, true, true, true, true, true, true, true, true, true, true, true, true, true] rfl rfl (any_of HT_.out (by kernel_rfl)) (fun _ _ _ h => h) (Or.inl ⟨by rfl, ?_⟩) ?_ ?_
                                                      rotate_left
                                                      · intro w'
                                                        go_simp
                                                        with_reducible rfl
                                                      rotate_left
                                                      · simp only [Act.put, List.setIfInBounds_toArray, List.set_cons_zero, List.set_cons_succ, i64_w, i32_w]
                                                        rfl
                                                      refine done_ (done_of HT_.out (by kernel_rfl)) ?_
                                                      have p124 : 0 ≤ ((ji121) : Int) := of_decide_eq_true (by first | (with_reducible assumption) | assumption)
                                                      have q124 : ((ji121) : Int) < ((x7_2.length : Int) : Int) := of_decide_eq_true (by first | (with_reducible assumption) | assumption)
                                                      obtain ⟨go124, co124, eo124, gb124, gl124, cl124, HG124⟩ := Kd.R_form HO_7.out (by omega)
                                                      (first | cases eo124 | (injection eo124 with ea_ en_ ec_; (first | subst ea_ | (injection ea_ with ea_; subst ea_)); subst ec_; clear en_))
                                                      have GB124 := Aside0.mk gb124
                                                      have GG124 := Aside0.mk HG124
                                                      clear gb124 gl124 HG124
                                                      obtain ⟨hx124_0, hf124_0⟩ := Kd.R_celln false HO_7.out ((ji121) : Int) p124 q124
                                                      replace p124 := eq_true p124
                                                      replace q124 := eq_true q124
                                                      obtain ⟨hy128_, hz128_⟩ := Kd.R_celln false HO_7.out ((ji121) : Int) (of_decide_eq_true (by first | (with_reducible assumption) | assumption)) (of_decide_eq_true (by first | (with_reducible assumption) | assumption))
                                                      have HP128 := Kd.R_putg HO_7.out ((ji121) : Int) false
                                                      try go_wp2_with (first | ((with_reducible refine gate_store (t := 4) (p := 143) rfl ?_); refine store_event (t := 4) (p := 143) (v := ?vo_w129) (w1 := (w127.setCell ⟨go124, ((ji121) : Int).toNat, none⟩ (.bool false))) ?hg ?ho ?hn ?hr ?_; (case ho => rfl); (case hg => rfl); (case hn => rfl); (case hr => first | (go_simp; done) | (go_simp; rfl)); intro w129 hw; have hg : w127.grownBy w129 (some go124) := (by rw [hw]; exact HP128.2); have hp_ : Kd.R Kd.bool 4 w129 w.heap.size (fun _ => True) (.slice (some ⟨go124, 0, none⟩) x7_2.length co124) y134 := (by rw [hw, Ny134.out]; exact HP128.1); clear HP128; have n0_ := Aside0.mk (hp_); have n1_ := Aside0.mk ((by rw [hw]; exact below_set (HB.out) GB124.out : Below w.heap.size w w129)); clear HO_7; clear HB; have HO_7 := n0_; have HB := n1_; clear n0_ n1_; clear hg hw hp_))
                                                      go_roundg kj16
                                                      case measure => have := HK1.out; have := HK2.out; have := HJ16.out; omega
                                                      case rel => exact ⟨(y134), (wrap64 (x9_2 - 1)), (by first | rfl | (simp; done) | (simp [*]; done)), H', ⟨by have := HK1.out; have := HK2.out; have := HJ16.out; omega⟩, ⟨by (with_reducible repeat (first | apply Kd.R_alloc | apply Kd.R_drewN | apply Kd.R_drew)); exact HO_7.out⟩, ⟨by repeat (first | (with_reducible first | exact HB.out | apply below_alloc | apply pw_below_drewN | apply below_drew1) | exact HB.out | exact Below.refl _ _)⟩⟩
                                                    · rw [if_neg c123] at H
                                                      exact absurd H (by simp)
                                                  · rw [if_neg c122] at H
                                                    exact absurd H (by simp)
                                              · rw [if_neg c105] at H
                                                exact absurd H (by simp)
                                            · rw [if_neg c104] at H
                                              exact absurd H (by simp)
                                          · rw [if_neg c101] at H
                                            exact absurd H (by simp)
                                        · rw [if_neg c100] at H
                                          exact absurd H (by simp)
                                      · rw [if_neg c98] at H
                                        have c98b0 : (a1.toList == ([73, 78, 66, 79, 88] : List UInt8)) = false := beq_eq_false_iff_ne.mpr c98
                                        have c98b1 : (a1.toList != ([73, 78, 66, 79, 88] : List UInt8)) = true := bne_iff_ne.mpr c98
                                        obtain ⟨ji130, hji130⟩ : ∃ j_ : Int, (wrap64 ((wrap64 (x8_1 * (wrap64 ((a1.size : Int) + 1)))) + x9_2)) = j_ := ⟨_, rfl⟩
                                        replace H : (if 0 ≤ (ji130) then (if (ji130) < (x7_2.length : Int) then (postbagref13_Fits.l1 kj16 a0 a1 (wrap64 ((a0.size : Int) + 1)) (wrap64 ((a1.size : Int) + 1)) (x7_2.set ((ji130) : Int).toNat false) x8_1 (wrap64 (x9_2 - 1))) else (none)) else (none)) = some r := by first | (rw [hji130] at H; exact H) | (simp only [hji130] at H ⊢; exact H)
                                        have hji130w : (IntKind.i64.wrap ((wrap64 (x8_1 * (wrap64 ((a1.size : Int) + 1)))) + x9_2)) = ji130 := (i64_w _).trans hji130
                                        by_cases c131 : 0 ≤ (ji130)
                                        · rw [if_pos c131] at H
                                          have c131b0 : decide (0 ≤ (ji130)) = true := decide_eq_true c131
                                          clear c131
                                          by_cases c132 : (ji130) < (x7_2.length : Int)
                                          · rw [if_pos c132] at H
                                            have c132b0 : decide ((ji130) < (x7_2.length : Int)) = true := decide_eq_true c132
                                            clear c132
                                            obtain ⟨y135, hy135⟩ : ∃ y_ : List Bool, y_ = (x7_2.set ((ji130) : Int).toNat false) := ⟨_, rfl⟩
                                            replace H : (postbagref13_Fits.l1 kj16 a0 a1 (wrap64 ((a0.size : Int) + 1)) (wrap64 ((a1.size : Int) + 1)) y135 x8_1 (wrap64 (x9_2 - 1))) = some r := by first | (rw [hy135]; with_reducible exact H) | (have H2_ := (Option.bind_some _ _).symm.trans H; rw [hy135]; with_reducible exact H2_) | (have H2_ := (Option.bind_some _ _).symm.trans H; with_reducible exact H2_) | with_reducible exact H | (rw [hy135]; exact H) | exact H
                                            have Ny135 := Aside0.mk hy135
                                            clear hy135
                                            have H' := Aside0.mk H
                                            clear H
                                            try go_wp2
                                            have n0_ := Aside0.mk (Kd.R_drew HO_7.out)
                                            have n1_ := Aside0.mk (below_drew1 HB.out)
                                            clear HO_7
                                            clear HB
                                            have HO_7 := n0_
                                            have HB := n1_
                                            clear n0_ n1_
                                            have p82 : 0 ≤ (x8_1 : Int) := of_decide_eq_true (by first | (with_reducible assumption) | assumption)
                                            have q82 : x8_1 < (a0.size : Int) := of_decide_eq_true (by first | (with_reducible assumption) | assumption)
                                            have hx82 := bt_at a0 x8_1
                                            replace p82 := eq_true p82
                                            replace q82 := eq_true q82
                                            have p85 : 0 ≤ (x9_2 : Int) := of_decide_eq_true (by first | (with_reducible assumption) | assumption)
                                            have q85 : x9_2 < (a1.size : Int) := of_decide_eq_true (by first | (with_reducible assumption) | assumption)
                                            have hx85 := bt_at a1 x9_2
                                            replace p85 := eq_true p85
                                            replace q85 := eq_true q85
                                            refine start_ (n := 27) (S := fun w' => True) (ds := []) #[false, false, false, false, false, false, false, false, false, false, false, false, false, false, false, false, false, false, false, false, false, false, false, false, false, false, false] (by kernel_rfl) rfl rfl trivial (fun hHeld => ?_); refine with_tabW postbagref13_Fits.tab15 postbagref13_Fits.bits15 (fun HT_ HW_ => ?_)
                                            generalize wc.drew = w134 at HO_7 HB hHeld ⊢
                                            refine pure_ (i := 0) (N := some 97) (v := ?_) (a' := ?_) #[true, false, false, false, false, false, false, false, false, false, false, false, false, false, false, false, false, false, false, false, false, false, false, false, false, false, false] rfl rfl (any_of HT_.out (by kernel_rfl)) (fun _ _ _ h => h) (Or.inl ⟨by rfl, ?_⟩) ?_ ?_
                                            rotate_left
                                            · intro w'
                                              go_simp
                                              with_reducible rfl
                                            rotate_left
                                            · simp only [Act.put, List.setIfInBounds_toArray, List.set_cons_zero, List.set_cons_succ, i64_w, i32_w]
                                              rfl
                                            refine pure_ (i := 1) (N := some 98) (v := ?_) (a' := ?_) #[true, true, false, false, false, false, false, false, false, false, false, false, false, false, false, false, false, false, false, false, false, false, false, false, false, false, false] rfl rfl (any_of HT_.out (by kernel_rfl)) (fun _ _ _ h => h) (Or.inl ⟨by rfl, ?_⟩) ?_ ?_
                                            rotate_left
                                            · intro w'
                                              go_simp
                                              with_reducible rfl
                                            rotate_left
                                            · simp only [Act.put, List.setIfInBounds_toArray, List.set_cons_zero, List.set_cons_succ, i64_w, i32_w]
                                              rfl
                                            refine pure_ (i := 3) (N := some 100) (v := ?_) (a' := ?_) #[true, true, false, true, false, false, false, false, false, false, false, false, false, false, false, false, false, false, false, false, false, false, false, false, false, false, false] rfl rfl (any_of HT_.out (by kernel_rfl)) (fun _ _ _ h => h) (Or.inl ⟨by rfl, ?_⟩) ?_ ?_
                                            rotate_left
                                            · intro w'
                                              go_simp
                                              with_reducible rfl
                                            rotate_left
                                            · simp only [Act.put, List.setIfInBounds_toArray, List.set_cons_zero, List.set_cons_succ, i64_w, i32_w]
                                              rfl
                                            refine pure_ (i := 4) (N := some 101) (v := ?_) (a' := ?_) #[true, true, false, true, true, false, false, false, false, false, false, false, false, false, false, false, false, false, false, false, false, false, false, false, false, false, false] rfl rfl (any_of HT_.out (by kernel_rfl)) (fun _ _ _ h => h) (Or.inl ⟨by rfl, ?_⟩) ?_ ?_
                                            rotate_left
                                            · intro w'
                                              go_simp
                                              with_reducible rfl
                                            rotate_left
                                            · simp only [Act.put, List.setIfInBounds_toArray, List.set_cons_zero, List.set_cons_succ, i64_w, i32_w]
                                              rfl
                                            refine take_ (i := 2) (N := some 99) (v := ?_) (a' := ?_) #[true, true, true, true, true, false, false, false, false, false, false, false, false, false, false, false, false, false, false, false, false, false, false, false, false, false, false] rfl rfl (take_ofW HT_.out HW_.out (by kernel_rfl)) (fun _ _ _ h => h) (Or.inl ⟨by rfl, ?_⟩) hHeld ?_ ?_
                                            rotate_left
                                            · intro w' _
                                              go_simp
                                              with_reducible rfl
                                            rotate_left
                                            · simp only [Act.put, List.setIfInBounds_toArray, List.set_cons_zero, List.set_cons_succ, i64_w, i32_w]
                                              rfl
                                            refine take_ (i := 5) (N := some 102) (v := ?_) (a' := ?_) #[true, true, true, true, true, true, false, false, false, false, false, false, false, false, false, false, false, false, false, false, false, false, false, false, false, false, false] rfl rfl (take_ofW HT_.out HW_.out (by kernel_rfl)) (fun _ _ _ h => h) (Or.inl ⟨by rfl, ?_⟩) hHeld ?_ ?_
                                            rotate_left
                                            · intro w' _
                                              go_simp
                                              with_reducible rfl
                                            rotate_left
                                            · simp only [Act.put, List.setIfInBounds_toArray, List.set_cons_zero, List.set_cons_succ, i64_w, i32_w]
                                              rfl
                                            refine pure_ (i := 6) (N := some 103) (v := ?_) (a' := ?_) #[true, true, true, true, true, true, true, false, false, false, false, false, false, false, false, false, false, false, false, false, false, false, false, false, false, false, false] rfl rfl (any_of HT_.out (by kernel_rfl)) (fun _ _ _ h => h) (Or.inl ⟨by rfl, ?_⟩) ?_ ?_
                                            rotate_left
                                            · intro w'
                                              go_simp
                                              with_reducible rfl
                                            rotate_left
                                            · simp only [Act.put, List.setIfInBounds_toArray, List.set_cons_zero, List.set_cons_succ, i64_w, i32_w]
                                              rfl
                                            refine pure_ (i := 7) (N := some 104) (v := ?_) (a' := ?_) #[true, true, true, true, true, true, true, true, false, false, false, false, false, false, false, false, false, false, false, false, false, false, false, false, false, false, false] rfl rfl (any_of HT_.out (by kernel_rfl)) (fun _ _ _ h => h) (Or.inl ⟨by rfl, ?_⟩) ?_ ?_
                                            rotate_left
                                            · intro w'
                                              go_simp
                                              with_reducible rfl
                                            rotate_left
                                            · simp only [Act.put, List.setIfInBounds_toArray, List.set_cons_zero, List.set_cons_succ, i64_w, i32_w]
                                              rfl
                                            refine pure_ (i := 8) (N := some 105) (v := ?_) (a' := ?_) #[true, true, true, true, true, true, true, true, true, false, false, false, false, false, false, false, false, false, false, false, false, false, false, false, false, false, false] rfl rfl (any_of HT_.out (by kernel_rfl)) (fun _ _ _ h => h) (Or.inl ⟨by rfl, ?_⟩) ?_ ?_
                                            rotate_left
                                            · intro w'
                                              go_simp
                                              with_reducible rfl
                                            rotate_left
                                            · simp only [Act.put, List.setIfInBounds_toArray, List.set_cons_zero, List.set_cons_succ, i64_w, i32_w]
                                              rfl
                                            refine pure_ (i := 9) (N := some 106) (v := ?_) (a' := ?_) #[true, true, true, true, true, true, true, true, true, true, false, false, false, false, false, false, false, false, false, false, false, false, false, false, false, false, false] rfl rfl (any_of HT_.out (by kernel_rfl)) (fun _ _ _ h => h) (Or.inl ⟨by rfl, ?_⟩) ?_ ?_
                                            rotate_left
                                            · intro w'
                                              go_simp
                                              with_reducible rfl
                                            rotate_left
                                            · simp only [Act.put, List.setIfInBounds_toArray, List.set_cons_zero, List.set_cons_succ, i64_w, i32_w]
                                              rfl
                                            refine pure_ (i := 10) (N := some 107) (v := ?_) (a' := ?_) #[true, true, true, true, true, true, true, true, true, true, true, false, false, false, false, false, false, false, false, false, false, false, false, false, false, false, false] rfl rfl (any_of HT_.out (by kernel_rfl)) (fun _ _ _ h => h) (Or.inl ⟨by rfl, ?_⟩) ?_ ?_
                                            rotate_left
                                            · intro w'
                                              go_simp
                                              with_reducible rfl
                                            rotate_left
                                            · simp only [Act.put, List.setIfInBounds_toArray, List.set_cons_zero, List.set_cons_succ, i64_w, i32_w]
                                              rfl
                                            refine pure_ (i := 11) (N := some 108) (v := undef) (a' := ?_) #[true, true, true, true, true, true, true, true, true, true, true, true, false, false, false, false, false, false, false, false, false, false, false, false, false, false, false] rfl rfl (any_of HT_.out (by kernel_rfl)) (fun _ _ _ h => h) (Or.inr ⟨by rfl, rfl⟩) ?_ ?_
                                            rotate_left
                                            · simp only [Act.put, List.setIfInBounds_toArray, List.set_cons_zero, List.set_cons_succ, i64_w, i32_w]
                                              rfl
                                            refine pure_ (i := 12) (N := some 109) (v := undef) (a' := ?_) #[true, true, true, true, true, true, true, true, true, true, true, true, true, false, false, false, false, false, false, false, false, false, false, false, false, false, false] rfl rfl (any_of HT_.out (by kernel_rfl)) (fun _ _ _ h => h) (Or.inr ⟨by rfl, rfl⟩) ?_ ?_
                                            rotate_left
                                            · simp only [Act.put, List.setIfInBounds_toArray, List.set_cons_zero, List.set_cons_succ, i64_w, i32_w]
                                              rfl
                                            refine pure_ (i := 13) (N := some 110) (v := undef) (a' := ?_) #[true, true, true, true, true, true, true, true, true, true, true, true, true, true, false, false, false, false, false, false, false, false, false, false, false, false, false] rfl rfl (any_of HT_.out (by kernel_rfl)) (fun _ _ _ h => h) (Or.inr ⟨by rfl, rfl⟩) ?_ ?_
                                            rotate_left
                                            · simp only [Act.put, List.setIfInBounds_toArray, List.set_cons_zero, List.set_cons_succ, i64_w, i32_w]
                                              rfl
                                            refine pure_ (i := 14) (N := some 111) (v := undef) (a' := ?_) #[true, true, true, true, true, true, true, true, true, true, true, true, true, true, true, false, false, false, false, false, false, false, false, false, false, false, false] rfl rfl (any_of HT_.out (by kernel_rfl)) (fun _ _ _ h => h) (Or.inr ⟨by rfl, rfl⟩) ?_ ?_
                                            rotate_left
                                            · simp only [Act.put, List.setIfInBounds_toArray, List.set_cons_zero, List.set_cons_succ, i64_w, i32_w]
                                              rfl
                                            refine pure_ (i := 15) (N := some 112) (v := undef) (a' := ?_) #[true, true, true, true, true, true, true, true, true, true, true, true, true, true, true, true, false, false, false, false, false, false, false, false, false, false, false] rfl rfl (any_of HT_.out (by kernel_rfl)) (fun _ _ _ h => h) (Or.inr ⟨by rfl, rfl⟩) ?_ ?_
                                            rotate_left
                                            · simp only [Act.put, List.setIfInBounds_toArray, List.set_cons_zero, List.set_cons_succ, i64_w, i32_w]
                                              rfl
                                            refine pure_ (i := 16) (N := some 113) (v := undef) (a' := ?_) #[true, true, true, true, true, true, true, true, true, true, true, true, true, true, true, true, true, false, false, false, false, false, false, false, false, false, false] rfl rfl (any_of HT_.out (by kernel_rfl)) (fun _ _ _ h => h) (Or.inr ⟨by rfl, rfl⟩) ?_ ?_
                                            rotate_left
                                            · simp only [Act.put, List.setIfInBounds_toArray, List.set_cons_zero, List.set_cons_succ, i64_w, i32_w]
                                              rfl
                                            refine pure_ (i := 17) (N := some 114) (v := undef) (a' := ?_) #[true, true, true, true, true, true, true, true, true, true, true, true, true, true, true, true, true, true, false, false, false, false, false, false, false, false, false] rfl rfl (any_of HT_.out (by kernel_rfl)) (fun _ _ _ h => h) (Or.inr ⟨by rfl, rfl⟩) ?_ ?_
                                            rotate_left
                                            · simp only [Act.put, List.setIfInBounds_toArray, List.set_cons_zero, List.set_cons_succ, i64_w, i32_w]
                                              rfl
                                            refine pure_ (i := 18) (N := some 115) (v := undef) (a' := ?_) #[true, true, true, true, true, true, true, true, true, true, true, true, true, true, true, true, true, true, true, false, false, false, false, false, false, false, false] rfl rfl (any_of HT_.out (by kernel_rfl)) (fun _ _ _ h => h) (Or.inr ⟨by rfl, rfl⟩) ?_ ?_
                                            rotate_left
                                            · simp only [Act.put, List.setIfInBounds_toArray, List.set_cons_zero, List.set_cons_succ, i64_w, i32_w]
                                              rfl
                                            refine pure_ (i := 19) (N := some 116) (v := undef) (a' := ?_) #[true, true, true, true, true, true, true, true, true, true, true, true, true, true, true, true, true, true, true, true, false, false, false, false, false, false, false] rfl rfl (any_of HT_.out (by kernel_rfl)) (fun _ _ _ h => h) (Or.inr ⟨by rfl, rfl⟩) ?_ ?_
                                            rotate_left
                                            · simp only [Act.put, List.setIfInBounds_toArray, List.set_cons_zero, List.set_cons_succ, i64_w, i32_w]
                                              rfl
                                            refine pure_ (i := 20) (N := some 117) (v := undef) (a' := ?_) #[true, true, true, true, true, true, true, true, true, true, true, true, true, true, true, true, true, true, true, true, true, false, false, false, false, false, false] rfl rfl (any_of HT_.out (by kernel_rfl)) (fun _ _ _ h => h) (Or.inr ⟨by rfl, rfl⟩) ?_ ?_
                                            rotate_left
                                            · simp only [Act.put, List.setIfInBounds_toArray, List.set_cons_zero, List.set_cons_succ, i64_w, i32_w]
                                              rfl
                                            refine pure_ (i := 21) (N := some 118) (v := undef) (a' := ?_) #[true, true, true, true, true, true, true, true, true, true, true, true, true, true, true, true, true, true, true, true, true, true, false, false, false, false, false] rfl rfl (any_of HT_.out (by kernel_rfl)) (fun _ _ _ h => h) (Or.inr ⟨by rfl, rfl⟩) ?_ ?_
                                            rotate_left
                                            · simp only [Act.put, List.setIfInBounds_toArray, List.set_cons_zero, List.set_cons_succ, i64_w, i32_w]
                                              rfl
                                            refine pure_ (i := 22) (N := some 119) (v := undef) (a' := ?_) #[true, true, true, true, true, true, true, true, true, true, true, true, true, true, true, true, true, true, true, true, true, true, true, false, false, false, false] rfl rfl (any_of HT_.out (by kernel_rfl)) (fun _ _ _ h => h) (Or.inr ⟨by rfl, rfl⟩) ?_ ?_
                                            rotate_left
                                            · simp only [Act.put, List.setIfInBounds_toArray, List.set_cons_zero, List.set_cons_succ, i64_w, i32_w]
                                              rfl
                                            refine pure_ (i := 23) (N := some 120) (v := undef) (a' := ?_) #[true, true, true, true, true, true, true, true, true, true, true, true, true, true, true, true, true, true, true, true, true, true, true, true, false, false, false] rfl rfl (any_of HT_.out (by kernel_rfl)) (fun _ _ _ h => h) (Or.inr ⟨by rfl, rfl⟩) ?_ ?_
                                            rotate_left
                                            · simp only [Act.put, List.setIfInBounds_toArray, List.set_cons_zero, List.set_cons_succ, i64_w, i32_w]
                                              rfl
                                            refine pure_ (i := 24) (N := some 121) (v := ?_) (a' := ?_) #[true, true, true, true, true, true, true, true, true, true, true, true, true, true, true, true, true, true, true, true, true, true, true, true, true, false, false] rfl rfl (any_of HT_.out (by kernel_rfl)) (fun _ _ _ h => h) (Or.inl ⟨by rfl, ?_⟩) ?_ ?_
                                            rotate_left
                                            · intro w'
                                              go_simp
                                              with_reducible rfl
                                            rotate_left
                                            · simp only [Act.put, List.setIfInBounds_toArray, List.set_cons_zero, List.set_cons_succ, i64_w, i32_w]
                                              rfl
                                            refine pure_ (i := 25) (N := some 122) (v := ?_) (a' := ?_) #[true, true, true, true, true, true, true, true, true, true, true, true, true, true, true, true, true, true, true, true, true, true, true, true, true, true, false] rfl rfl (any_of HT_.out (by kernel_rfl)) (fun _ _ _ h => h) (Or.inl ⟨by rfl, ?_⟩) ?_ ?_
                                            rotate_left
                                            · intro w'
                                              go_simp
                                              with_reducible rfl
                                            rotate_left
                                            · simp only [Act.put, List.setIfInBounds_toArray, List.set_cons_zero, List.set_cons_succ, i64_w, i32_w]
                                              rfl
                                            refine pure_ (i := 26) (N := some 11) (v := ?_) (a' := ?_) #[true, true, true, true, true, true, true, true, true, true, true, true, true, true, true, true, true, true, true, true, true, true, true, true, true, true, true] rfl rfl (any_of HT_.out (by kernel_rfl)) (fun _ _ _ h => h) (Or.inl ⟨by rfl, ?_⟩) ?_ ?_
                                            rotate_left
                                            · intro w'
                                              go_simp
                                              with_reducible rfl
                                            rotate_left
                                            · simp only [Act.put, List.setIfInBounds_toArray, List.set_cons_zero, List.set_cons_succ, i64_w, i32_w]
                                              rfl
                                            refine done_ (done_of HT_.out (by kernel_rfl)) ?_
                                            have p133 : 0 ≤ ((ji130) : Int) := of_decide_eq_true (by first | (with_reducible assumption) | assumption)
                                            have q133 : ((ji130) : Int) < ((x7_2.length : Int) : Int) := of_decide_eq_true (by first | (with_reducible assumption) | assumption)
                                            obtain ⟨go133, co133, eo133, gb133, gl133, cl133, HG133⟩ := Kd.R_form HO_7.out (by omega)
                                            (first | cases eo133 | (injection eo133 with ea_ en_ ec_; (first | subst ea_ | (injection ea_ with ea_; subst ea_)); subst ec_; clear en_))
                                            have GB133 := Aside0.mk gb133
                                            have GG133 := Aside0.mk HG133
                                            clear gb133 gl133 HG133
                                            obtain ⟨hx133_0, hf133_0⟩ := Kd.R_celln false HO_7.out ((ji130) : Int) p133 q133
                                            replace p133 := eq_true p133
                                            replace q133 := eq_true q133
                                            obtain ⟨hy135_, hz135_⟩ := Kd.R_celln false HO_7.out ((ji130) : Int) (of_decide_eq_true (by first | (with_reducible assumption) | assumption)) (of_decide_eq_true (by first | (with_reducible assumption) | assumption))
                                            have HP135 := Kd.R_putg HO_7.out ((ji130) : Int) false
                                            try go_wp2_with (first | ((with_reducible refine gate_store (t := 4) (p := 143) rfl ?_); refine store_event (t := 4) (p := 143) (v := ?vo_w136) (w1 := (w134.setCell ⟨go133, ((ji130) : Int).toNat, none⟩ (.bool false))) ?hg ?ho ?hn ?hr ?_; (case ho => rfl); (case hg => rfl); (case hn => rfl); (case hr => first | (go_simp; done) | (go_simp; rfl)); intro w136 hw; have hg : w134.grownBy w136 (some go133) := (by rw [hw]; exact HP135.2); have hp_ : Kd.R Kd.bool 4 w136 w.heap.size (fun _ => True) (.slice (some ⟨go133, 0, none⟩) x7_2.length co133) y135 := (by rw [hw, Ny135.out]; exact HP135.1); clear HP135; have n0_ := Aside0.mk (hp_); have n1_ := Aside0.mk ((by rw [hw]; exact below_set (HB.out) GB133.out : Below w.heap.size w w136)); clear HO_7; clear HB; have HO_7 := n0_; have HB := n1_; clear n0_ n1_; clear hg hw hp_))
                                            go_roundg kj16
                                            case measure => have := HK1.out; have := HK2.out; have := HJ16.out; omega
                                            case rel => exact ⟨(y135), (wrap64 (x9_2 - 1)), (by first | rfl | (simp; done) | (simp [*]; done)), H', ⟨by have := HK1.out; have := HK2.out; have := HJ16.out; omega⟩, ⟨by (with_reducible repeat (first | apply Kd.R_alloc | apply Kd.R_drewN | apply Kd.R_drew)); exact HO_7.out⟩, ⟨by repeat (first | (with_reducible first | exact HB.out | apply below_alloc | apply pw_below_drewN | apply below_drew1) | exact HB.out | exact Below.refl _ _)⟩⟩
                                          · rw [if_neg c132] at H
                                            exact absurd H (by simp)
                                        · rw [if_neg c131] at H
                                          exact absurd H (by simp)
                                  · rw [if_neg c84] at H
                                    exact absurd H (by simp)
                                · rw [if_neg c83] at H
                                  exact absurd H (by simp)
                              · rw [if_neg c81] at H
                                exact absurd H (by simp)
                            · rw [if_neg c80] at H
                              exact absurd H (by simp)
                          · rw [if_neg c79] at H
                            have c79b0 : decide (x9_2 < (wrap64 ((wrap64 ((a1.size : Int) + 1)) - 1))) = false := decide_eq_false c79
                            clear c79
                            obtain ⟨ji137, hji137⟩ : ∃ j_ : Int, (wrap64 ((wrap64 (x8_1 * (wrap64 ((a1.size : Int) + 1)))) + x9_2)) = j_ := ⟨_, rfl⟩
                            replace H : (if 0 ≤ (ji137) then (if (ji137) < (x7_2.length : Int) then (postbagref13_Fits.l1 kj16 a0 a1 (wrap64 ((a0.size : Int) + 1)) (wrap64 ((a1.size : Int) + 1)) (x7_2.set ((ji137) : Int).toNat false) x8_1 (wrap64 (x9_2 - 1))) else (none)) else (none)) = some r := by first | (rw [hji137] at H; exact H) | (simp only [hji137] at H ⊢; exact H)
                            have hji137w : (IntKind.i64.wrap ((wrap64 (x8_1 * (wrap64 ((a1.size : Int) + 1)))) + x9_2)) = ji137 := (i64_w _).trans hji137
                            by_cases c138 : 0 ≤ (ji137)
                            · rw [if_pos c138] at H
                              have c138b0 : decide (0 ≤ (ji137)) = true := decide_eq_true c138
                              clear c138
                              by_cases c139 : (ji137) < (x7_2.length : Int)
                              · rw [if_pos c139] at H
                                have c139b0 : decide ((ji137) < (x7_2.length : Int)) = true := decide_eq_true c139
                                clear c139
                                obtain ⟨y136, hy136⟩ : ∃ y_ : List Bool, y_ = (x7_2.set ((ji137) : Int).toNat false) := ⟨_, rfl⟩
                                replace H : (postbagref13_Fits.l1 kj16 a0 a1 (wrap64 ((a0.size : Int) + 1)) (wrap64 ((a1.size : Int) + 1)) y136 x8_1 (wrap64 (x9_2 - 1))) = some r := by first | (rw [hy136]; with_reducible exact H) | (have H2_ := (Option.bind_some _ _).symm.trans H; rw [hy136]; with_reducible exact H2_) | (have H2_ := (Option.bind_some _ _).symm.trans H; with_reducible exact H2_) | with_reducible exact H | (rw [hy136]; exact H) | exact H
                                have Ny136 := Aside0.mk hy136
                                clear hy136
                                have H' := Aside0.mk H
                                clear H
                                have p140 : 0 ≤ ((ji137) : Int) := of_decide_eq_true (by first | (with_reducible assumption) | assumption)
                                have q140 : ((ji137) : Int) < ((x7_2.length : Int) : Int) := of_decide_eq_true (by first | (with_reducible assumption) | assumption)
                                obtain ⟨go140, co140, eo140, gb140, gl140, cl140, HG140⟩ := Kd.R_form HO_7.out (by omega)
                                (first | cases eo140 | (injection eo140 with ea_ en_ ec_; (first | subst ea_ | (injection ea_ with ea_; subst ea_)); subst ec_; clear en_))
                                have GB140 := Aside0.mk gb140
                                have GG140 := Aside0.mk HG140
                                clear gb140 gl140 HG140
                                obtain ⟨hx140_0, hf140_0⟩ := Kd.R_celln false HO_7.out ((ji137) : Int) p140 q140
                                replace p140 := eq_true p140
                                replace q140 := eq_true q140
                                have HP141 := Kd.R_putg HO_7.out ((ji137) : Int) false
                                go_wp2_with (first | ((with_reducible refine gate_store (t := 4) (p := 143) rfl ?_); refine store_event (t := 4) (p := 143) (v := ?vo_w142) (w1 := (wc.setCell ⟨go140, ((ji137) : Int).toNat, none⟩ (.bool false))) ?hg ?ho ?hn ?hr ?_; (case ho => rfl); (case hg => rfl); (case hn => rfl); (case hr => first | (go_simp; done) | (go_simp; rfl)); intro w142 hw; have hg : wc.grownBy w142 (some go140) := (by rw [hw]; exact HP141.2); have hp_ : Kd.R Kd.bool 4 w142 w.heap.size (fun _ => True) (.slice (some ⟨go140, 0, none⟩) x7_2.length co140) y136 := (by rw [hw, Ny136.out]; exact HP141.1); clear HP141; have n0_ := Aside0.mk (hp_); have n1_ := Aside0.mk ((by rw [hw]; exact below_set (HB.out) GB140.out : Below w.heap.size w w142)); clear HO_7; clear HB; have HO_7 := n0_; have HB := n1_; clear n0_ n1_; clear hg hw hp_))
                                go_roundg kj16
                                case measure => have := HK1.out; have := HK2.out; have := HJ16.out; omega
                                case rel => exact ⟨(y136), (wrap64 (x9_2 - 1)), (by first | rfl | (simp; done) | (simp [*]; done)), H', ⟨by have := HK1.out; have := HK2.out; have := HJ16.out; omega⟩, ⟨by (with_reducible repeat (first | apply Kd.R_alloc | apply Kd.R_drewN | apply Kd.R_drew)); exact HO_7.out⟩, ⟨by repeat (first | (with_reducible first | exact HB.out | apply below_alloc | apply pw_below_drewN | apply below_drew1) | exact HB.out | exact Below.refl _ _)⟩⟩
                              · rw [if_neg c139] at H
                                exact absurd H (by simp)
                            · rw [if_neg c138] at H
                              exact absurd H (by simp)
                · rw [if_neg c9] at H
                  have c9b0 : decide (0 ≤ x9_2) = false := decide_eq_false c9
                  clear c9
                  have H' := Aside0.mk H
                  clear H
                  go_wp2
                  go_roundg k2
                  case measure => have := HK1.out; have := HK2.out; omega
                  case rel => exact ⟨(x7_2), (wrap64 (x8_1 - 1)), (by first | rfl | (simp; done) | (simp [*]; done)), H', ⟨by have := HK1.out; have := HK2.out; omega⟩, ⟨by (with_reducible repeat (first | apply Kd.R_alloc | apply Kd.R_drewN | apply Kd.R_drew)); exact HO_7.out⟩, ⟨by repeat (first | (with_reducible first | exact HB.out | apply below_alloc | apply pw_below_drewN | apply below_drew1) | exact HB.out | exact Below.refl _ _)⟩⟩
          · rw [if_neg c8] at H
            have c8b0 : decide (0 ≤ x8_1) = false := decide_eq_false c8
            clear c8
            by_cases c143 : 0 < (x7_1.length : Int)
            · rw [if_pos c143] at H
              have c143b0 : decide (0 < (x7_1.length : Int)) = true := decide_eq_true c143
              have c143b1 : decide (0 < x7_1.length) = true := decide_eq_true (by omega)
              clear c143
              obtain rfl := Option.some.inj H
              obtain ⟨Ao144, co144, eo144⟩ := Kd.R_slice HO_7.out
              subst eo144
              have p118 : 0 ≤ (0 : Int) := (by omega)
              have q118 : 0 < (x7_1.length : Int) := of_decide_eq_true (by first | (with_reducible assumption) | assumption)
              obtain ⟨ad118, e118, hx118_0⟩ := Kd.at_bool (Kd.R_reads' HO_7.out).2.2 0 p118 q118
              cases e118
              have qi118 : (0 < x7_1.length) = True := eq_true (by omega)
              (try rw [show ((0 : Int)).toNat = 0 from rfl] at hx118_0)
              (try rw [Addr.add_zero'] at hx118_0)
              replace p118 := eq_true p118
              replace q118 := eq_true q118
              go_wp2
              go_ret
              exact ⟨by first | rfl | (simp [errW_none, errW_some] <;> rfl) | (simp only [← hji3]; first | rfl | (simp [errW_none, errW_some] <;> rfl)) | (simp [*, errW_none, errW_some] <;> rfl), by repeat (first | (with_reducible first | exact HB.out | apply below_alloc | apply pw_below_drewN | apply below_drew1) | exact HB.out | exact Below.refl _ _)⟩
            · rw [if_neg c143] at H
              exact absurd H (by simp)
    · rw [if_neg c5] at H
      exact absurd H (by simp)
  · rw [if_neg c4] at H
    exact absurd H (by simp)

end Go.Proofs.Ythlofokgbogndab.GBoxes
