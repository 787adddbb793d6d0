/- Written by a program of mine (wip/tools/mkprint.py turns the kit's print; given contracts by hand). Lean checks it. -/
import Derived.Test.YthlofokgbogndabGBoxesx0
import Derived.Test.YthlofokgbogndabGBoxesx2
import Derived.Test.YthlofokgbogndabGBoxesx3
import Derived.Test.YthlofokgbogndabGBoxesx4
namespace Go.Proofs.Ythlofokgbogndab.GBoxes
open Go.RowKit Go.Proofs.YthlofokgbogndabW.PrintWords Go.Proofs.YthlofokgbogndabW.PrintLast Go.Proofs.YthlofokgbogndabW.PrintMore
attribute [local go_sem] max2_int min2_int max_two min_two max_three min_three max_four min_four   -- for this text's walks alone
set_option linter.unusedVariables false
set_option linter.unusedSimpArgs false

/-! ### postbaglaw13_BoxesFits: function 3 -/
def postbaglaw13_BoxesFits.j0 : Nat → ByteArray → ByteArray → Bool → Option (Bool)
  | 0, _, _, _ => none
  | k + 1, x0, x1, x14 => if x14 = true then (some true) else ((boxes_Fits.f x0 x1).bind fun t138 => ((postbagref13_Fits.f k x0 x1).bind fun t139 => (some (t138 == t139))))
def postbaglaw13_BoxesFits.f (k : Nat) (a0 : ByteArray) (a1 : ByteArray) : Option (Bool) := (postbaglaw13_alive.f).bind fun t137 => (if t137 = true then (if (a0.size : Int) > 200 then (postbaglaw13_BoxesFits.j0 k a0 a1 true) else (postbaglaw13_BoxesFits.j0 k a0 a1 (decide ((a1.size : Int) > 200)))) else (some false))
theorem postbaglaw13_BoxesFits.mono_l : ∀ k, (∀ y0 y1 y2, LeO (postbaglaw13_BoxesFits.j0 k y0 y1 y2) (postbaglaw13_BoxesFits.j0 (k + 1) y0 y1 y2))
  | 0 => fun _ _ _ r h => by simp [postbaglaw13_BoxesFits.j0] at h
  | k + 1 => by
    have ih0 := postbaglaw13_BoxesFits.mono_l k
    · intro y0 y1 y2
      unfold postbaglaw13_BoxesFits.j0
      repeat' first
      | (with_reducible exact ih0 _ _ _)
      | (with_reducible exact postbagref13_Fits.mono _ _ _)
      | (with_reducible exact LeO.refl _)
      | (with_reducible exact LeO.none _)
      | (with_reducible refine LeO.ite ?_ ?_)
      | (with_reducible refine LeO.bind ?_ (fun _ => ?_))
      | exact ih0 _ _ _
      | exact postbagref13_Fits.mono _ _ _
      | exact LeO.none _
      | refine LeO.ite ?_ ?_
      | refine LeO.bind ?_ (fun _ => ?_)
theorem postbaglaw13_BoxesFits.mono : ∀ a0 a1 k, LeO (postbaglaw13_BoxesFits.f k a0 a1) (postbaglaw13_BoxesFits.f (k + 1) a0 a1) := by
  intro a0 a1 k
  have ih0 := postbaglaw13_BoxesFits.mono_l k
  unfold postbaglaw13_BoxesFits.f
  repeat' first
      | (with_reducible exact ih0 _ _ _)
      | (with_reducible exact postbagref13_Fits.mono _ _ _)
      | (with_reducible exact LeO.refl _)
      | (with_reducible exact LeO.none _)
      | (with_reducible refine LeO.ite ?_ ?_)
      | (with_reducible refine LeO.bind ?_ (fun _ => ?_))
      | exact ih0 _ _ _
      | exact postbagref13_Fits.mono _ _ _
      | exact LeO.none _
      | refine LeO.ite ?_ ?_
      | refine LeO.bind ?_ (fun _ => ?_)
set_option maxHeartbeats 8000000 in
set_option maxRecDepth 100000 in
theorem postbaglaw13_BoxesFits.calls (k : Nat) (a0 : ByteArray) (a1 : ByteArray) (r : Bool) (w : World) (h : postbaglaw13_BoxesFits.f k a0 a1 = some r) :
    Calls Try.prog 3 #[.string a0, .string a1] w fun e w' => e = .returned (.bool r) ∧ Below w.heap.size w w' := by
  have HB := Aside0.mk (Below.refl w.heap.size w)
  have H : ((postbaglaw13_alive.f).bind fun t137 => (if t137 = true then (if (a0.size : Int) > 200 then (postbaglaw13_BoxesFits.j0 k a0 a1 true) else (postbaglaw13_BoxesFits.j0 k a0 a1 (decide ((a1.size : Int) > 200)))) else (some false))) = some r := h
  clear h
  replace H := Option.bind_eq_some_iff.mp H
  obtain ⟨t137, A30, H⟩ := H
  replace H : (if t137 = true then (if (a0.size : Int) > 200 then (postbaglaw13_BoxesFits.j0 k a0 a1 true) else (postbaglaw13_BoxesFits.j0 k a0 a1 (decide ((a1.size : Int) > 200)))) else (some false)) = some r := H
  have A3 := Aside0.mk A30
  clear A30
  by_cases c4 : t137 = true
  · subst c4
    have H1 : (if (a0.size : Int) > 200 then (postbaglaw13_BoxesFits.j0 k a0 a1 true) else (postbaglaw13_BoxesFits.j0 k a0 a1 (decide ((a1.size : Int) > 200)))) = some r := by rw [if_pos rfl] at H; exact H
    clear H
    have H := H1
    clear H1
    have HC5 := Aside0.mk H
    clear H
    go_enter Try.func3, Try.ntmps3
    go_upto_region 3 with (first | ((with_reducible refine gate_callee (f := 7) rfl ?_); refine goesL_ (some 5) rfl rfl Try.func7 (by kernel_rfl) rfl #[] rfl (by (try simp only [List.map_toArray, List.map_cons, List.map_nil]); first | done | rfl | (simp only [List.length_drop, List.length_take]; rfl)) ?_; (with_reducible refine (postbaglaw13_alive.calls  true _ A3.out).mono ?_); rintro e w6 ⟨rfl, hb⟩; refine ⟨_, rfl, ?_⟩; have n0_ := Aside0.mk (below_step (by repeat (first | (with_reducible first | exact HB.out | apply below_alloc | apply pw_below_drewN | apply below_drew1) | exact HB.out | exact Below.refl _ _)) hb); clear HB; have HB := n0_; clear n0_; (try clear hb); (try clear hb2); (try clear hk); (try clear hi)))
    (try simp only [Act.put, List.setIfInBounds_toArray, List.set_cons_zero, List.set_cons_succ])
    go_cut [14] (fun v14 wc => ∃ (kq : Nat) (x14_4 : Bool), v14 = .bool x14_4 ∧ Aside0 (postbaglaw13_BoxesFits.j0 kq a0 a1 x14_4 = some r) ∧ Aside0 (kq ≤ k) ∧ Aside0 (Below w.heap.size w wc))
    case first =>
      have H := HC5.out
      clear HC5
      by_cases c7 : (a0.size : Int) > 200
      · rw [if_pos c7] at H
        have c7b0 : decide (200 < (a0.size : Int)) = true := decide_eq_true c7
        have c7b1 : decide (200 < a0.size) = true := decide_eq_true (by omega)
        clear c7
        (first | rw [c7b0] | (simp only [i64_w, i32_w]; rw [c7b0]) | skip)
        have H' := Aside0.mk H
        clear H
        go_wp2
        go_meet
        case rel => exact ⟨_, (true), (by first | rfl | (simp; done) | (simp [*]; done)), H', ⟨by first | omega | exact Nat.le_refl _⟩, ⟨by repeat (first | (with_reducible first | exact HB.out | apply below_alloc | apply pw_below_drewN | apply below_drew1) | exact HB.out | exact Below.refl _ _)⟩⟩
      · rw [if_neg c7] at H
        have c7b0 : decide (200 < (a0.size : Int)) = false := decide_eq_false c7
        have c7b1 : decide (200 < a0.size) = false := decide_eq_false (by omega)
        clear c7
        (first | rw [c7b0] | (simp only [i64_w, i32_w]; rw [c7b0]) | skip)
        have H' := Aside0.mk H
        clear H
        go_wp2
        go_meet
        case rel => exact ⟨_, (decide ((a1.size : Int) > 200)), (by first | rfl | (simp; done) | (simp [*]; done)), H', ⟨by first | omega | exact Nat.le_refl _⟩, ⟨by repeat (first | (with_reducible first | exact HB.out | apply below_alloc | apply pw_below_drewN | apply below_drew1) | exact HB.out | exact Below.refl _ _)⟩⟩
    case rest =>
      clear HC5
      try clear p2
      try clear c3
      try clear c4
      try clear c7
      try clear c7b0
      try clear c7b1
      obtain ⟨kq, x14_4, rfl, HA, HJ4, HB⟩ := hcut
      cases kq with
      | zero => exact absurd HA.out (by simp [postbaglaw13_BoxesFits.j0])
      | succ kj4 =>
        have H := HA.out
        clear HA
        simp only [postbaglaw13_BoxesFits.j0] at H
        by_cases c8 : x14_4 = true
        · subst c8
          have H1 : (some true) = some r := by rw [if_pos rfl] at H; exact H
          clear H
          have H := H1
          clear H1
          obtain rfl := Option.some.inj H
          go_wp2
          go_ret
          exact ⟨by first | rfl | (simp [errW_none, errW_some] <;> rfl) | (simp [*, errW_none, errW_some] <;> rfl), by repeat (first | (with_reducible first | exact HB.out | apply below_alloc | apply pw_below_drewN | apply below_drew1) | exact HB.out | exact Below.refl _ _)⟩
        · replace c8 := Bool.eq_false_iff.mpr c8
          subst c8
          have H1 : ((boxes_Fits.f a0 a1).bind fun t138 => ((postbagref13_Fits.f kj4 a0 a1).bind fun t139 => (some (t138 == t139)))) = some r := by rw [if_neg (show ¬ (false = true) by decide)] at H; exact H
          clear H
          have H := H1
          clear H1
          replace H := Option.bind_eq_some_iff.mp H
          obtain ⟨t138, A90, H⟩ := H
          replace H : ((postbagref13_Fits.f kj4 a0 a1).bind fun t139 => (some (t138 == t139))) = some r := H
          have A9 := Aside0.mk A90
          clear A90
          replace H := Option.bind_eq_some_iff.mp H
          obtain ⟨t139, A100, H⟩ := H
          replace H : (some (t138 == t139)) = some r := H
          have A10 := Aside0.mk A100
          clear A100
          obtain rfl := Option.some.inj H
          go_wp2_with (first | ((with_reducible refine gate_callee (f := 8) rfl ?_); refine goesL_ (some 17) rfl rfl Try.func8 (by kernel_rfl) rfl #[.string a0, .string a1] rfl (by (try simp only [List.map_toArray, List.map_cons, List.map_nil]); first | done | rfl | (simp only [List.length_drop, List.length_take]; rfl)) ?_; (with_reducible refine (boxes_Fits.calls a0 a1 t138 _ A9.out).mono ?_); rintro e w11 ⟨rfl, hb⟩; refine ⟨_, rfl, ?_⟩; have n0_ := Aside0.mk (below_step (by repeat (first | (with_reducible first | exact HB.out | apply below_alloc | apply pw_below_drewN | apply below_drew1) | exact HB.out | exact Below.refl _ _)) hb); clear HB; have HB := n0_; clear n0_; (try clear hb); (try clear hb2); (try clear hk); (try clear hi)) | ((with_reducible refine gate_callee (f := 9) rfl ?_); refine goesL_ (some 20) rfl rfl Try.func9 (by kernel_rfl) rfl #[.string a0, .string a1] rfl (by (try simp only [List.map_toArray, List.map_cons, List.map_nil]); first | done | rfl | (simp only [List.length_drop, List.length_take]; rfl)) ?_; (with_reducible refine (postbagref13_Fits.calls kj4 a0 a1 t139 _ A10.out).mono ?_); rintro e w12 ⟨rfl, hb⟩; refine ⟨_, rfl, ?_⟩; have n0_ := Aside0.mk (below_step (by repeat (first | (with_reducible first | exact HB.out | apply below_alloc | apply pw_below_drewN | apply below_drew1) | exact HB.out | exact Below.refl _ _)) hb); clear HB; have HB := n0_; clear n0_; (try clear hb); (try clear hb2); (try clear hk); (try clear hi)))
          go_ret
          exact ⟨by first | rfl | (simp [errW_none, errW_some] <;> rfl) | (simp [*, errW_none, errW_some] <;> rfl), by repeat (first | (with_reducible first | exact HB.out | apply below_alloc | apply pw_below_drewN | apply below_drew1) | exact HB.out | exact Below.refl _ _)⟩
  · replace c4 := Bool.eq_false_iff.mpr c4
    subst c4
    have H1 : (some false) = some r := by rw [if_neg (show ¬ (false = true) by decide)] at H; exact H
    clear H
    have H := H1
    clear H1
    obtain rfl := Option.some.inj H
    go_enter Try.func3, Try.ntmps3
    go_wp2_with (first | ((with_reducible refine gate_callee (f := 7) rfl ?_); refine goesL_ (some 5) rfl rfl Try.func7 (by kernel_rfl) rfl #[] rfl (by (try simp only [List.map_toArray, List.map_cons, List.map_nil]); first | done | rfl | (simp only [List.length_drop, List.length_take]; rfl)) ?_; (with_reducible refine (postbaglaw13_alive.calls  false _ A3.out).mono ?_); rintro e w13 ⟨rfl, hb⟩; refine ⟨_, rfl, ?_⟩; have n0_ := Aside0.mk (below_step (by repeat (first | (with_reducible first | exact HB.out | apply below_alloc | apply pw_below_drewN | apply below_drew1) | exact HB.out | exact Below.refl _ _)) hb); clear HB; have HB := n0_; clear n0_; (try clear hb); (try clear hb2); (try clear hk); (try clear hi)))
    go_ret
    exact ⟨by first | rfl | (simp [errW_none, errW_some] <;> rfl) | (simp [*, errW_none, errW_some] <;> rfl), by repeat (first | (with_reducible first | exact HB.out | apply below_alloc | apply pw_below_drewN | apply below_drew1) | exact HB.out | exact Below.refl _ _)⟩

/-- THE ONE PURE STATEMENT of postbaglaw13_BoxesFits: yours. -/
def postbaglaw13_BoxesFits.Pure : Prop := ∀ (a0 : ByteArray) (a1 : ByteArray), a0.size ≤ 140737488351232 → a1.size ≤ 140737488351232 → ∃ k, postbaglaw13_BoxesFits.f k a0 a1 = some true
theorem postbaglaw13_BoxesFits.walk (P : postbaglaw13_BoxesFits.Pure) (a0 : ByteArray) (a1 : ByteArray) (w : World) (w0 : a0.size ≤ 140737488351232) (w1 : a1.size ≤ 140737488351232) :
    Calls Try.prog 3 #[.string a0, .string a1] w fun e w' => e = .returned (.bool true) ∧ Below w.heap.size w w' := by
  obtain ⟨k, h⟩ := P a0 a1 w0 w1
  refine (postbaglaw13_BoxesFits.calls k a0 a1 true w h).mono ?_
  rintro e w' ⟨rfl, hd⟩
  exact ⟨rfl, hd⟩

/-! ### postbaglaw13_BoxesStars: function 4 -/
mutual
def postbaglaw13_BoxesStars.j0 : Nat → ByteArray → ByteArray → ByteArray → Bool → Option (Bool)
  | 0, _, _, _, _ => none
  | k + 1, x0, x1, x2, x26 => if x26 = true then (some true) else (postbaglaw13_BoxesStars.l0 k x0 x1 x2 false (x1.size : Int) 0)
def postbaglaw13_BoxesStars.l0 : Nat → ByteArray → ByteArray → ByteArray → Bool → Int → Int → Option (Bool)
  | 0, _, _, _, _, _, _ => none
  | k + 1, x0, x1, x2, x7, x28, x29 => if x29 < x28 then (if x7 = true then (postbaglaw13_BoxesStars.l0 k x0 x1 x2 true x28 (wrap64 (x29 + 1))) else (if 0 ≤ x29 then (if x29 < (x1.size : Int) then (postbaglaw13_BoxesStars.l0 k x0 x1 x2 ((bt x1 x29) == 47) x28 (wrap64 (x29 + 1))) else (none)) else (none))) else ((some (([x0, x1, x2] : List ByteArray) : List ByteArray)).bind fun y141 => (postbaglaw13_BoxesStars.l1 k x0 x1 x2 x7 y141 (y141.length : Int) 0))
def postbaglaw13_BoxesStars.l1 : Nat → ByteArray → ByteArray → ByteArray → Bool → List ByteArray → Int → Int → Option (Bool)
  | 0, _, _, _, _, _, _, _ => none
  | k + 1, x0, x1, x2, x7, x43, x44, x45 => if x45 < x44 then (if 0 ≤ x45 then (if x45 < (x43.length : Int) then (postbaglaw13_BoxesStars.l2 k x0 x1 x2 x7 (rdOf ByteArray.empty x43 x45) x43 x44 x45 ((rdOf ByteArray.empty x43 x45).size : Int) 0) else (none)) else (none)) else ((boxes_Fits.f (⟨#[42]⟩ : ByteArray) x0).bind fun t145 => (if t145 = true then ((boxes_Fits.f (⟨#[37]⟩ : ByteArray) x1).bind fun t146 => (if (t146 == (!x7)) = true then ((boxes_Fits.f x0 x0).bind fun t147 => (if t147 = true then (if x0.size + 1 ≤ 9223372036854775807 then (if (x0 ++ (⟨#[42]⟩ : ByteArray)).size + x2.size ≤ 9223372036854775807 then (if x0.size + x1.size ≤ 9223372036854775807 then (if (x0 ++ x1).size + x2.size ≤ 9223372036854775807 then ((boxes_Fits.f ((x0 ++ (⟨#[42]⟩ : ByteArray)) ++ x2) ((x0 ++ x1) ++ x2)).bind fun t148 => (if t148 = true then (if x7 = true then (some true) else (if (x0 ++ (⟨#[37]⟩ : ByteArray)).size + x2.size ≤ 9223372036854775807 then ((boxes_Fits.f ((x0 ++ (⟨#[37]⟩ : ByteArray)) ++ x2) ((x0 ++ x1) ++ x2)).bind fun t149 => (some t149)) else (none))) else (some false))) else (none)) else (none)) else (none)) else (none)) else (some false))) else (some false))) else (some false)))
def postbaglaw13_BoxesStars.l2 : Nat → ByteArray → ByteArray → ByteArray → Bool → ByteArray → List ByteArray → Int → Int → Int → Int → Option (Bool)
  | 0, _, _, _, _, _, _, _, _, _, _ => none
  | k + 1, x0, x1, x2, x7, x10, x43, x44, x45, x50, x51 => if x51 < x50 then (if 0 ≤ x51 then (if x51 < (x10.size : Int) then (if (bt x10 x51) = 42 then (some true) else (if (bt x10 x51) = 37 then (some true) else (postbaglaw13_BoxesStars.l2 k x0 x1 x2 x7 x10 x43 x44 x45 x50 (wrap64 (x51 + 1))))) else (none)) else (none)) else (postbaglaw13_BoxesStars.l1 k x0 x1 x2 x7 x43 x44 (wrap64 (x45 + 1)))
end
def postbaglaw13_BoxesStars.f (k : Nat) (a0 : ByteArray) (a1 : ByteArray) (a2 : ByteArray) : Option (Bool) := (postbaglaw13_alive.f).bind fun t140 => (if t140 = true then (if (a0.size : Int) > 60 then (postbaglaw13_BoxesStars.j0 k a0 a1 a2 true) else (if (a1.size : Int) > 60 then (postbaglaw13_BoxesStars.j0 k a0 a1 a2 true) else (postbaglaw13_BoxesStars.j0 k a0 a1 a2 (decide ((a2.size : Int) > 60))))) else (some false))
theorem postbaglaw13_BoxesStars.mono_l : ∀ k, (∀ y0 y1 y2 y3, LeO (postbaglaw13_BoxesStars.j0 k y0 y1 y2 y3) (postbaglaw13_BoxesStars.j0 (k + 1) y0 y1 y2 y3)) ∧ (∀ y0 y1 y2 y3 y4 y5, LeO (postbaglaw13_BoxesStars.l0 k y0 y1 y2 y3 y4 y5) (postbaglaw13_BoxesStars.l0 (k + 1) y0 y1 y2 y3 y4 y5)) ∧ (∀ y0 y1 y2 y3 y4 y5 y6, LeO (postbaglaw13_BoxesStars.l1 k y0 y1 y2 y3 y4 y5 y6) (postbaglaw13_BoxesStars.l1 (k + 1) y0 y1 y2 y3 y4 y5 y6)) ∧ (∀ y0 y1 y2 y3 y4 y5 y6 y7 y8 y9, LeO (postbaglaw13_BoxesStars.l2 k y0 y1 y2 y3 y4 y5 y6 y7 y8 y9) (postbaglaw13_BoxesStars.l2 (k + 1) y0 y1 y2 y3 y4 y5 y6 y7 y8 y9))
  | 0 => ⟨fun _ _ _ _ r h => by simp [postbaglaw13_BoxesStars.j0] at h, fun _ _ _ _ _ _ r h => by simp [postbaglaw13_BoxesStars.l0] at h, fun _ _ _ _ _ _ _ r h => by simp [postbaglaw13_BoxesStars.l1] at h, fun _ _ _ _ _ _ _ _ _ _ r h => by simp [postbaglaw13_BoxesStars.l2] at h⟩
  | k + 1 => by
    obtain ⟨ih0, ih1, ih2, ih3⟩ := postbaglaw13_BoxesStars.mono_l k
    refine ⟨?_, ?_, ?_, ?_⟩
    · intro y0 y1 y2 y3
      unfold postbaglaw13_BoxesStars.j0
      repeat' first
      | (with_reducible exact ih0 _ _ _ _)
      | (with_reducible exact ih1 _ _ _ _ _ _)
      | (with_reducible exact ih2 _ _ _ _ _ _ _)
      | (with_reducible exact ih3 _ _ _ _ _ _ _ _ _ _)
      | (with_reducible exact LeO.refl _)
      | (with_reducible exact LeO.none _)
      | (with_reducible refine LeO.ite ?_ ?_)
      | (with_reducible refine LeO.bind ?_ (fun _ => ?_))
      | exact ih0 _ _ _ _
      | exact ih1 _ _ _ _ _ _
      | exact ih2 _ _ _ _ _ _ _
      | exact ih3 _ _ _ _ _ _ _ _ _ _
      | exact LeO.none _
      | refine LeO.ite ?_ ?_
      | refine LeO.bind ?_ (fun _ => ?_)
    · intro y0 y1 y2 y3 y4 y5
      unfold postbaglaw13_BoxesStars.l0
      repeat' first
      | (with_reducible exact ih0 _ _ _ _)
      | (with_reducible exact ih1 _ _ _ _ _ _)
      | (with_reducible exact ih2 _ _ _ _ _ _ _)
      | (with_reducible exact ih3 _ _ _ _ _ _ _ _ _ _)
      | (with_reducible exact LeO.refl _)
      | (with_reducible exact LeO.none _)
      | (with_reducible refine LeO.ite ?_ ?_)
      | (with_reducible refine LeO.bind ?_ (fun _ => ?_))
      | exact ih0 _ _ _ _
      | exact ih1 _ _ _ _ _ _
      | exact ih2 _ _ _ _ _ _ _
      | exact ih3 _ _ _ _ _ _ _ _ _ _
      | exact LeO.none _
      | refine LeO.ite ?_ ?_
      | refine LeO.bind ?_ (fun _ => ?_)
    · intro y0 y1 y2 y3 y4 y5 y6
      unfold postbaglaw13_BoxesStars.l1
      repeat' first
      | (with_reducible exact ih0 _ _ _ _)
      | (with_reducible exact ih1 _ _ _ _ _ _)
      | (with_reducible exact ih2 _ _ _ _ _ _ _)
      | (with_reducible exact ih3 _ _ _ _ _ _ _ _ _ _)
      | (with_reducible exact LeO.refl _)
      | (with_reducible exact LeO.none _)
      | (with_reducible refine LeO.ite ?_ ?_)
      | (with_reducible refine LeO.bind ?_ (fun _ => ?_))
      | exact ih0 _ _ _ _
      | exact ih1 _ _ _ _ _ _
      | exact ih2 _ _ _ _ _ _ _
      | exact ih3 _ _ _ _ _ _ _ _ _ _
      | exact LeO.none _
      | refine LeO.ite ?_ ?_
      | refine LeO.bind ?_ (fun _ => ?_)
    · intro y0 y1 y2 y3 y4 y5 y6 y7 y8 y9
      unfold postbaglaw13_BoxesStars.l2
      repeat' first
      | (with_reducible exact ih0 _ _ _ _)
      | (with_reducible exact ih1 _ _ _ _ _ _)
      | (with_reducible exact ih2 _ _ _ _ _ _ _)
      | (with_reducible exact ih3 _ _ _ _ _ _ _ _ _ _)
      | (with_reducible exact LeO.refl _)
      | (with_reducible exact LeO.none _)
      | (with_reducible refine LeO.ite ?_ ?_)
      | (with_reducible refine LeO.bind ?_ (fun _ => ?_))
      | exact ih0 _ _ _ _
      | exact ih1 _ _ _ _ _ _
      | exact ih2 _ _ _ _ _ _ _
      | exact ih3 _ _ _ _ _ _ _ _ _ _
      | exact LeO.none _
      | refine LeO.ite ?_ ?_
      | refine LeO.bind ?_ (fun _ => ?_)
theorem postbaglaw13_BoxesStars.mono : ∀ a0 a1 a2 k, LeO (postbaglaw13_BoxesStars.f k a0 a1 a2) (postbaglaw13_BoxesStars.f (k + 1) a0 a1 a2) := by
  intro a0 a1 a2 k
  obtain ⟨ih0, ih1, ih2, ih3⟩ := postbaglaw13_BoxesStars.mono_l k
  unfold postbaglaw13_BoxesStars.f
  repeat' first
      | (with_reducible exact ih0 _ _ _ _)
      | (with_reducible exact ih1 _ _ _ _ _ _)
      | (with_reducible exact ih2 _ _ _ _ _ _ _)
      | (with_reducible exact ih3 _ _ _ _ _ _ _ _ _ _)
      | (with_reducible exact LeO.refl _)
      | (with_reducible exact LeO.none _)
      | (with_reducible refine LeO.ite ?_ ?_)
      | (with_reducible refine LeO.bind ?_ (fun _ => ?_))
      | exact ih0 _ _ _ _
      | exact ih1 _ _ _ _ _ _
      | exact ih2 _ _ _ _ _ _ _
      | exact ih3 _ _ _ _ _ _ _ _ _ _
      | exact LeO.none _
      | refine LeO.ite ?_ ?_
      | refine LeO.bind ?_ (fun _ => ?_)
set_option maxHeartbeats 8000000 in
set_option maxRecDepth 100000 in
theorem postbaglaw13_BoxesStars.calls (k : Nat) (a0 : ByteArray) (a1 : ByteArray) (a2 : ByteArray) (r : Bool) (w : World) (h : postbaglaw13_BoxesStars.f k a0 a1 a2 = some r) :
    Calls Try.prog 4 #[.string a0, .string a1, .string a2] w fun e w' => e = .returned (.bool r) ∧ Below w.heap.size w w' := by
  have HB := Aside0.mk (Below.refl w.heap.size w)
  have H : ((postbaglaw13_alive.f).bind fun t140 => (if t140 = true then (if (a0.size : Int) > 60 then (postbaglaw13_BoxesStars.j0 k a0 a1 a2 true) else (if (a1.size : Int) > 60 then (postbaglaw13_BoxesStars.j0 k a0 a1 a2 true) else (postbaglaw13_BoxesStars.j0 k a0 a1 a2 (decide ((a2.size : Int) > 60))))) else (some false))) = some r := h
  clear h
  replace H := Option.bind_eq_some_iff.mp H
  obtain ⟨t140, A40, H⟩ := H
  replace H : (if t140 = true then (if (a0.size : Int) > 60 then (postbaglaw13_BoxesStars.j0 k a0 a1 a2 true) else (if (a1.size : Int) > 60 then (postbaglaw13_BoxesStars.j0 k a0 a1 a2 true) else (postbaglaw13_BoxesStars.j0 k a0 a1 a2 (decide ((a2.size : Int) > 60))))) else (some false)) = some r := H
  have A4 := Aside0.mk A40
  clear A40
  by_cases c5 : t140 = true
  · subst c5
    have H1 : (if (a0.size : Int) > 60 then (postbaglaw13_BoxesStars.j0 k a0 a1 a2 true) else (if (a1.size : Int) > 60 then (postbaglaw13_BoxesStars.j0 k a0 a1 a2 true) else (postbaglaw13_BoxesStars.j0 k a0 a1 a2 (decide ((a2.size : Int) > 60))))) = some r := by rw [if_pos rfl] at H; exact H
    clear H
    have H := H1
    clear H1
    have HC6 := Aside0.mk H
    clear H
    go_enter Try.func4, Try.ntmps4
    go_upto_region 3 with (first | ((with_reducible refine gate_callee (f := 7) rfl ?_); refine goesL_ (some 12) rfl rfl Try.func7 (by kernel_rfl) rfl #[] rfl (by (try simp only [List.map_toArray, List.map_cons, List.map_nil]); first | done | rfl | (simp only [List.length_drop, List.length_take]; rfl)) ?_; (with_reducible refine (postbaglaw13_alive.calls  true _ A4.out).mono ?_); rintro e w7 ⟨rfl, hb⟩; refine ⟨_, rfl, ?_⟩; have n0_ := Aside0.mk (below_step (by repeat (first | (with_reducible first | exact HB.out | apply below_alloc | apply pw_below_drewN | apply below_drew1) | exact HB.out | exact Below.refl _ _)) hb); clear HB; have HB := n0_; clear n0_; (try clear hb); (try clear hb2); (try clear hk); (try clear hi)))
    (try simp only [Act.put, List.setIfInBounds_toArray, List.set_cons_zero, List.set_cons_succ])
    go_cut [26] (fun v26 wc => ∃ (kq : Nat) (x26_5 : Bool), v26 = .bool x26_5 ∧ Aside0 (postbaglaw13_BoxesStars.j0 kq a0 a1 a2 x26_5 = some r) ∧ Aside0 (kq ≤ k) ∧ Aside0 (Below w.heap.size w wc))
    case first =>
      have H := HC6.out
      clear HC6
      by_cases c8 : (a0.size : Int) > 60
      · rw [if_pos c8] at H
        have c8b0 : decide (60 < (a0.size : Int)) = true := decide_eq_true c8
        have c8b1 : decide (60 < a0.size) = true := decide_eq_true (by omega)
        clear c8
        (first | rw [c8b0] | (simp only [i64_w, i32_w]; rw [c8b0]) | skip)
        have H' := Aside0.mk H
        clear H
        go_wp2
        go_meet
        case rel => exact ⟨_, (true), (by first | rfl | (simp; done) | (simp [*]; done)), H', ⟨by first | omega | exact Nat.le_refl _⟩, ⟨by repeat (first | (with_reducible first | exact HB.out | apply below_alloc | apply pw_below_drewN | apply below_drew1) | exact HB.out | exact Below.refl _ _)⟩⟩
      · rw [if_neg c8] at H
        have c8b0 : decide (60 < (a0.size : Int)) = false := decide_eq_false c8
        have c8b1 : decide (60 < a0.size) = false := decide_eq_false (by omega)
        clear c8
        (first | rw [c8b0] | (simp only [i64_w, i32_w]; rw [c8b0]) | skip)
        by_cases c9 : (a1.size : Int) > 60
        · rw [if_pos c9] at H
          have c9b0 : decide (60 < (a1.size : Int)) = true := decide_eq_true c9
          have c9b1 : decide (60 < a1.size) = true := decide_eq_true (by omega)
          clear c9
          have H' := Aside0.mk H
          clear H
          go_wp2
          go_meet
          case rel => exact ⟨_, (true), (by first | rfl | (simp; done) | (simp [*]; done)), H', ⟨by first | omega | exact Nat.le_refl _⟩, ⟨by repeat (first | (with_reducible first | exact HB.out | apply below_alloc | apply pw_below_drewN | apply below_drew1) | exact HB.out | exact Below.refl _ _)⟩⟩
        · rw [if_neg c9] at H
          have c9b0 : decide (60 < (a1.size : Int)) = false := decide_eq_false c9
          have c9b1 : decide (60 < a1.size) = false := decide_eq_false (by omega)
          clear c9
          have H' := Aside0.mk H
          clear H
          go_wp2
          go_meet
          case rel => exact ⟨_, (decide ((a2.size : Int) > 60)), (by first | rfl | (simp; done) | (simp [*]; done)), H', ⟨by first | omega | exact Nat.le_refl _⟩, ⟨by repeat (first | (with_reducible first | exact HB.out | apply below_alloc | apply pw_below_drewN | apply below_drew1) | exact HB.out | exact Below.refl _ _)⟩⟩
    case rest =>
      clear HC6
      try clear p2
      try clear c4
      try clear c5
      try clear c7
      try clear c8
      try clear c8b0
      try clear c8b1
      try clear c9
      try clear c9b0
      try clear c9b1
      obtain ⟨kq, x26_5, rfl, HA, HJ5, HB⟩ := hcut
      cases kq with
      | zero => exact absurd HA.out (by simp [postbaglaw13_BoxesStars.j0])
      | succ kj5 =>
        have H := HA.out
        clear HA
        simp only [postbaglaw13_BoxesStars.j0] at H
        by_cases c10 : x26_5 = true
        · subst c10
          have H1 : (some true) = some r := by rw [if_pos rfl] at H; exact H
          clear H
          have H := H1
          clear H1
          obtain rfl := Option.some.inj H
          go_wp2
          go_ret
          exact ⟨by first | rfl | (simp [errW_none, errW_some] <;> rfl) | (simp [*, errW_none, errW_some] <;> rfl), by repeat (first | (with_reducible first | exact HB.out | apply below_alloc | apply pw_below_drewN | apply below_drew1) | exact HB.out | exact Below.refl _ _)⟩
        · replace c10 := Bool.eq_false_iff.mpr c10
          subst c10
          have H1 : (postbaglaw13_BoxesStars.l0 kj5 a0 a1 a2 false (a1.size : Int) 0) = some r := by rw [if_neg (show ¬ (false = true) by decide)] at H; exact H
          clear H
          have H := H1
          clear H1
          have H' := Aside0.mk H
          clear H
          go_wp2
          go_loopg [7, 29] kj5 (fun kq v7 v29 w' => ∃ (x7_2 : Bool) (x29_2 : Int), v7 = .bool x7_2 ∧ v29 = .int .i64 x29_2 ∧ Aside0 (postbaglaw13_BoxesStars.l0 kq a0 a1 a2 x7_2 (a1.size : Int) x29_2 = some r) ∧ Aside0 (kq ≤ kj5) ∧ Aside0 (Below w.heap.size w w'))
          case atStart => exact ⟨(false), (0), (by first | rfl | (simp; done) | (simp [*]; done)), (by first | rfl | (simp; done) | (simp [*]; done)), H', ⟨Nat.le_refl _⟩, ⟨by repeat (first | (with_reducible first | exact HB.out | apply below_alloc | apply pw_below_drewN | apply below_drew1) | exact HB.out | exact Below.refl _ _)⟩⟩
          case round =>
            clear H'
            try clear c1
            try clear p2
            try clear c4
            try clear c5
            try clear c7
            try clear c8
            try clear c8b0
            try clear c8b1
            try clear c9
            try clear c9b0
            try clear c9b1
            try clear c10
            try clear p2
            obtain ⟨x7_2, x29_2, rfl, rfl, HA, HK2, HB⟩ := hrel
            cases gk with
            | zero => exact absurd HA.out (by simp [postbaglaw13_BoxesStars.l0])
            | succ k2 =>
              have H := HA.out
              clear HA
              simp only [postbaglaw13_BoxesStars.l0] at H
              by_cases c11 : x29_2 < (a1.size : Int)
              · rw [if_pos c11] at H
                have c11b0 : decide (x29_2 < (a1.size : Int)) = true := decide_eq_true c11
                clear c11
                by_cases c12 : x7_2 = true
                · subst c12
                  have H1 : (postbaglaw13_BoxesStars.l0 k2 a0 a1 a2 true (a1.size : Int) (wrap64 (x29_2 + 1))) = some r := by rw [if_pos rfl] at H; exact H
                  clear H
                  have H := H1
                  clear H1
                  have H' := Aside0.mk H
                  clear H
                  go_wp2
                  go_roundg k2
                  case measure => have := HJ5.out; have := HK2.out; omega
                  case rel => exact ⟨(true), (wrap64 (x29_2 + 1)), (by first | rfl | (simp; done) | (simp [*]; done)), (by first | rfl | (simp; done) | (simp [*]; done)), H', ⟨by have := HJ5.out; have := HK2.out; omega⟩, ⟨by repeat (first | (with_reducible first | exact HB.out | apply below_alloc | apply pw_below_drewN | apply below_drew1) | exact HB.out | exact Below.refl _ _)⟩⟩
                · replace c12 := Bool.eq_false_iff.mpr c12
                  subst c12
                  have H1 : (if 0 ≤ x29_2 then (if x29_2 < (a1.size : Int) then (postbaglaw13_BoxesStars.l0 k2 a0 a1 a2 ((bt a1 x29_2) == 47) (a1.size : Int) (wrap64 (x29_2 + 1))) else (none)) else (none)) = some r := by rw [if_neg (show ¬ (false = true) by decide)] at H; exact H
                  clear H
                  have H := H1
                  clear H1
                  by_cases c13 : 0 ≤ x29_2
                  · rw [if_pos c13] at H
                    have c13b0 : decide (0 ≤ x29_2) = true := decide_eq_true c13
                    clear c13
                    by_cases c14 : x29_2 < (a1.size : Int)
                    · rw [if_pos c14] at H
                      have c14b0 : decide (x29_2 < (a1.size : Int)) = true := decide_eq_true c14
                      clear c14
                      have H' := Aside0.mk H
                      clear H
                      have p15 : 0 ≤ (x29_2 : Int) := of_decide_eq_true (by first | (with_reducible assumption) | assumption)
                      have q15 : x29_2 < (a1.size : Int) := of_decide_eq_true (by first | (with_reducible assumption) | assumption)
                      have hx15 := bt_at a1 x29_2
                      replace p15 := eq_true p15
                      replace q15 := eq_true q15
                      go_wp2
                      go_roundg k2
                      case measure => have := HJ5.out; have := HK2.out; omega
                      case rel => exact ⟨(((bt a1 x29_2) == 47)), (wrap64 (x29_2 + 1)), (by first | rfl | (simp; done) | (simp [*]; done)), (by first | rfl | (simp; done) | (simp [*]; done)), H', ⟨by have := HJ5.out; have := HK2.out; omega⟩, ⟨by repeat (first | (with_reducible first | exact HB.out | apply below_alloc | apply pw_below_drewN | apply below_drew1) | exact HB.out | exact Below.refl _ _)⟩⟩
                    · rw [if_neg c14] at H
                      exact absurd H (by simp)
                  · rw [if_neg c13] at H
                    exact absurd H (by simp)
              · rw [if_neg c11] at H
                have c11b0 : decide (x29_2 < (a1.size : Int)) = false := decide_eq_false c11
                clear c11
                obtain ⟨y141, hy141⟩ : ∃ y_ : List ByteArray, y_ = (([a0, a1, a2] : List ByteArray)) := ⟨_, rfl⟩
                replace H : (postbaglaw13_BoxesStars.l1 k2 a0 a1 a2 x7_2 y141 (y141.length : Int) 0) = some r := by first | (rw [hy141]; with_reducible exact H) | (have H2_ := (Option.bind_some _ _).symm.trans H; rw [hy141]; with_reducible exact H2_) | (have H2_ := (Option.bind_some _ _).symm.trans H; with_reducible exact H2_) | with_reducible exact H | (rw [hy141]; exact H) | exact H
                have Ny141 := Aside0.mk hy141
                clear hy141
                have H' := Aside0.mk H
                clear H
                go_wp2_with (first | ((with_reducible refine gate_dst (N := 43) rfl ?_); (try (refine gate_guard (by rfl) ?_; dsimp only)); refine Kd.R_lit Kd.string _ 9 ?hg (N := 43) ?hd (xs := ([a0, a1, a2] : List ByteArray)) (inner := [.string a0, .string a1, .string a2]) (ok := fun _ => True) (okp := fun _ => True) ?hr ?hp (fun _ hk => hk) trivial (Below.refl _ _) (Nat.le_refl _) (by simp) ?_; (case hd => rfl); (case hg => rfl); (case hr => first | (go_simp; done) | (go_simp; rfl)); (case hp => exact (Reps.one (show Kd.M Kd.string _ _ _ a0 [.string a0] from rfl) (Reps.one (show Kd.M Kd.string _ _ _ a1 [.string a1] from rfl) (Reps.one (show Kd.M Kd.string _ _ _ a2 [.string a2] from rfl) (Reps.none _ _))))); intro v142 w16 ho17 hb hg_ hnew_; clear hg_ hnew_; (first | rw [← Ny141.out] at ho17 | (simp only [Int.reduceToNat] at ho17; rw [← Ny141.out] at ho17)); have n0_ := Aside0.mk (Kd.R_lower ho17 (below_size (by repeat (first | (with_reducible first | exact HB.out | apply below_alloc | apply pw_below_drewN | apply below_drew1) | exact HB.out | exact Below.refl _ _)))); have n1_ := Aside0.mk (below_step (by repeat (first | (with_reducible first | exact HB.out | apply below_alloc | apply pw_below_drewN | apply below_drew1) | exact HB.out | exact Below.refl _ _)) hb); clear HB; have HO143 := n0_; have HB := n1_; clear n0_ n1_; clear hb ho17; obtain ⟨Ao18, co18, eo18⟩ := Kd.R_slice HO143.out; subst eo18))
                go_loopg [45] k2 (fun kq v45 w' => ∃ (x45_3 : Int), v45 = .int .i64 x45_3 ∧ Aside0 (postbaglaw13_BoxesStars.l1 kq a0 a1 a2 x7_2 y141 (y141.length : Int) x45_3 = some r) ∧ Aside0 (kq ≤ k2) ∧ Aside0 (Kd.R Kd.string 9 w' w.heap.size (fun _ => True) (.slice Ao18 y141.length co18) y141) ∧ Aside0 (Below w.heap.size w w'))
                case atStart => exact ⟨(0), (by first | rfl | (simp; done) | (simp [*]; done)), H', ⟨Nat.le_refl _⟩, ⟨by (with_reducible repeat (first | apply Kd.R_alloc | apply Kd.R_drewN | apply Kd.R_drew)); exact HO143.out⟩, ⟨by repeat (first | (with_reducible first | exact HB.out | apply below_alloc | apply pw_below_drewN | apply below_drew1) | exact HB.out | exact Below.refl _ _)⟩⟩
                case round =>
                  clear H'
                  try clear c1
                  try clear p1
                  try clear q1
                  try clear hx1
                  try clear p2
                  try clear c4
                  try clear c5
                  try clear p6
                  try clear c7
                  try clear c8
                  try clear c8b0
                  try clear c8b1
                  try clear c9
                  try clear c9b0
                  try clear c9b1
                  try clear c10
                  try clear c11
                  try clear c11b0
                  try clear c12
                  try clear c13
                  try clear c13b0
                  try clear c14
                  try clear c14b0
                  try clear p15
                  try clear q15
                  try clear hx15
                  try clear p15
                  try clear p2
                  try clear q15
                  obtain ⟨x45_3, rfl, HA, HK3, HO_43, HB⟩ := hrel
                  cases gk with
                  | zero => exact absurd HA.out (by simp [postbaglaw13_BoxesStars.l1])
                  | succ k3 =>
                    have H := HA.out
                    clear HA
                    simp only [postbaglaw13_BoxesStars.l1] at H
                    by_cases c19 : x45_3 < (y141.length : Int)
                    · rw [if_pos c19] at H
                      have c19b0 : decide (x45_3 < (y141.length : Int)) = true := decide_eq_true c19
                      clear c19
                      by_cases c20 : 0 ≤ x45_3
                      · rw [if_pos c20] at H
                        have c20b0 : decide (0 ≤ x45_3) = true := decide_eq_true c20
                        clear c20
                        by_cases c21 : x45_3 < (y141.length : Int)
                        · rw [if_pos c21] at H
                          have c21b0 : decide (x45_3 < (y141.length : Int)) = true := decide_eq_true c21
                          clear c21
                          have H' := Aside0.mk H
                          clear H
                          have p144 : 0 ≤ (x45_3 : Int) := of_decide_eq_true (by first | (with_reducible assumption) | assumption)
                          have q144 : x45_3 < (y141.length : Int) := of_decide_eq_true (by first | (with_reducible assumption) | assumption)
                          obtain ⟨ad144, e144, hx144_0⟩ := Kd.at_string (Kd.R_reads' HO_43.out).2.2 x45_3 p144 q144
                          cases e144
                          replace p144 := eq_true p144
                          replace q144 := eq_true q144
                          go_wp2
                          go_loopg [51] k3 (fun kq v51 w' => ∃ (x51_4 : Int), v51 = .int .i64 x51_4 ∧ Aside0 (postbaglaw13_BoxesStars.l2 kq a0 a1 a2 x7_2 (rdOf ByteArray.empty y141 x45_3) y141 (y141.length : Int) x45_3 ((rdOf ByteArray.empty y141 x45_3).size : Int) x51_4 = some r) ∧ Aside0 (kq ≤ k3) ∧ Aside0 (Kd.R Kd.string 9 w' w.heap.size (fun _ => True) (.slice (some ad144) y141.length co18) y141) ∧ Aside0 (Below w.heap.size w w'))
                          case atStart => exact ⟨(0), (by first | rfl | (simp; done) | (simp [*]; done)), H', ⟨Nat.le_refl _⟩, ⟨by (with_reducible repeat (first | apply Kd.R_alloc | apply Kd.R_drewN | apply Kd.R_drew)); exact HO_43.out⟩, ⟨by repeat (first | (with_reducible first | exact HB.out | apply below_alloc | apply pw_below_drewN | apply below_drew1) | exact HB.out | exact Below.refl _ _)⟩⟩
                          case round =>
                            clear H'
                            try clear c1
                            try clear p1
                            try clear q1
                            try clear hx1
                            try clear c2
                            try clear p2
                            try clear c4
                            try clear c5
                            try clear p6
                            try clear c7
                            try clear c8
                            try clear c8b0
                            try clear c8b1
                            try clear c9
                            try clear c9b0
                            try clear c9b1
                            try clear c10
                            try clear c11
                            try clear c11b0
                            try clear c12
                            try clear c13
                            try clear c13b0
                            try clear c14
                            try clear c14b0
                            try clear p14
                            try clear q14
                            try clear hx14
                            try clear p15
                            try clear q15
                            try clear hx15
                            try clear c19
                            try clear c19b0
                            try clear c20
                            try clear c20b0
                            try clear c21
                            try clear c21b0
                            try clear hx144_0
                            try clear p1
                            try clear p144
                            try clear p15
                            try clear p2
                            try clear p6
                            try clear q1
                            try clear q144
                            try clear q15
                            obtain ⟨x51_4, rfl, HA, HK4, HO_43, HB⟩ := hrel
                            cases gk with
                            | zero => exact absurd HA.out (by simp [postbaglaw13_BoxesStars.l2])
                            | succ k4 =>
                              have H := HA.out
                              clear HA
                              simp only [postbaglaw13_BoxesStars.l2] at H
                              by_cases c22 : x51_4 < ((rdOf ByteArray.empty y141 x45_3).size : Int)
                              · rw [if_pos c22] at H
                                have c22b0 : decide (x51_4 < ((rdOf ByteArray.empty y141 x45_3).size : Int)) = true := decide_eq_true c22
                                clear c22
                                by_cases c23 : 0 ≤ x51_4
                                · rw [if_pos c23] at H
                                  have c23b0 : decide (0 ≤ x51_4) = true := decide_eq_true c23
                                  clear c23
                                  by_cases c24 : x51_4 < ((rdOf ByteArray.empty y141 x45_3).size : Int)
                                  · rw [if_pos c24] at H
                                    have c24b0 : decide (x51_4 < ((rdOf ByteArray.empty y141 x45_3).size : Int)) = true := decide_eq_true c24
                                    clear c24
                                    by_cases c26 : (bt (rdOf ByteArray.empty y141 x45_3) x51_4) = 42
                                    · rw [if_pos c26] at H
                                      have c26b0 : ((bt (rdOf ByteArray.empty y141 x45_3) x51_4) == 42) = true := beq_iff_eq.mpr c26
                                      have c26b1 : ((bt (rdOf ByteArray.empty y141 x45_3) x51_4) != 42) = false := bne_eq_false_iff_eq.mpr c26
                                      clear c26
                                      obtain rfl := Option.some.inj H
                                      have p25 : 0 ≤ (x51_4 : Int) := of_decide_eq_true (by first | (with_reducible assumption) | assumption)
                                      have q25 : x51_4 < ((rdOf ByteArray.empty y141 x45_3).size : Int) := of_decide_eq_true (by first | (with_reducible assumption) | assumption)
                                      have hx25 := bt_at (rdOf ByteArray.empty y141 x45_3) x51_4
                                      replace p25 := eq_true p25
                                      replace q25 := eq_true q25
                                      go_wp2
                                      go_ret
                                      exact ⟨by first | rfl | (simp [errW_none, errW_some] <;> rfl) | (simp [*, errW_none, errW_some] <;> rfl), by repeat (first | (with_reducible first | exact HB.out | apply below_alloc | apply pw_below_drewN | apply below_drew1) | exact HB.out | exact Below.refl _ _)⟩
                                    · rw [if_neg c26] at H
                                      have c26b0 : ((bt (rdOf ByteArray.empty y141 x45_3) x51_4) == 42) = false := beq_eq_false_iff_ne.mpr c26
                                      have c26b1 : ((bt (rdOf ByteArray.empty y141 x45_3) x51_4) != 42) = true := bne_iff_ne.mpr c26
                                      by_cases c28 : (bt (rdOf ByteArray.empty y141 x45_3) x51_4) = 37
                                      · rw [if_pos c28] at H
                                        have c28b0 : ((bt (rdOf ByteArray.empty y141 x45_3) x51_4) == 37) = true := beq_iff_eq.mpr c28
                                        have c28b1 : ((bt (rdOf ByteArray.empty y141 x45_3) x51_4) != 37) = false := bne_eq_false_iff_eq.mpr c28
                                        clear c28
                                        obtain rfl := Option.some.inj H
                                        have p25 : 0 ≤ (x51_4 : Int) := of_decide_eq_true (by first | (with_reducible assumption) | assumption)
                                        have q25 : x51_4 < ((rdOf ByteArray.empty y141 x45_3).size : Int) := of_decide_eq_true (by first | (with_reducible assumption) | assumption)
                                        have hx25 := bt_at (rdOf ByteArray.empty y141 x45_3) x51_4
                                        replace p25 := eq_true p25
                                        replace q25 := eq_true q25
                                        have p27 : 0 ≤ (x51_4 : Int) := of_decide_eq_true (by first | (with_reducible assumption) | assumption)
                                        have q27 : x51_4 < ((rdOf ByteArray.empty y141 x45_3).size : Int) := of_decide_eq_true (by first | (with_reducible assumption) | assumption)
                                        have hx27 := bt_at (rdOf ByteArray.empty y141 x45_3) x51_4
                                        replace p27 := eq_true p27
                                        replace q27 := eq_true q27
                                        go_wp2
                                        go_ret
                                        exact ⟨by first | rfl | (simp [errW_none, errW_some] <;> rfl) | (simp [*, errW_none, errW_some] <;> rfl), by repeat (first | (with_reducible first | exact HB.out | apply below_alloc | apply pw_below_drewN | apply below_drew1) | exact HB.out | exact Below.refl _ _)⟩
                                      · rw [if_neg c28] at H
                                        have c28b0 : ((bt (rdOf ByteArray.empty y141 x45_3) x51_4) == 37) = false := beq_eq_false_iff_ne.mpr c28
                                        have c28b1 : ((bt (rdOf ByteArray.empty y141 x45_3) x51_4) != 37) = true := bne_iff_ne.mpr c28
                                        have H' := Aside0.mk H
                                        clear H
                                        have p25 : 0 ≤ (x51_4 : Int) := of_decide_eq_true (by first | (with_reducible assumption) | assumption)
                                        have q25 : x51_4 < ((rdOf ByteArray.empty y141 x45_3).size : Int) := of_decide_eq_true (by first | (with_reducible assumption) | assumption)
                                        have hx25 := bt_at (rdOf ByteArray.empty y141 x45_3) x51_4
                                        replace p25 := eq_true p25
                                        replace q25 := eq_true q25
                                        have p27 : 0 ≤ (x51_4 : Int) := of_decide_eq_true (by first | (with_reducible assumption) | assumption)
                                        have q27 : x51_4 < ((rdOf ByteArray.empty y141 x45_3).size : Int) := of_decide_eq_true (by first | (with_reducible assumption) | assumption)
                                        have hx27 := bt_at (rdOf ByteArray.empty y141 x45_3) x51_4
                                        replace p27 := eq_true p27
                                        replace q27 := eq_true q27
                                        go_wp2
                                        go_roundg k4
                                        case measure => have := HJ5.out; have := HK2.out; have := HK3.out; have := HK4.out; omega
                                        case rel => exact ⟨(wrap64 (x51_4 + 1)), (by first | rfl | (simp; done) | (simp [*]; done)), H', ⟨by have := HJ5.out; have := HK2.out; have := HK3.out; have := HK4.out; omega⟩, ⟨by (with_reducible repeat (first | apply Kd.R_alloc | apply Kd.R_drewN | apply Kd.R_drew)); exact HO_43.out⟩, ⟨by repeat (first | (with_reducible first | exact HB.out | apply below_alloc | apply pw_below_drewN | apply below_drew1) | exact HB.out | exact Below.refl _ _)⟩⟩
                                  · rw [if_neg c24] at H
                                    exact absurd H (by simp)
                                · rw [if_neg c23] at H
                                  exact absurd H (by simp)
                              · rw [if_neg c22] at H
                                have c22b0 : decide (x51_4 < ((rdOf ByteArray.empty y141 x45_3).size : Int)) = false := decide_eq_false c22
                                clear c22
                                have H' := Aside0.mk H
                                clear H
                                go_wp2
                                go_roundg k4
                                case measure => have := HJ5.out; have := HK2.out; have := HK3.out; have := HK4.out; omega
                                case rel => exact ⟨(wrap64 (x45_3 + 1)), (by first | rfl | (simp; done) | (simp [*]; done)), H', ⟨by have := HJ5.out; have := HK2.out; have := HK3.out; have := HK4.out; omega⟩, ⟨by (with_reducible repeat (first | apply Kd.R_alloc | apply Kd.R_drewN | apply Kd.R_drew)); exact HO_43.out⟩, ⟨by repeat (first | (with_reducible first | exact HB.out | apply below_alloc | apply pw_below_drewN | apply below_drew1) | exact HB.out | exact Below.refl _ _)⟩⟩
                        · rw [if_neg c21] at H
                          exact absurd H (by simp)
                      · rw [if_neg c20] at H
                        exact absurd H (by simp)
                    · rw [if_neg c19] at H
                      have c19b0 : decide (x45_3 < (y141.length : Int)) = false := decide_eq_false c19
                      clear c19
                      replace H := Option.bind_eq_some_iff.mp H
                      obtain ⟨t145, A290, H⟩ := H
                      replace H : (if t145 = true then ((boxes_Fits.f (⟨#[37]⟩ : ByteArray) a1).bind fun t146 => (if (t146 == (!x7_2)) = true then ((boxes_Fits.f a0 a0).bind fun t147 => (if t147 = true then (if a0.size + 1 ≤ 9223372036854775807 then (if (a0 ++ (⟨#[42]⟩ : ByteArray)).size + a2.size ≤ 9223372036854775807 then (if a0.size + a1.size ≤ 9223372036854775807 then (if (a0 ++ a1).size + a2.size ≤ 9223372036854775807 then ((boxes_Fits.f ((a0 ++ (⟨#[42]⟩ : ByteArray)) ++ a2) ((a0 ++ a1) ++ a2)).bind fun t148 => (if t148 = true then (if x7_2 = true then (some true) else (if (a0 ++ (⟨#[37]⟩ : ByteArray)).size + a2.size ≤ 9223372036854775807 then ((boxes_Fits.f ((a0 ++ (⟨#[37]⟩ : ByteArray)) ++ a2) ((a0 ++ a1) ++ a2)).bind fun t149 => (some t149)) else (none))) else (some false))) else (none)) else (none)) else (none)) else (none)) else (some false))) else (some false))) else (some false)) = some r := H
                      have A29 := Aside0.mk A290
                      clear A290
                      by_cases c30 : t145 = true
                      · subst c30
                        have H1 : ((boxes_Fits.f (⟨#[37]⟩ : ByteArray) a1).bind fun t146 => (if (t146 == (!x7_2)) = true then ((boxes_Fits.f a0 a0).bind fun t147 => (if t147 = true then (if a0.size + 1 ≤ 9223372036854775807 then (if (a0 ++ (⟨#[42]⟩ : ByteArray)).size + a2.size ≤ 9223372036854775807 then (if a0.size + a1.size ≤ 9223372036854775807 then (if (a0 ++ a1).size + a2.size ≤ 9223372036854775807 then ((boxes_Fits.f ((a0 ++ (⟨#[42]⟩ : ByteArray)) ++ a2) ((a0 ++ a1) ++ a2)).bind fun t148 => (if t148 = true then (if x7_2 = true then (some true) else (if (a0 ++ (⟨#[37]⟩ : ByteArray)).size + a2.size ≤ 9223372036854775807 then ((boxes_Fits.f ((a0 ++ (⟨#[37]⟩ : ByteArray)) ++ a2) ((a0 ++ a1) ++ a2)).bind fun t149 => (some t149)) else (none))) else (some false))) else (none)) else (none)) else (none)) else (none)) else (some false))) else (some false))) = some r := by rw [if_pos rfl] at H; exact H
                        clear H
                        have H := H1
                        clear H1
                        replace H := Option.bind_eq_some_iff.mp H
                        obtain ⟨t146, A310, H⟩ := H
                        replace H : (if (t146 == (!x7_2)) = true then ((boxes_Fits.f a0 a0).bind fun t147 => (if t147 = true then (if a0.size + 1 ≤ 9223372036854775807 then (if (a0 ++ (⟨#[42]⟩ : ByteArray)).size + a2.size ≤ 9223372036854775807 then (if a0.size + a1.size ≤ 9223372036854775807 then (if (a0 ++ a1).size + a2.size ≤ 9223372036854775807 then ((boxes_Fits.f ((a0 ++ (⟨#[42]⟩ : ByteArray)) ++ a2) ((a0 ++ a1) ++ a2)).bind fun t148 => (if t148 = true then (if x7_2 = true then (some true) else (if (a0 ++ (⟨#[37]⟩ : ByteArray)).size + a2.size ≤ 9223372036854775807 then ((boxes_Fits.f ((a0 ++ (⟨#[37]⟩ : ByteArray)) ++ a2) ((a0 ++ a1) ++ a2)).bind fun t149 => (some t149)) else (none))) else (some false))) else (none)) else (none)) else (none)) else (none)) else (some false))) else (some false)) = some r := H
                        have A31 := Aside0.mk A310
                        clear A310
                        by_cases c32 : (t146 == (!x7_2)) = true
                        · rw [if_pos c32] at H
                          have c32b0 : (t146 == (!x7_2)) = true := c32
                          have c32z : t146 = (!x7_2) := (by decide : ∀ a b : Bool, (a == !b) = true → a = !b) t146 x7_2 c32b0
                          (try (have c32b1 : decide (t146 = (!x7_2)) = true := by simpa using c32))
                          (try (have c32b2 : (t146 == (!x7_2)) = true := by simpa using c32))
                          clear c32
                          replace H := Option.bind_eq_some_iff.mp H
                          obtain ⟨t147, A330, H⟩ := H
                          replace H : (if t147 = true then (if a0.size + 1 ≤ 9223372036854775807 then (if (a0 ++ (⟨#[42]⟩ : ByteArray)).size + a2.size ≤ 9223372036854775807 then (if a0.size + a1.size ≤ 9223372036854775807 then (if (a0 ++ a1).size + a2.size ≤ 9223372036854775807 then ((boxes_Fits.f ((a0 ++ (⟨#[42]⟩ : ByteArray)) ++ a2) ((a0 ++ a1) ++ a2)).bind fun t148 => (if t148 = true then (if x7_2 = true then (some true) else (if (a0 ++ (⟨#[37]⟩ : ByteArray)).size + a2.size ≤ 9223372036854775807 then ((boxes_Fits.f ((a0 ++ (⟨#[37]⟩ : ByteArray)) ++ a2) ((a0 ++ a1) ++ a2)).bind fun t149 => (some t149)) else (none))) else (some false))) else (none)) else (none)) else (none)) else (none)) else (some false)) = some r := H
                          have A33 := Aside0.mk A330
                          clear A330
                          by_cases c34 : t147 = true
                          · subst c34
                            have H1 : (if a0.size + 1 ≤ 9223372036854775807 then (if (a0 ++ (⟨#[42]⟩ : ByteArray)).size + a2.size ≤ 9223372036854775807 then (if a0.size + a1.size ≤ 9223372036854775807 then (if (a0 ++ a1).size + a2.size ≤ 9223372036854775807 then ((boxes_Fits.f ((a0 ++ (⟨#[42]⟩ : ByteArray)) ++ a2) ((a0 ++ a1) ++ a2)).bind fun t148 => (if t148 = true then (if x7_2 = true then (some true) else (if (a0 ++ (⟨#[37]⟩ : ByteArray)).size + a2.size ≤ 9223372036854775807 then ((boxes_Fits.f ((a0 ++ (⟨#[37]⟩ : ByteArray)) ++ a2) ((a0 ++ a1) ++ a2)).bind fun t149 => (some t149)) else (none))) else (some false))) else (none)) else (none)) else (none)) else (none)) = some r := by rw [if_pos rfl] at H; exact H
                            clear H
                            have H := H1
                            clear H1
                            by_cases c35 : a0.size + 1 ≤ 9223372036854775807
                            · rw [if_pos c35] at H
                              have c35b0 := eq_true c35
                              have c35b1 : decide (a0.size + 1 ≤ 9223372036854775807) = true := decide_eq_true c35
                              try have c35b2 : (9223372036854775807 < a0.size + 1) = False := eq_false (Nat.not_lt.2 c35)
                              by_cases c36 : (a0 ++ (⟨#[42]⟩ : ByteArray)).size + a2.size ≤ 9223372036854775807
                              · rw [if_pos c36] at H
                                have c36b0 := eq_true c36
                                have c36b1 : decide ((a0 ++ (⟨#[42]⟩ : ByteArray)).size + a2.size ≤ 9223372036854775807) = true := decide_eq_true c36
                                try have c36b2 : (9223372036854775807 < (a0 ++ (⟨#[42]⟩ : ByteArray)).size + a2.size) = False := eq_false (Nat.not_lt.2 c36)
                                by_cases c37 : a0.size + a1.size ≤ 9223372036854775807
                                · rw [if_pos c37] at H
                                  have c37b0 := eq_true c37
                                  have c37b1 : decide (a0.size + a1.size ≤ 9223372036854775807) = true := decide_eq_true c37
                                  try have c37b2 : (9223372036854775807 < a0.size + a1.size) = False := eq_false (Nat.not_lt.2 c37)
                                  by_cases c38 : (a0 ++ a1).size + a2.size ≤ 9223372036854775807
                                  · rw [if_pos c38] at H
                                    have c38b0 := eq_true c38
                                    have c38b1 : decide ((a0 ++ a1).size + a2.size ≤ 9223372036854775807) = true := decide_eq_true c38
                                    try have c38b2 : (9223372036854775807 < (a0 ++ a1).size + a2.size) = False := eq_false (Nat.not_lt.2 c38)
                                    replace H := Option.bind_eq_some_iff.mp H
                                    obtain ⟨t148, A390, H⟩ := H
                                    replace H : (if t148 = true then (if x7_2 = true then (some true) else (if (a0 ++ (⟨#[37]⟩ : ByteArray)).size + a2.size ≤ 9223372036854775807 then ((boxes_Fits.f ((a0 ++ (⟨#[37]⟩ : ByteArray)) ++ a2) ((a0 ++ a1) ++ a2)).bind fun t149 => (some t149)) else (none))) else (some false)) = some r := H
                                    have A39 := Aside0.mk A390
                                    clear A390
                                    by_cases c40 : t148 = true
                                    · subst c40
                                      have H1 : (if x7_2 = true then (some true) else (if (a0 ++ (⟨#[37]⟩ : ByteArray)).size + a2.size ≤ 9223372036854775807 then ((boxes_Fits.f ((a0 ++ (⟨#[37]⟩ : ByteArray)) ++ a2) ((a0 ++ a1) ++ a2)).bind fun t149 => (some t149)) else (none))) = some r := by rw [if_pos rfl] at H; exact H
                                      clear H
                                      have H := H1
                                      clear H1
                                      by_cases c41 : x7_2 = true
                                      · subst c41
                                        have H1 : (some true) = some r := by rw [if_pos rfl] at H; exact H
                                        clear H
                                        have H := H1
                                        clear H1
                                        obtain rfl := Option.some.inj H
                                        go_wp2_with (first | ((with_reducible refine gate_callee (f := 8) rfl ?_); refine goesL_ (some 67) rfl rfl Try.func8 (by kernel_rfl) rfl #[.string (⟨#[42]⟩ : ByteArray), .string a0] rfl (by (try simp only [List.map_toArray, List.map_cons, List.map_nil]); first | done | rfl | (simp only [List.length_drop, List.length_take]; rfl)) ?_; (with_reducible refine (boxes_Fits.calls (⟨#[42]⟩ : ByteArray) a0 true _ A29.out).mono ?_); rintro e w42 ⟨rfl, hb⟩; refine ⟨_, rfl, ?_⟩; have n0_ := Aside0.mk (Kd.R_below (by (with_reducible repeat (first | apply Kd.R_alloc | apply Kd.R_drewN | apply Kd.R_drew)); exact HO_43.out) hb); have n1_ := Aside0.mk (below_step (by repeat (first | (with_reducible first | exact HB.out | apply below_alloc | apply pw_below_drewN | apply below_drew1) | exact HB.out | exact Below.refl _ _)) hb); clear HO_43; clear HB; have HO_43 := n0_; have HB := n1_; clear n0_ n1_; (try clear hb); (try clear hb2); (try clear hk); (try clear hi)) | (go_at_call 8; (with_reducible refine (boxes_Fits.calls (⟨#[37]⟩ : ByteArray) a1 t146 _ A31.out).mono ?_); rintro e w43 ⟨rfl, hb⟩; have n0_ := Aside0.mk (Kd.R_below (by (with_reducible repeat (first | apply Kd.R_alloc | apply Kd.R_drewN | apply Kd.R_drew)); exact HO_43.out) hb); have n1_ := Aside0.mk (below_step (by repeat (first | (with_reducible first | exact HB.out | apply below_alloc | apply pw_below_drewN | apply below_drew1) | exact HB.out | exact Below.refl _ _)) hb); clear HO_43; clear HB; have HO_43 := n0_; have HB := n1_; clear n0_ n1_; (try clear hb); (try clear hb2); (try clear hk); (try clear hi)) | (go_at_call 8; (with_reducible refine (boxes_Fits.calls a0 a0 true _ A33.out).mono ?_); rintro e w44 ⟨rfl, hb⟩; have n0_ := Aside0.mk (Kd.R_below (by (with_reducible repeat (first | apply Kd.R_alloc | apply Kd.R_drewN | apply Kd.R_drew)); exact HO_43.out) hb); have n1_ := Aside0.mk (below_step (by repeat (first | (with_reducible first | exact HB.out | apply below_alloc | apply pw_below_drewN | apply below_drew1) | exact HB.out | exact Below.refl _ _)) hb); clear HO_43; clear HB; have HO_43 := n0_; have HB := n1_; clear n0_ n1_; (try clear hb); (try clear hb2); (try clear hk); (try clear hi)) | (go_at_call 8; (with_reducible refine (boxes_Fits.calls ((a0 ++ (⟨#[42]⟩ : ByteArray)) ++ a2) ((a0 ++ a1) ++ a2) true _ A39.out).mono ?_); rintro e w45 ⟨rfl, hb⟩; have n0_ := Aside0.mk (Kd.R_below (by (with_reducible repeat (first | apply Kd.R_alloc | apply Kd.R_drewN | apply Kd.R_drew)); exact HO_43.out) hb); have n1_ := Aside0.mk (below_step (by repeat (first | (with_reducible first | exact HB.out | apply below_alloc | apply pw_below_drewN | apply below_drew1) | exact HB.out | exact Below.refl _ _)) hb); clear HO_43; clear HB; have HO_43 := n0_; have HB := n1_; clear n0_ n1_; (try clear hb); (try clear hb2); (try clear hk); (try clear hi)))
                                        go_ret
                                        exact ⟨by first | rfl | (simp [errW_none, errW_some] <;> rfl) | (simp [*, errW_none, errW_some] <;> rfl), by repeat (first | (with_reducible first | exact HB.out | apply below_alloc | apply pw_below_drewN | apply below_drew1) | exact HB.out | exact Below.refl _ _)⟩
                                      · replace c41 := Bool.eq_false_iff.mpr c41
                                        subst c41
                                        have H1 : (if (a0 ++ (⟨#[37]⟩ : ByteArray)).size + a2.size ≤ 9223372036854775807 then ((boxes_Fits.f ((a0 ++ (⟨#[37]⟩ : ByteArray)) ++ a2) ((a0 ++ a1) ++ a2)).bind fun t149 => (some t149)) else (none)) = some r := by rw [if_neg (show ¬ (false = true) by decide)] at H; exact H
                                        clear H
                                        have H := H1
                                        clear H1
                                        by_cases c46 : (a0 ++ (⟨#[37]⟩ : ByteArray)).size + a2.size ≤ 9223372036854775807
                                        · rw [if_pos c46] at H
                                          have c46b0 := eq_true c46
                                          have c46b1 : decide ((a0 ++ (⟨#[37]⟩ : ByteArray)).size + a2.size ≤ 9223372036854775807) = true := decide_eq_true c46
                                          try have c46b2 : (9223372036854775807 < (a0 ++ (⟨#[37]⟩ : ByteArray)).size + a2.size) = False := eq_false (Nat.not_lt.2 c46)
                                          replace H := Option.bind_eq_some_iff.mp H
                                          obtain ⟨t149, A470, H⟩ := H
                                          replace H : (some t149) = some r := H
                                          have A47 := Aside0.mk A470
                                          clear A470
                                          obtain rfl := Option.some.inj H
                                          go_wp2_with (first | ((with_reducible refine gate_callee (f := 8) rfl ?_); refine goesL_ (some 67) rfl rfl Try.func8 (by kernel_rfl) rfl #[.string (⟨#[42]⟩ : ByteArray), .string a0] rfl (by (try simp only [List.map_toArray, List.map_cons, List.map_nil]); first | done | rfl | (simp only [List.length_drop, List.length_take]; rfl)) ?_; (with_reducible refine (boxes_Fits.calls (⟨#[42]⟩ : ByteArray) a0 true _ A29.out).mono ?_); rintro e w48 ⟨rfl, hb⟩; refine ⟨_, rfl, ?_⟩; have n0_ := Aside0.mk (Kd.R_below (by (with_reducible repeat (first | apply Kd.R_alloc | apply Kd.R_drewN | apply Kd.R_drew)); exact HO_43.out) hb); have n1_ := Aside0.mk (below_step (by repeat (first | (with_reducible first | exact HB.out | apply below_alloc | apply pw_below_drewN | apply below_drew1) | exact HB.out | exact Below.refl _ _)) hb); clear HO_43; clear HB; have HO_43 := n0_; have HB := n1_; clear n0_ n1_; (try clear hb); (try clear hb2); (try clear hk); (try clear hi)) | (go_at_call 8; (with_reducible refine (boxes_Fits.calls (⟨#[37]⟩ : ByteArray) a1 t146 _ A31.out).mono ?_); rintro e w49 ⟨rfl, hb⟩; have n0_ := Aside0.mk (Kd.R_below (by (with_reducible repeat (first | apply Kd.R_alloc | apply Kd.R_drewN | apply Kd.R_drew)); exact HO_43.out) hb); have n1_ := Aside0.mk (below_step (by repeat (first | (with_reducible first | exact HB.out | apply below_alloc | apply pw_below_drewN | apply below_drew1) | exact HB.out | exact Below.refl _ _)) hb); clear HO_43; clear HB; have HO_43 := n0_; have HB := n1_; clear n0_ n1_; (try clear hb); (try clear hb2); (try clear hk); (try clear hi)) | (go_at_call 8; (with_reducible refine (boxes_Fits.calls a0 a0 true _ A33.out).mono ?_); rintro e w50 ⟨rfl, hb⟩; have n0_ := Aside0.mk (Kd.R_below (by (with_reducible repeat (first | apply Kd.R_alloc | apply Kd.R_drewN | apply Kd.R_drew)); exact HO_43.out) hb); have n1_ := Aside0.mk (below_step (by repeat (first | (with_reducible first | exact HB.out | apply below_alloc | apply pw_below_drewN | apply below_drew1) | exact HB.out | exact Below.refl _ _)) hb); clear HO_43; clear HB; have HO_43 := n0_; have HB := n1_; clear n0_ n1_; (try clear hb); (try clear hb2); (try clear hk); (try clear hi)) | (go_at_call 8; (with_reducible refine (boxes_Fits.calls ((a0 ++ (⟨#[42]⟩ : ByteArray)) ++ a2) ((a0 ++ a1) ++ a2) true _ A39.out).mono ?_); rintro e w51 ⟨rfl, hb⟩; have n0_ := Aside0.mk (Kd.R_below (by (with_reducible repeat (first | apply Kd.R_alloc | apply Kd.R_drewN | apply Kd.R_drew)); exact HO_43.out) hb); have n1_ := Aside0.mk (below_step (by repeat (first | (with_reducible first | exact HB.out | apply below_alloc | apply pw_below_drewN | apply below_drew1) | exact HB.out | exact Below.refl _ _)) hb); clear HO_43; clear HB; have HO_43 := n0_; have HB := n1_; clear n0_ n1_; (try clear hb); (try clear hb2); (try clear hk); (try clear hi)) | (go_at_call 8; (with_reducible refine (boxes_Fits.calls ((a0 ++ (⟨#[37]⟩ : ByteArray)) ++ a2) ((a0 ++ a1) ++ a2) t149 _ A47.out).mono ?_); rintro e w52 ⟨rfl, hb⟩; have n0_ := Aside0.mk (Kd.R_below (by (with_reducible repeat (first | apply Kd.R_alloc | apply Kd.R_drewN | apply Kd.R_drew)); exact HO_43.out) hb); have n1_ := Aside0.mk (below_step (by repeat (first | (with_reducible first | exact HB.out | apply below_alloc | apply pw_below_drewN | apply below_drew1) | exact HB.out | exact Below.refl _ _)) hb); clear HO_43; clear HB; have HO_43 := n0_; have HB := n1_; clear n0_ n1_; (try clear hb); (try clear hb2); (try clear hk); (try clear hi)))
                                          go_ret
                                          exact ⟨by first | rfl | (simp [errW_none, errW_some] <;> rfl) | (simp [*, errW_none, errW_some] <;> rfl), by repeat (first | (with_reducible first | exact HB.out | apply below_alloc | apply pw_below_drewN | apply below_drew1) | exact HB.out | exact Below.refl _ _)⟩
                                        · rw [if_neg c46] at H
                                          exact absurd H (by simp)
                                    · replace c40 := Bool.eq_false_iff.mpr c40
                                      subst c40
                                      have H1 : (some false) = some r := by rw [if_neg (show ¬ (false = true) by decide)] at H; exact H
                                      clear H
                                      have H := H1
                                      clear H1
                                      obtain rfl := Option.some.inj H
                                      go_wp2_with (first | ((with_reducible refine gate_callee (f := 8) rfl ?_); refine goesL_ (some 67) rfl rfl Try.func8 (by kernel_rfl) rfl #[.string (⟨#[42]⟩ : ByteArray), .string a0] rfl (by (try simp only [List.map_toArray, List.map_cons, List.map_nil]); first | done | rfl | (simp only [List.length_drop, List.length_take]; rfl)) ?_; (with_reducible refine (boxes_Fits.calls (⟨#[42]⟩ : ByteArray) a0 true _ A29.out).mono ?_); rintro e w53 ⟨rfl, hb⟩; refine ⟨_, rfl, ?_⟩; have n0_ := Aside0.mk (Kd.R_below (by (with_reducible repeat (first | apply Kd.R_alloc | apply Kd.R_drewN | apply Kd.R_drew)); exact HO_43.out) hb); have n1_ := Aside0.mk (below_step (by repeat (first | (with_reducible first | exact HB.out | apply below_alloc | apply pw_below_drewN | apply below_drew1) | exact HB.out | exact Below.refl _ _)) hb); clear HO_43; clear HB; have HO_43 := n0_; have HB := n1_; clear n0_ n1_; (try clear hb); (try clear hb2); (try clear hk); (try clear hi)) | (go_at_call 8; (with_reducible refine (boxes_Fits.calls (⟨#[37]⟩ : ByteArray) a1 t146 _ A31.out).mono ?_); rintro e w54 ⟨rfl, hb⟩; have n0_ := Aside0.mk (Kd.R_below (by (with_reducible repeat (first | apply Kd.R_alloc | apply Kd.R_drewN | apply Kd.R_drew)); exact HO_43.out) hb); have n1_ := Aside0.mk (below_step (by repeat (first | (with_reducible first | exact HB.out | apply below_alloc | apply pw_below_drewN | apply below_drew1) | exact HB.out | exact Below.refl _ _)) hb); clear HO_43; clear HB; have HO_43 := n0_; have HB := n1_; clear n0_ n1_; (try clear hb); (try clear hb2); (try clear hk); (try clear hi)) | (go_at_call 8; (with_reducible refine (boxes_Fits.calls a0 a0 true _ A33.out).mono ?_); rintro e w55 ⟨rfl, hb⟩; have n0_ := Aside0.mk (Kd.R_below (by (with_reducible repeat (first | apply Kd.R_alloc | apply Kd.R_drewN | apply Kd.R_drew)); exact HO_43.out) hb); have n1_ := Aside0.mk (below_step (by repeat (first | (with_reducible first | exact HB.out | apply below_alloc | apply pw_below_drewN | apply below_drew1) | exact HB.out | exact Below.refl _ _)) hb); clear HO_43; clear HB; have HO_43 := n0_; have HB := n1_; clear n0_ n1_; (try clear hb); (try clear hb2); (try clear hk); (try clear hi)) | (go_at_call 8; (with_reducible refine (boxes_Fits.calls ((a0 ++ (⟨#[42]⟩ : ByteArray)) ++ a2) ((a0 ++ a1) ++ a2) false _ A39.out).mono ?_); rintro e w56 ⟨rfl, hb⟩; have n0_ := Aside0.mk (Kd.R_below (by (with_reducible repeat (first | apply Kd.R_alloc | apply Kd.R_drewN | apply Kd.R_drew)); exact HO_43.out) hb); have n1_ := Aside0.mk (below_step (by repeat (first | (with_reducible first | exact HB.out | apply below_alloc | apply pw_below_drewN | apply below_drew1) | exact HB.out | exact Below.refl _ _)) hb); clear HO_43; clear HB; have HO_43 := n0_; have HB := n1_; clear n0_ n1_; (try clear hb); (try clear hb2); (try clear hk); (try clear hi)))
                                      go_ret
                                      exact ⟨by first | rfl | (simp [errW_none, errW_some] <;> rfl) | (simp [*, errW_none, errW_some] <;> rfl), by repeat (first | (with_reducible first | exact HB.out | apply below_alloc | apply pw_below_drewN | apply below_drew1) | exact HB.out | exact Below.refl _ _)⟩
                                  · rw [if_neg c38] at H
                                    exact absurd H (by simp)
                                · rw [if_neg c37] at H
                                  exact absurd H (by simp)
                              · rw [if_neg c36] at H
                                exact absurd H (by simp)
                            · rw [if_neg c35] at H
                              exact absurd H (by simp)
                          · replace c34 := Bool.eq_false_iff.mpr c34
                            subst c34
                            have H1 : (some false) = some r := by rw [if_neg (show ¬ (false = true) by decide)] at H; exact H
                            clear H
                            have H := H1
                            clear H1
                            obtain rfl := Option.some.inj H
                            go_wp2_with (first | ((with_reducible refine gate_callee (f := 8) rfl ?_); refine goesL_ (some 67) rfl rfl Try.func8 (by kernel_rfl) rfl #[.string (⟨#[42]⟩ : ByteArray), .string a0] rfl (by (try simp only [List.map_toArray, List.map_cons, List.map_nil]); first | done | rfl | (simp only [List.length_drop, List.length_take]; rfl)) ?_; (with_reducible refine (boxes_Fits.calls (⟨#[42]⟩ : ByteArray) a0 true _ A29.out).mono ?_); rintro e w57 ⟨rfl, hb⟩; refine ⟨_, rfl, ?_⟩; have n0_ := Aside0.mk (Kd.R_below (by (with_reducible repeat (first | apply Kd.R_alloc | apply Kd.R_drewN | apply Kd.R_drew)); exact HO_43.out) hb); have n1_ := Aside0.mk (below_step (by repeat (first | (with_reducible first | exact HB.out | apply below_alloc | apply pw_below_drewN | apply below_drew1) | exact HB.out | exact Below.refl _ _)) hb); clear HO_43; clear HB; have HO_43 := n0_; have HB := n1_; clear n0_ n1_; (try clear hb); (try clear hb2); (try clear hk); (try clear hi)) | (go_at_call 8; (with_reducible refine (boxes_Fits.calls (⟨#[37]⟩ : ByteArray) a1 t146 _ A31.out).mono ?_); rintro e w58 ⟨rfl, hb⟩; have n0_ := Aside0.mk (Kd.R_below (by (with_reducible repeat (first | apply Kd.R_alloc | apply Kd.R_drewN | apply Kd.R_drew)); exact HO_43.out) hb); have n1_ := Aside0.mk (below_step (by repeat (first | (with_reducible first | exact HB.out | apply below_alloc | apply pw_below_drewN | apply below_drew1) | exact HB.out | exact Below.refl _ _)) hb); clear HO_43; clear HB; have HO_43 := n0_; have HB := n1_; clear n0_ n1_; (try clear hb); (try clear hb2); (try clear hk); (try clear hi)) | (go_at_call 8; (with_reducible refine (boxes_Fits.calls a0 a0 false _ A33.out).mono ?_); rintro e w59 ⟨rfl, hb⟩; have n0_ := Aside0.mk (Kd.R_below (by (with_reducible repeat (first | apply Kd.R_alloc | apply Kd.R_drewN | apply Kd.R_drew)); exact HO_43.out) hb); have n1_ := Aside0.mk (below_step (by repeat (first | (with_reducible first | exact HB.out | apply below_alloc | apply pw_below_drewN | apply below_drew1) | exact HB.out | exact Below.refl _ _)) hb); clear HO_43; clear HB; have HO_43 := n0_; have HB := n1_; clear n0_ n1_; (try clear hb); (try clear hb2); (try clear hk); (try clear hi)))
                            go_ret
                            exact ⟨by first | rfl | (simp [errW_none, errW_some] <;> rfl) | (simp [*, errW_none, errW_some] <;> rfl), by repeat (first | (with_reducible first | exact HB.out | apply below_alloc | apply pw_below_drewN | apply below_drew1) | exact HB.out | exact Below.refl _ _)⟩
                        · rw [if_neg c32] at H
                          have c32b0 : (t146 == (!x7_2)) = false := by simpa using c32
                          have c32z : t146 = x7_2 := (by decide : ∀ a b : Bool, (a == !b) = false → a = b) t146 x7_2 c32b0
                          (try (have c32b1 : decide (t146 = (!x7_2)) = false := by simpa using c32))
                          (try (have c32b2 : (t146 == (!x7_2)) = false := by simpa using c32))
                          (try (have c32b3 : ¬ (t146 = (!x7_2)) := by simpa using c32))
                          clear c32
                          obtain rfl := Option.some.inj H
                          go_wp2_with (first | ((with_reducible refine gate_callee (f := 8) rfl ?_); refine goesL_ (some 67) rfl rfl Try.func8 (by kernel_rfl) rfl #[.string (⟨#[42]⟩ : ByteArray), .string a0] rfl (by (try simp only [List.map_toArray, List.map_cons, List.map_nil]); first | done | rfl | (simp only [List.length_drop, List.length_take]; rfl)) ?_; (with_reducible refine (boxes_Fits.calls (⟨#[42]⟩ : ByteArray) a0 true _ A29.out).mono ?_); rintro e w60 ⟨rfl, hb⟩; refine ⟨_, rfl, ?_⟩; have n0_ := Aside0.mk (Kd.R_below (by (with_reducible repeat (first | apply Kd.R_alloc | apply Kd.R_drewN | apply Kd.R_drew)); exact HO_43.out) hb); have n1_ := Aside0.mk (below_step (by repeat (first | (with_reducible first | exact HB.out | apply below_alloc | apply pw_below_drewN | apply below_drew1) | exact HB.out | exact Below.refl _ _)) hb); clear HO_43; clear HB; have HO_43 := n0_; have HB := n1_; clear n0_ n1_; (try clear hb); (try clear hb2); (try clear hk); (try clear hi)) | (go_at_call 8; (with_reducible refine (boxes_Fits.calls (⟨#[37]⟩ : ByteArray) a1 t146 _ A31.out).mono ?_); rintro e w61 ⟨rfl, hb⟩; have n0_ := Aside0.mk (Kd.R_below (by (with_reducible repeat (first | apply Kd.R_alloc | apply Kd.R_drewN | apply Kd.R_drew)); exact HO_43.out) hb); have n1_ := Aside0.mk (below_step (by repeat (first | (with_reducible first | exact HB.out | apply below_alloc | apply pw_below_drewN | apply below_drew1) | exact HB.out | exact Below.refl _ _)) hb); clear HO_43; clear HB; have HO_43 := n0_; have HB := n1_; clear n0_ n1_; (try clear hb); (try clear hb2); (try clear hk); (try clear hi)))
                          go_ret
                          exact ⟨by first | rfl | (simp [errW_none, errW_some] <;> rfl) | (simp [*, errW_none, errW_some] <;> rfl), by repeat (first | (with_reducible first | exact HB.out | apply below_alloc | apply pw_below_drewN | apply below_drew1) | exact HB.out | exact Below.refl _ _)⟩
                      · replace c30 := Bool.eq_false_iff.mpr c30
                        subst c30
                        have H1 : (some false) = some r := by rw [if_neg (show ¬ (false = true) by decide)] at H; exact H
                        clear H
                        have H := H1
                        clear H1
                        obtain rfl := Option.some.inj H
                        go_wp2_with (first | ((with_reducible refine gate_callee (f := 8) rfl ?_); refine goesL_ (some 67) rfl rfl Try.func8 (by kernel_rfl) rfl #[.string (⟨#[42]⟩ : ByteArray), .string a0] rfl (by (try simp only [List.map_toArray, List.map_cons, List.map_nil]); first | done | rfl | (simp only [List.length_drop, List.length_take]; rfl)) ?_; (with_reducible refine (boxes_Fits.calls (⟨#[42]⟩ : ByteArray) a0 false _ A29.out).mono ?_); rintro e w62 ⟨rfl, hb⟩; refine ⟨_, rfl, ?_⟩; have n0_ := Aside0.mk (Kd.R_below (by (with_reducible repeat (first | apply Kd.R_alloc | apply Kd.R_drewN | apply Kd.R_drew)); exact HO_43.out) hb); have n1_ := Aside0.mk (below_step (by repeat (first | (with_reducible first | exact HB.out | apply below_alloc | apply pw_below_drewN | apply below_drew1) | exact HB.out | exact Below.refl _ _)) hb); clear HO_43; clear HB; have HO_43 := n0_; have HB := n1_; clear n0_ n1_; (try clear hb); (try clear hb2); (try clear hk); (try clear hi)))
                        go_ret
                        exact ⟨by first | rfl | (simp [errW_none, errW_some] <;> rfl) | (simp [*, errW_none, errW_some] <;> rfl), by repeat (first | (with_reducible first | exact HB.out | apply below_alloc | apply pw_below_drewN | apply below_drew1) | exact HB.out | exact Below.refl _ _)⟩
  · replace c5 := Bool.eq_false_iff.mpr c5
    subst c5
    have H1 : (some false) = some r := by rw [if_neg (show ¬ (false = true) by decide)] at H; exact H
    clear H
    have H := H1
    clear H1
    obtain rfl := Option.some.inj H
    go_enter Try.func4, Try.ntmps4
    go_wp2_with (first | ((with_reducible refine gate_callee (f := 7) rfl ?_); refine goesL_ (some 12) rfl rfl Try.func7 (by kernel_rfl) rfl #[] rfl (by (try simp only [List.map_toArray, List.map_cons, List.map_nil]); first | done | rfl | (simp only [List.length_drop, List.length_take]; rfl)) ?_; (with_reducible refine (postbaglaw13_alive.calls  false _ A4.out).mono ?_); rintro e w63 ⟨rfl, hb⟩; refine ⟨_, rfl, ?_⟩; have n0_ := Aside0.mk (below_step (by repeat (first | (with_reducible first | exact HB.out | apply below_alloc | apply pw_below_drewN | apply below_drew1) | exact HB.out | exact Below.refl _ _)) hb); clear HB; have HB := n0_; clear n0_; (try clear hb); (try clear hb2); (try clear hk); (try clear hi)))
    go_ret
    exact ⟨by first | rfl | (simp [errW_none, errW_some] <;> rfl) | (simp [*, errW_none, errW_some] <;> rfl), by repeat (first | (with_reducible first | exact HB.out | apply below_alloc | apply pw_below_drewN | apply below_drew1) | exact HB.out | exact Below.refl _ _)⟩

/-- THE ONE PURE STATEMENT of postbaglaw13_BoxesStars: yours. -/
def postbaglaw13_BoxesStars.Pure : Prop := ∀ (a0 : ByteArray) (a1 : ByteArray) (a2 : ByteArray), a0.size ≤ 140737488351232 → a1.size ≤ 140737488351232 → a2.size ≤ 140737488351232 → ∃ k, postbaglaw13_BoxesStars.f k a0 a1 a2 = some true
theorem postbaglaw13_BoxesStars.walk (P : postbaglaw13_BoxesStars.Pure) (a0 : ByteArray) (a1 : ByteArray) (a2 : ByteArray) (w : World) (w0 : a0.size ≤ 140737488351232) (w1 : a1.size ≤ 140737488351232) (w2 : a2.size ≤ 140737488351232) :
    Calls Try.prog 4 #[.string a0, .string a1, .string a2] w fun e w' => e = .returned (.bool true) ∧ Below w.heap.size w w' := by
  obtain ⟨k, h⟩ := P a0 a1 a2 w0 w1 w2
  refine (postbaglaw13_BoxesStars.calls k a0 a1 a2 true w h).mono ?_
  rintro e w' ⟨rfl, hd⟩
  exact ⟨rfl, hd⟩

end Go.Proofs.Ythlofokgbogndab.GBoxes
