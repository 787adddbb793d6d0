/- Steps towards RBoth: GSixx2. -/
import Derived.Test.YtpcfnkmljchiiaaGreatDoorZ20
import Derived.Test.YtpcfnkmljchiiaaGreatDoorZ29
set_option linter.unusedVariables false
set_option linter.unusedSimpArgs false
/- Written by a program of mine (wip/tools/mkprint.py turns the kit's print; given contracts by hand). Lean checks it. -/
namespace Go.Proofs.YtpcfnkmljchiiaaGreatDoor.GSix
open Go.RowKit Go.Proofs.YtpcfnkmljchiiaaGreatDoorW.PrintWords Go.Proofs.YtpcfnkmljchiiaaGreatDoorW.PrintLast Go.Proofs.YtpcfnkmljchiiaaGreatDoorW.PrintMore
attribute [local go_sem] max2_int min2_int max_two min_two max_three min_three max_four min_four   -- for this text's walks alone

/-! ### postbagref06_Form: function 19 -/
mutual
def postbagref06_Form.j0 : Nat → List (S62) → Bool → Option (Bool)
  | 0, _, _ => none
  | k + 1, x0, x14 => if x14 = true then (some false) else (postbagref06_Form.l0 k x0 1 x0 (x0.length : Int) 0)
def postbagref06_Form.l0 : Nat → List (S62) → Int → List (S62) → Int → Int → Option (Bool)
  | 0, _, _, _, _, _ => none
  | k + 1, x0, x3, x15, x16, x17 => if x17 < x16 then (if 0 ≤ x17 then (if x17 < (x15.length : Int) then (if ((rd_T62 x15 x17).f0) < 1 then (postbagref06_Form.j2 k x0 x3 x17 x15 x16 x17 true ((rd_T62 x15 x17).f0) ((rd_T62 x15 x17).f1) ((rd_T62 x15 x17).f2) ((rd_T62 x15 x17).f3)) else (if ((rd_T62 x15 x17).f0) > 3 then (postbagref06_Form.j2 k x0 x3 x17 x15 x16 x17 true ((rd_T62 x15 x17).f0) ((rd_T62 x15 x17).f1) ((rd_T62 x15 x17).f2) ((rd_T62 x15 x17).f3)) else ((postbagref05_Right.f k ((rd_T62 x15 x17).f1)).bind fun t105 => (if t105 = true then (if ((rd_T62 x15 x17).f1).toList = ([114, 101, 100, 111] : List UInt8) then (postbagref06_Form.j2 k x0 x3 x17 x15 x16 x17 true ((rd_T62 x15 x17).f0) ((rd_T62 x15 x17).f1) ((rd_T62 x15 x17).f2) ((rd_T62 x15 x17).f3)) else (if ((rd_T62 x15 x17).f2) < 0 then (postbagref06_Form.j2 k x0 x3 x17 x15 x16 x17 true ((rd_T62 x15 x17).f0) ((rd_T62 x15 x17).f1) ((rd_T62 x15 x17).f2) ((rd_T62 x15 x17).f3)) else (if ((rd_T62 x15 x17).f2) > 1073741824 then (postbagref06_Form.j2 k x0 x3 x17 x15 x16 x17 true ((rd_T62 x15 x17).f0) ((rd_T62 x15 x17).f1) ((rd_T62 x15 x17).f2) ((rd_T62 x15 x17).f3)) else (if ((rd_T62 x15 x17).f0) = 1 then (if ((rd_T62 x15 x17).f0) = 3 then (if (((rd_T62 x15 x17).f3).length : Int) > 0 then (postbagref06_Form.j2 k x0 x3 x17 x15 x16 x17 true ((rd_T62 x15 x17).f0) ((rd_T62 x15 x17).f1) ((rd_T62 x15 x17).f2) ((rd_T62 x15 x17).f3)) else (postbagref06_Form.j2 k x0 x3 x17 x15 x16 x17 (decide ((((rd_T62 x15 x17).f3).length : Int) > 400000)) ((rd_T62 x15 x17).f0) ((rd_T62 x15 x17).f1) ((rd_T62 x15 x17).f2) ((rd_T62 x15 x17).f3))) else (postbagref06_Form.j2 k x0 x3 x17 x15 x16 x17 (decide ((((rd_T62 x15 x17).f3).length : Int) > 400000)) ((rd_T62 x15 x17).f0) ((rd_T62 x15 x17).f1) ((rd_T62 x15 x17).f2) ((rd_T62 x15 x17).f3))) else (if ((rd_T62 x15 x17).f2) = 0 then (if ((rd_T62 x15 x17).f0) = 3 then (if (((rd_T62 x15 x17).f3).length : Int) > 0 then (postbagref06_Form.j2 k x0 x3 x17 x15 x16 x17 true ((rd_T62 x15 x17).f0) ((rd_T62 x15 x17).f1) ((rd_T62 x15 x17).f2) ((rd_T62 x15 x17).f3)) else (postbagref06_Form.j2 k x0 x3 x17 x15 x16 x17 (decide ((((rd_T62 x15 x17).f3).length : Int) > 400000)) ((rd_T62 x15 x17).f0) ((rd_T62 x15 x17).f1) ((rd_T62 x15 x17).f2) ((rd_T62 x15 x17).f3))) else (postbagref06_Form.j2 k x0 x3 x17 x15 x16 x17 (decide ((((rd_T62 x15 x17).f3).length : Int) > 400000)) ((rd_T62 x15 x17).f0) ((rd_T62 x15 x17).f1) ((rd_T62 x15 x17).f2) ((rd_T62 x15 x17).f3))) else (postbagref06_Form.j2 k x0 x3 x17 x15 x16 x17 true ((rd_T62 x15 x17).f0) ((rd_T62 x15 x17).f1) ((rd_T62 x15 x17).f2) ((rd_T62 x15 x17).f3))))))) else (postbagref06_Form.j2 k x0 x3 x17 x15 x16 x17 true ((rd_T62 x15 x17).f0) ((rd_T62 x15 x17).f1) ((rd_T62 x15 x17).f2) ((rd_T62 x15 x17).f3)))))) else (none)) else (none)) else (some (decide (x3 ≤ 400000)))
def postbagref06_Form.j2 : Nat → List (S62) → Int → Int → List (S62) → Int → Int → Bool → Int → ByteArray → Int → List Int → Option (Bool)
  | 0, _, _, _, _, _, _, _, _, _, _, _ => none
  | k + 1, x0, x3, x4, x15, x16, x17, x77, x105000, x105001, x105002, x105003 => if x77 = true then (some false) else (postbagref06_Form.l1 k x0 x3 x4 0 x15 x16 x17 x105000 x105001 x105002 x105003)
def postbagref06_Form.l1 : Nat → List (S62) → Int → Int → Int → List (S62) → Int → Int → Int → ByteArray → Int → List Int → Option (Bool)
  | 0, _, _, _, _, _, _, _, _, _, _, _ => none
  | k + 1, x0, x3, x4, x6, x15, x16, x17, x105000, x105001, x105002, x105003 => if x6 < x4 then (if 0 ≤ x6 then (if x6 < (x0.length : Int) then (if ((rd_T62 x0 x6).f1).toList = x105001.toList then (some false) else (postbagref06_Form.l1 k x0 x3 x4 (wrap64 (x6 + 1)) x15 x16 x17 x105000 x105001 x105002 x105003)) else (none)) else (none)) else (postbagref06_Form.l0 k x0 (wrap64 (x3 + (wrap64 ((wrap64 (10 + (x105001.size : Int))) + (x105003.length : Int))))) x15 x16 (wrap64 (x17 + 1)))
end
def postbagref06_Form.f (k : Nat) (l0 : List (S62)) : Option (Bool) := if (l0.length : Int) < 1 then (postbagref06_Form.j0 k l0 true) else (postbagref06_Form.j0 k l0 (decide ((l0.length : Int) > 16)))
theorem postbagref06_Form.mono_l : ∀ k, (∀ y0 y1, LeO (postbagref06_Form.j0 k y0 y1) (postbagref06_Form.j0 (k + 1) y0 y1)) ∧ (∀ y0 y1 y2 y3 y4, LeO (postbagref06_Form.l0 k y0 y1 y2 y3 y4) (postbagref06_Form.l0 (k + 1) y0 y1 y2 y3 y4)) ∧ (∀ y0 y1 y2 y3 y4 y5 y6 y7 y8 y9 y10, LeO (postbagref06_Form.j2 k y0 y1 y2 y3 y4 y5 y6 y7 y8 y9 y10) (postbagref06_Form.j2 (k + 1) y0 y1 y2 y3 y4 y5 y6 y7 y8 y9 y10)) ∧ (∀ y0 y1 y2 y3 y4 y5 y6 y7 y8 y9 y10, LeO (postbagref06_Form.l1 k y0 y1 y2 y3 y4 y5 y6 y7 y8 y9 y10) (postbagref06_Form.l1 (k + 1) y0 y1 y2 y3 y4 y5 y6 y7 y8 y9 y10))
  | 0 => ⟨fun _ _ r h => by simp [postbagref06_Form.j0] at h, fun _ _ _ _ _ r h => by simp [postbagref06_Form.l0] at h, fun _ _ _ _ _ _ _ _ _ _ _ r h => by simp [postbagref06_Form.j2] at h, fun _ _ _ _ _ _ _ _ _ _ _ r h => by simp [postbagref06_Form.l1] at h⟩
  | k + 1 => by
    obtain ⟨ih0, ih1, ih2, ih3⟩ := postbagref06_Form.mono_l k
    refine ⟨?_, ?_, ?_, ?_⟩
    · intro y0 y1
      unfold postbagref06_Form.j0
      repeat' first
      | (with_reducible exact ih0 _ _)
      | (with_reducible exact ih1 _ _ _ _ _)
      | (with_reducible exact ih2 _ _ _ _ _ _ _ _ _ _ _)
      | (with_reducible exact ih3 _ _ _ _ _ _ _ _ _ _ _)
      | (with_reducible exact postbagref05_Right.mono _ _)
      | (with_reducible exact LeO.refl _)
      | (with_reducible exact LeO.none _)
      | (with_reducible refine LeO.ite ?_ ?_)
      | (with_reducible refine LeO.bind ?_ (fun _ => ?_))
      | exact ih0 _ _
      | exact ih1 _ _ _ _ _
      | exact ih2 _ _ _ _ _ _ _ _ _ _ _
      | exact ih3 _ _ _ _ _ _ _ _ _ _ _
      | exact postbagref05_Right.mono _ _
      | exact LeO.none _
      | refine LeO.ite ?_ ?_
      | refine LeO.bind ?_ (fun _ => ?_)
    · intro y0 y1 y2 y3 y4
      unfold postbagref06_Form.l0
      repeat' first
      | (with_reducible exact ih0 _ _)
      | (with_reducible exact ih1 _ _ _ _ _)
      | (with_reducible exact ih2 _ _ _ _ _ _ _ _ _ _ _)
      | (with_reducible exact ih3 _ _ _ _ _ _ _ _ _ _ _)
      | (with_reducible exact postbagref05_Right.mono _ _)
      | (with_reducible exact LeO.refl _)
      | (with_reducible exact LeO.none _)
      | (with_reducible refine LeO.ite ?_ ?_)
      | (with_reducible refine LeO.bind ?_ (fun _ => ?_))
      | exact ih0 _ _
      | exact ih1 _ _ _ _ _
      | exact ih2 _ _ _ _ _ _ _ _ _ _ _
      | exact ih3 _ _ _ _ _ _ _ _ _ _ _
      | exact postbagref05_Right.mono _ _
      | exact LeO.none _
      | refine LeO.ite ?_ ?_
      | refine LeO.bind ?_ (fun _ => ?_)
    · intro y0 y1 y2 y3 y4 y5 y6 y7 y8 y9 y10
      unfold postbagref06_Form.j2
      repeat' first
      | (with_reducible exact ih0 _ _)
      | (with_reducible exact ih1 _ _ _ _ _)
      | (with_reducible exact ih2 _ _ _ _ _ _ _ _ _ _ _)
      | (with_reducible exact ih3 _ _ _ _ _ _ _ _ _ _ _)
      | (with_reducible exact postbagref05_Right.mono _ _)
      | (with_reducible exact LeO.refl _)
      | (with_reducible exact LeO.none _)
      | (with_reducible refine LeO.ite ?_ ?_)
      | (with_reducible refine LeO.bind ?_ (fun _ => ?_))
      | exact ih0 _ _
      | exact ih1 _ _ _ _ _
      | exact ih2 _ _ _ _ _ _ _ _ _ _ _
      | exact ih3 _ _ _ _ _ _ _ _ _ _ _
      | exact postbagref05_Right.mono _ _
      | exact LeO.none _
      | refine LeO.ite ?_ ?_
      | refine LeO.bind ?_ (fun _ => ?_)
    · intro y0 y1 y2 y3 y4 y5 y6 y7 y8 y9 y10
      unfold postbagref06_Form.l1
      repeat' first
      | (with_reducible exact ih0 _ _)
      | (with_reducible exact ih1 _ _ _ _ _)
      | (with_reducible exact ih2 _ _ _ _ _ _ _ _ _ _ _)
      | (with_reducible exact ih3 _ _ _ _ _ _ _ _ _ _ _)
      | (with_reducible exact postbagref05_Right.mono _ _)
      | (with_reducible exact LeO.refl _)
      | (with_reducible exact LeO.none _)
      | (with_reducible refine LeO.ite ?_ ?_)
      | (with_reducible refine LeO.bind ?_ (fun _ => ?_))
      | exact ih0 _ _
      | exact ih1 _ _ _ _ _
      | exact ih2 _ _ _ _ _ _ _ _ _ _ _
      | exact ih3 _ _ _ _ _ _ _ _ _ _ _
      | exact postbagref05_Right.mono _ _
      | exact LeO.none _
      | refine LeO.ite ?_ ?_
      | refine LeO.bind ?_ (fun _ => ?_)
theorem postbagref06_Form.mono : ∀ a0 k, LeO (postbagref06_Form.f k a0) (postbagref06_Form.f (k + 1) a0) := by
  intro a0 k
  obtain ⟨ih0, ih1, ih2, ih3⟩ := postbagref06_Form.mono_l k
  unfold postbagref06_Form.f
  repeat' first
      | (with_reducible exact ih0 _ _)
      | (with_reducible exact ih1 _ _ _ _ _)
      | (with_reducible exact ih2 _ _ _ _ _ _ _ _ _ _ _)
      | (with_reducible exact ih3 _ _ _ _ _ _ _ _ _ _ _)
      | (with_reducible exact postbagref05_Right.mono _ _)
      | (with_reducible exact LeO.refl _)
      | (with_reducible exact LeO.none _)
      | (with_reducible refine LeO.ite ?_ ?_)
      | (with_reducible refine LeO.bind ?_ (fun _ => ?_))
      | exact ih0 _ _
      | exact ih1 _ _ _ _ _
      | exact ih2 _ _ _ _ _ _ _ _ _ _ _
      | exact ih3 _ _ _ _ _ _ _ _ _ _ _
      | exact postbagref05_Right.mono _ _
      | exact LeO.none _
      | refine LeO.ite ?_ ?_
      | refine LeO.bind ?_ (fun _ => ?_)
set_option maxHeartbeats 8000000 in
set_option maxRecDepth 100000 in
theorem postbagref06_Form.calls (k : Nat) (A0 : Option Addr) (c0 : Nat) (l0 : List (S62)) (r : Bool) (w : World) (hr0 : Kd.C k62 w A0 l0.length l0) (hc0 : l0.length ≤ c0) (h : postbagref06_Form.f k l0 = some r) :
    Calls Tryz.prog 19 #[.slice A0 l0.length c0] w fun e w' => e = .returned (.bool r) ∧ Below w.heap.size w w' := by
  have hu62 := Tryz.underlying62
  have HR0 := Aside0.mk hr0
  have HC0 := Aside0.mk hc0
  clear hr0 hc0
  have HB := Aside0.mk (Below.refl w.heap.size w)
  have H : (if (l0.length : Int) < 1 then (postbagref06_Form.j0 k l0 true) else (postbagref06_Form.j0 k l0 (decide ((l0.length : Int) > 16)))) = some r := h
  clear h
  have HC2 := Aside0.mk H
  clear H
  go_enter Tryz.func19, Tryz.ntmps19
  go_upto_region 1 with (fail)
  repeat (go_quiet (fail); go_upto_region 1 with (fail))
  go_cut [14] (fun v14 wc => ∃ (kq : Nat) (x14_1 : Bool), v14 = .bool x14_1 ∧ Aside0 (postbagref06_Form.j0 kq l0 x14_1 = some r) ∧ Aside0 (kq ≤ k) ∧ Aside0 (Below w.heap.size w wc))
  case first =>
    have H := HC2.out
    clear HC2
    by_cases c3 : (l0.length : Int) < 1
    · rw [if_pos c3] at H
      have c3b0 : decide ((l0.length : Int) < 1) = true := decide_eq_true c3
      have c3b1 : decide (l0.length < 1) = true := decide_eq_true (by omega)
      clear c3
      (first | rw [c3b0] | (simp only [i64_w, i32_w]; rw [c3b0]) | skip)
      have H' := Aside0.mk H
      clear H
      go_wp2
      repeat (go_quiet (fail); try go_wp2)
      go_meet
      case rel => exact ⟨_, (true), (by first | rfl | (simp; done) | (simp [*]; done)), H', ⟨by first | omega | exact Nat.le_refl _⟩, ⟨by repeat (first | (with_reducible first | exact HB.out | apply below_alloc | apply pw_below_drewN | apply below_drew1) | exact HB.out | exact Below.refl _ _)⟩⟩
    · rw [if_neg c3] at H
      have c3b0 : decide ((l0.length : Int) < 1) = false := decide_eq_false c3
      have c3b1 : decide (l0.length < 1) = false := decide_eq_false (by omega)
      clear c3
      (first | rw [c3b0] | (simp only [i64_w, i32_w]; rw [c3b0]) | skip)
      have H' := Aside0.mk H
      clear H
      go_wp2
      repeat (go_quiet (fail); try go_wp2)
      go_meet
      case rel => exact ⟨_, (decide ((l0.length : Int) > 16)), (by first | rfl | (simp; done) | (simp [*]; done)), H', ⟨by first | omega | exact Nat.le_refl _⟩, ⟨by repeat (first | (with_reducible first | exact HB.out | apply below_alloc | apply pw_below_drewN | apply below_drew1) | exact HB.out | exact Below.refl _ _)⟩⟩
  case rest =>
    clear HC2
    try clear c1
    try clear p2
    try clear c3
    try clear c3b0
    try clear c3b1
    obtain ⟨kq, x14_1, rfl, HA, HJ1, HB⟩ := hcut
    cases kq with
    | zero => exact absurd HA.out (by simp [postbagref06_Form.j0])
    | succ kj1 =>
      have H := HA.out
      clear HA
      simp only [postbagref06_Form.j0] at H
      by_cases c4 : x14_1 = true
      · subst c4
        have H1 : (some false) = some r := by rw [if_pos rfl] at H; exact H
        clear H
        have H := H1
        clear H1
        obtain rfl := Option.some.inj H
        go_wp2
        repeat (go_quiet (fail); try go_wp2)
        go_ret
        exact ⟨by first | rfl | (simp [errW_none, errW_some] <;> rfl) | (simp [*, errW_none, errW_some] <;> rfl), by repeat (first | (with_reducible first | exact HB.out | apply below_alloc | apply pw_below_drewN | apply below_drew1) | exact HB.out | exact Below.refl _ _)⟩
      · replace c4 := Bool.eq_false_iff.mpr c4
        subst c4
        have H1 : (postbagref06_Form.l0 kj1 l0 1 l0 (l0.length : Int) 0) = some r := by rw [if_neg (show ¬ (false = true) by decide)] at H; exact H
        clear H
        have H := H1
        clear H1
        have H' := Aside0.mk H
        clear H
        go_wp2
        repeat (go_quiet (fail); try go_wp2)
        go_loopg [3, 17] kj1 (fun kq v3 v17 w' => ∃ (x3_2 : Int) (x17_2 : Int), v3 = .int .i64 x3_2 ∧ v17 = .int .i64 x17_2 ∧ Aside0 (postbagref06_Form.l0 kq l0 x3_2 l0 (l0.length : Int) x17_2 = some r) ∧ Aside0 (kq ≤ kj1) ∧ Aside0 (Below w.heap.size w w'))
        case atStart => exact ⟨(1), (0), (by first | rfl | (simp; done) | (simp [*]; done)), (by first | rfl | (simp; done) | (simp [*]; done)), H', ⟨Nat.le_refl _⟩, ⟨by repeat (first | (with_reducible first | exact HB.out | apply below_alloc | apply pw_below_drewN | apply below_drew1) | exact HB.out | exact Below.refl _ _)⟩⟩
        case round =>
          clear H'
          try clear c1
          try clear p2
          try clear c3
          try clear c3b0
          try clear c3b1
          try clear c4
          try clear p2
          obtain ⟨x3_2, x17_2, rfl, rfl, HA, HK2, HB⟩ := hrel
          cases gk with
          | zero => exact absurd HA.out (by simp [postbagref06_Form.l0])
          | succ k2 =>
            have H := HA.out
            clear HA
            simp only [postbagref06_Form.l0] at H
            by_cases c5 : x17_2 < (l0.length : Int)
            · rw [if_pos c5] at H
              have c5b0 : decide (x17_2 < (l0.length : Int)) = true := decide_eq_true c5
              clear c5
              by_cases c6 : 0 ≤ x17_2
              · rw [if_pos c6] at H
                have c6b0 : decide (0 ≤ x17_2) = true := decide_eq_true c6
                clear c6
                by_cases c7 : x17_2 < (l0.length : Int)
                · rw [if_pos c7] at H
                  have c7b0 : decide (x17_2 < (l0.length : Int)) = true := decide_eq_true c7
                  clear c7
                  have HC8 := Aside0.mk H
                  clear H
                  have p103 : 0 ≤ (x17_2 : Int) := of_decide_eq_true (by first | (with_reducible assumption) | assumption)
                  have q103 : x17_2 < (l0.length : Int) := of_decide_eq_true (by first | (with_reducible assumption) | assumption)
                  obtain ⟨ad103, A103_3, c103_3, e103, hx103_0, hx103_1, hx103_2, hx103_3, hl103_3, hi103_3⟩ := at_T62 HR0.out x17_2 p103 q103
                  cases e103
                  replace hx103_0 := (HB.out.cell (World.block_lt_of_cell? w _ hx103_0)).trans hx103_0
                  replace hx103_1 := (HB.out.cell (World.block_lt_of_cell? w _ hx103_1)).trans hx103_1
                  replace hx103_2 := (HB.out.cell (World.block_lt_of_cell? w _ hx103_2)).trans hx103_2
                  replace hx103_3 := (HB.out.cell (World.block_lt_of_cell? w _ hx103_3)).trans hx103_3
                  have HR103_3 := Aside0.mk hi103_3
                  have HC103_3 := Aside0.mk hl103_3
                  clear hi103_3 hl103_3
                  replace p103 := eq_true p103
                  replace q103 := eq_true q103
                  go_upto_region 7 with (first | ((with_reducible refine gate_dst (N := 5) rfl ?_); (try (refine gate_guard (by rfl) ?_; dsimp only)); refine box_event ?hg (N := 5) ?hd (cs := #[.int .i64 0, .string (⟨#[]⟩ : ByteArray), .int .i64 0, .slice none 0 0]) (t := 62) ?hr ?_; (case hd => rfl); (case hg => rfl); (case hr => first | (go_simp; done) | (go_simp; rfl)); intro gb104 hg w9 hbox hb; have n0_ := Aside0.mk (below_step (by repeat (first | (with_reducible first | exact HB.out | apply below_alloc | apply pw_below_drewN | apply below_drew1) | exact HB.out | exact Below.refl _ _)) hb); have n1_ := Aside0.mk (hbox); have n2_ := Aside0.mk ((by rw [hg]; exact (below_size (by repeat (first | (with_reducible first | exact HB.out | apply below_alloc | apply pw_below_drewN | apply below_drew1) | exact HB.out | exact Below.refl _ _))) : w.heap.size ≤ gb104)); have n3_ := Aside0.mk ((by rw [hg]; exact (below_size (by repeat (first | (with_reducible first | exact HB.out | apply below_alloc | apply pw_below_drewN | apply below_drew1) | exact HB.out | exact Below.refl _ _))) : w.heap.size ≤ gb104)); clear HB; have HB := n0_; have BK104 := n1_; have GW104 := n2_; have GE104 := n3_; clear n0_ n1_ n2_ n3_; clear hb hbox hg; have hcz10_0 : w9.cell? ⟨gb104, 0, none⟩ = some (.int .i64 0) := (blk_cell BK104.out 0).trans rfl; have hcz10_1 : w9.cell? ⟨gb104, 1, none⟩ = some (.string (⟨#[]⟩ : ByteArray)) := (blk_cell BK104.out 1).trans rfl; have hcz10_2 : w9.cell? ⟨gb104, 2, none⟩ = some (.int .i64 0) := (blk_cell BK104.out 2).trans rfl; have hcz10_3 : w9.cell? ⟨gb104, 3, none⟩ = some (.slice none 0 0) := (blk_cell BK104.out 3).trans rfl; have hfz10_0 := blk_frozen BK104.out 0; have hfz10_1 := blk_frozen BK104.out 1; have hfz10_2 := blk_frozen BK104.out 2; have hfz10_3 := blk_frozen BK104.out 3))
                  repeat (go_quiet (first | ((with_reducible refine gate_dst (N := 5) rfl ?_); (try (refine gate_guard (by rfl) ?_; dsimp only)); refine box_event ?hg (N := 5) ?hd (cs := #[.int .i64 0, .string (⟨#[]⟩ : ByteArray), .int .i64 0, .slice none 0 0]) (t := 62) ?hr ?_; (case hd => rfl); (case hg => rfl); (case hr => first | (go_simp; done) | (go_simp; rfl)); intro gb104 hg w9 hbox hb; have n0_ := Aside0.mk (below_step (by repeat (first | (with_reducible first | exact HB.out | apply below_alloc | apply pw_below_drewN | apply below_drew1) | exact HB.out | exact Below.refl _ _)) hb); have n1_ := Aside0.mk (hbox); have n2_ := Aside0.mk ((by rw [hg]; exact (below_size (by repeat (first | (with_reducible first | exact HB.out | apply below_alloc | apply pw_below_drewN | apply below_drew1) | exact HB.out | exact Below.refl _ _))) : w.heap.size ≤ gb104)); have n3_ := Aside0.mk ((by rw [hg]; exact (below_size (by repeat (first | (with_reducible first | exact HB.out | apply below_alloc | apply pw_below_drewN | apply below_drew1) | exact HB.out | exact Below.refl _ _))) : w.heap.size ≤ gb104)); clear HB; have HB := n0_; have BK104 := n1_; have GW104 := n2_; have GE104 := n3_; clear n0_ n1_ n2_ n3_; clear hb hbox hg; have hcz10_0 : w9.cell? ⟨gb104, 0, none⟩ = some (.int .i64 0) := (blk_cell BK104.out 0).trans rfl; have hcz10_1 : w9.cell? ⟨gb104, 1, none⟩ = some (.string (⟨#[]⟩ : ByteArray)) := (blk_cell BK104.out 1).trans rfl; have hcz10_2 : w9.cell? ⟨gb104, 2, none⟩ = some (.int .i64 0) := (blk_cell BK104.out 2).trans rfl; have hcz10_3 : w9.cell? ⟨gb104, 3, none⟩ = some (.slice none 0 0) := (blk_cell BK104.out 3).trans rfl; have hfz10_0 := blk_frozen BK104.out 0; have hfz10_1 := blk_frozen BK104.out 1; have hfz10_2 := blk_frozen BK104.out 2; have hfz10_3 := blk_frozen BK104.out 3)); go_upto_region 7 with (first | ((with_reducible refine gate_dst (N := 5) rfl ?_); (try (refine gate_guard (by rfl) ?_; dsimp only)); refine box_event ?hg (N := 5) ?hd (cs := #[.int .i64 0, .string (⟨#[]⟩ : ByteArray), .int .i64 0, .slice none 0 0]) (t := 62) ?hr ?_; (case hd => rfl); (case hg => rfl); (case hr => first | (go_simp; done) | (go_simp; rfl)); intro gb104 hg w9 hbox hb; have n0_ := Aside0.mk (below_step (by repeat (first | (with_reducible first | exact HB.out | apply below_alloc | apply pw_below_drewN | apply below_drew1) | exact HB.out | exact Below.refl _ _)) hb); have n1_ := Aside0.mk (hbox); have n2_ := Aside0.mk ((by rw [hg]; exact (below_size (by repeat (first | (with_reducible first | exact HB.out | apply below_alloc | apply pw_below_drewN | apply below_drew1) | exact HB.out | exact Below.refl _ _))) : w.heap.size ≤ gb104)); have n3_ := Aside0.mk ((by rw [hg]; exact (below_size (by repeat (first | (with_reducible first | exact HB.out | apply below_alloc | apply pw_below_drewN | apply below_drew1) | exact HB.out | exact Below.refl _ _))) : w.heap.size ≤ gb104)); clear HB; have HB := n0_; have BK104 := n1_; have GW104 := n2_; have GE104 := n3_; clear n0_ n1_ n2_ n3_; clear hb hbox hg; have hcz10_0 : w9.cell? ⟨gb104, 0, none⟩ = some (.int .i64 0) := (blk_cell BK104.out 0).trans rfl; have hcz10_1 : w9.cell? ⟨gb104, 1, none⟩ = some (.string (⟨#[]⟩ : ByteArray)) := (blk_cell BK104.out 1).trans rfl; have hcz10_2 : w9.cell? ⟨gb104, 2, none⟩ = some (.int .i64 0) := (blk_cell BK104.out 2).trans rfl; have hcz10_3 : w9.cell? ⟨gb104, 3, none⟩ = some (.slice none 0 0) := (blk_cell BK104.out 3).trans rfl; have hfz10_0 := blk_frozen BK104.out 0; have hfz10_1 := blk_frozen BK104.out 1; have hfz10_2 := blk_frozen BK104.out 2; have hfz10_3 := blk_frozen BK104.out 3)))
                  (try simp only [Act.put, pkA, pkB, pkC])
                  go_cut [77] (fun v77 wc => ∃ (kq : Nat) (x77_7 : Bool), v77 = .bool x77_7 ∧ Aside0 (postbagref06_Form.j2 kq l0 x3_2 x17_2 l0 (l0.length : Int) x17_2 x77_7 ((rd_T62 l0 x17_2).f0) ((rd_T62 l0 x17_2).f1) ((rd_T62 l0 x17_2).f2) ((rd_T62 l0 x17_2).f3) = some r) ∧ Aside0 (kq ≤ k2) ∧ Aside0 (wc.heap[gb104]? = some (.cells #[.int .i64 ((rd_T62 l0 x17_2).f0), .string ((rd_T62 l0 x17_2).f1), .int .i64 ((rd_T62 l0 x17_2).f2), (.slice A103_3 ((rd_T62 l0 x17_2).f3).length c103_3)] 62 (0, 0))) ∧ Aside0 (Below w.heap.size w wc))
                  case first =>
                    have H := HC8.out
                    clear HC8
                    by_cases c11 : ((rd_T62 l0 x17_2).f0) < 1
                    · rw [if_pos c11] at H
                      have c11b0 : decide (((rd_T62 l0 x17_2).f0) < 1) = true := decide_eq_true c11
                      clear c11
                      (first | rw [c11b0] | (simp only [i64_w, i32_w]; rw [c11b0]) | skip)
                      have H' := Aside0.mk H
                      clear H
                      have hcz12_0 : w9.cell? ⟨gb104, 0, none⟩ = some (.int .i64 0) := (blk_cell BK104.out 0).trans rfl
                      have hcz12_1 : w9.cell? ⟨gb104, 1, none⟩ = some (.string (⟨#[]⟩ : ByteArray)) := (blk_cell BK104.out 1).trans rfl
                      have hcz12_2 : w9.cell? ⟨gb104, 2, none⟩ = some (.int .i64 0) := (blk_cell BK104.out 2).trans rfl
                      have hcz12_3 : w9.cell? ⟨gb104, 3, none⟩ = some (.slice none 0 0) := (blk_cell BK104.out 3).trans rfl
                      have hfz12_0 := blk_frozen BK104.out 0
                      have hfz12_1 := blk_frozen BK104.out 1
                      have hfz12_2 := blk_frozen BK104.out 2
                      have hfz12_3 := blk_frozen BK104.out 3
                      go_wp2
                      repeat (go_quiet (fail); try go_wp2)
                      go_meet
                      case rel => exact ⟨_, (true), (by first | rfl | (simp; done) | (simp [*]; done)), H', ⟨by have := HJ1.out; have := HK2.out; first | omega | exact Nat.le_refl _⟩, ⟨by (with_reducible repeat (first | refine blk_drewN ?_ _ | refine blk_drew ?_ | refine blk_alloc ?_ _)); refine blk_put (cs := #[.int .i64 ((rd_T62 l0 x17_2).f0), .string ((rd_T62 l0 x17_2).f1), .int .i64 ((rd_T62 l0 x17_2).f2), .slice none 0 0]) ?_ 3 _ rfl; (with_reducible repeat (first | refine blk_drewN ?_ _ | refine blk_drew ?_ | refine blk_alloc ?_ _)); refine blk_put (cs := #[.int .i64 ((rd_T62 l0 x17_2).f0), .string ((rd_T62 l0 x17_2).f1), .int .i64 0, .slice none 0 0]) ?_ 2 _ rfl; (with_reducible repeat (first | refine blk_drewN ?_ _ | refine blk_drew ?_ | refine blk_alloc ?_ _)); refine blk_put (cs := #[.int .i64 ((rd_T62 l0 x17_2).f0), .string (⟨#[]⟩ : ByteArray), .int .i64 0, .slice none 0 0]) ?_ 1 _ rfl; (with_reducible repeat (first | refine blk_drewN ?_ _ | refine blk_drew ?_ | refine blk_alloc ?_ _)); refine blk_put (cs := #[.int .i64 0, .string (⟨#[]⟩ : ByteArray), .int .i64 0, .slice none 0 0]) ?_ 0 _ rfl; (with_reducible repeat (first | refine blk_drewN ?_ _ | refine blk_drew ?_ | refine blk_alloc ?_ _)); exact BK104.out⟩, ⟨by repeat (first | (with_reducible first | exact HB.out | apply below_alloc | apply pw_below_drewN | apply below_drew1 | refine below_set ?_ GE104.out) | exact HB.out)⟩⟩
                    · rw [if_neg c11] at H
                      have c11b0 : decide (((rd_T62 l0 x17_2).f0) < 1) = false := decide_eq_false c11
                      clear c11
                      (first | rw [c11b0] | (simp only [i64_w, i32_w]; rw [c11b0]) | skip)
                      by_cases c13 : ((rd_T62 l0 x17_2).f0) > 3
                      · rw [if_pos c13] at H
                        have c13b0 : decide (3 < ((rd_T62 l0 x17_2).f0)) = true := decide_eq_true c13
                        clear c13
                        have H' := Aside0.mk H
                        clear H
                        have hcz14_0 : w9.cell? ⟨gb104, 0, none⟩ = some (.int .i64 0) := (blk_cell BK104.out 0).trans rfl
                        have hcz14_1 : w9.cell? ⟨gb104, 1, none⟩ = some (.string (⟨#[]⟩ : ByteArray)) := (blk_cell BK104.out 1).trans rfl
                        have hcz14_2 : w9.cell? ⟨gb104, 2, none⟩ = some (.int .i64 0) := (blk_cell BK104.out 2).trans rfl
                        have hcz14_3 : w9.cell? ⟨gb104, 3, none⟩ = some (.slice none 0 0) := (blk_cell BK104.out 3).trans rfl
                        have hfz14_0 := blk_frozen BK104.out 0
                        have hfz14_1 := blk_frozen BK104.out 1
                        have hfz14_2 := blk_frozen BK104.out 2
                        have hfz14_3 := blk_frozen BK104.out 3
                        go_wp2
                        repeat (go_quiet (fail); try go_wp2)
                        go_meet
                        case rel => exact ⟨_, (true), (by first | rfl | (simp; done) | (simp [*]; done)), H', ⟨by have := HJ1.out; have := HK2.out; first | omega | exact Nat.le_refl _⟩, ⟨by (with_reducible repeat (first | refine blk_drewN ?_ _ | refine blk_drew ?_ | refine blk_alloc ?_ _)); refine blk_put (cs := #[.int .i64 ((rd_T62 l0 x17_2).f0), .string ((rd_T62 l0 x17_2).f1), .int .i64 ((rd_T62 l0 x17_2).f2), .slice none 0 0]) ?_ 3 _ rfl; (with_reducible repeat (first | refine blk_drewN ?_ _ | refine blk_drew ?_ | refine blk_alloc ?_ _)); refine blk_put (cs := #[.int .i64 ((rd_T62 l0 x17_2).f0), .string ((rd_T62 l0 x17_2).f1), .int .i64 0, .slice none 0 0]) ?_ 2 _ rfl; (with_reducible repeat (first | refine blk_drewN ?_ _ | refine blk_drew ?_ | refine blk_alloc ?_ _)); refine blk_put (cs := #[.int .i64 ((rd_T62 l0 x17_2).f0), .string (⟨#[]⟩ : ByteArray), .int .i64 0, .slice none 0 0]) ?_ 1 _ rfl; (with_reducible repeat (first | refine blk_drewN ?_ _ | refine blk_drew ?_ | refine blk_alloc ?_ _)); refine blk_put (cs := #[.int .i64 0, .string (⟨#[]⟩ : ByteArray), .int .i64 0, .slice none 0 0]) ?_ 0 _ rfl; (with_reducible repeat (first | refine blk_drewN ?_ _ | refine blk_drew ?_ | refine blk_alloc ?_ _)); exact BK104.out⟩, ⟨by repeat (first | (with_reducible first | exact HB.out | apply below_alloc | apply pw_below_drewN | apply below_drew1 | refine below_set ?_ GE104.out) | exact HB.out)⟩⟩
                      · rw [if_neg c13] at H
                        have c13b0 : decide (3 < ((rd_T62 l0 x17_2).f0)) = false := decide_eq_false c13
                        clear c13
                        replace H := Option.bind_eq_some_iff.mp H
                        obtain ⟨t105, A150, H⟩ := H
                        replace H : (if t105 = true then (if ((rd_T62 l0 x17_2).f1).toList = ([114, 101, 100, 111] : List UInt8) then (postbagref06_Form.j2 k2 l0 x3_2 x17_2 l0 (l0.length : Int) x17_2 true ((rd_T62 l0 x17_2).f0) ((rd_T62 l0 x17_2).f1) ((rd_T62 l0 x17_2).f2) ((rd_T62 l0 x17_2).f3)) else (if ((rd_T62 l0 x17_2).f2) < 0 then (postbagref06_Form.j2 k2 l0 x3_2 x17_2 l0 (l0.length : Int) x17_2 true ((rd_T62 l0 x17_2).f0) ((rd_T62 l0 x17_2).f1) ((rd_T62 l0 x17_2).f2) ((rd_T62 l0 x17_2).f3)) else (if ((rd_T62 l0 x17_2).f2) > 1073741824 then (postbagref06_Form.j2 k2 l0 x3_2 x17_2 l0 (l0.length : Int) x17_2 true ((rd_T62 l0 x17_2).f0) ((rd_T62 l0 x17_2).f1) ((rd_T62 l0 x17_2).f2) ((rd_T62 l0 x17_2).f3)) else (if ((rd_T62 l0 x17_2).f0) = 1 then (if ((rd_T62 l0 x17_2).f0) = 3 then (if (((rd_T62 l0 x17_2).f3).length : Int) > 0 then (postbagref06_Form.j2 k2 l0 x3_2 x17_2 l0 (l0.length : Int) x17_2 true ((rd_T62 l0 x17_2).f0) ((rd_T62 l0 x17_2).f1) ((rd_T62 l0 x17_2).f2) ((rd_T62 l0 x17_2).f3)) else (postbagref06_Form.j2 k2 l0 x3_2 x17_2 l0 (l0.length : Int) x17_2 (decide ((((rd_T62 l0 x17_2).f3).length : Int) > 400000)) ((rd_T62 l0 x17_2).f0) ((rd_T62 l0 x17_2).f1) ((rd_T62 l0 x17_2).f2) ((rd_T62 l0 x17_2).f3))) else (postbagref06_Form.j2 k2 l0 x3_2 x17_2 l0 (l0.length : Int) x17_2 (decide ((((rd_T62 l0 x17_2).f3).length : Int) > 400000)) ((rd_T62 l0 x17_2).f0) ((rd_T62 l0 x17_2).f1) ((rd_T62 l0 x17_2).f2) ((rd_T62 l0 x17_2).f3))) else (if ((rd_T62 l0 x17_2).f2) = 0 then (if ((rd_T62 l0 x17_2).f0) = 3 then (if (((rd_T62 l0 x17_2).f3).length : Int) > 0 then (postbagref06_Form.j2 k2 l0 x3_2 x17_2 l0 (l0.length : Int) x17_2 true ((rd_T62 l0 x17_2).f0) ((rd_T62 l0 x17_2).f1) ((rd_T62 l0 x17_2).f2) ((rd_T62 l0 x17_2).f3)) else (postbagref06_Form.j2 k2 l0 x3_2 x17_2 l0 (l0.length : Int) x17_2 (decide ((((rd_T62 l0 x17_2).f3).length : Int) > 400000)) ((rd_T62 l0 x17_2).f0) ((rd_T62 l0 x17_2).f1) ((rd_T62 l0 x17_2).f2) ((rd_T62 l0 x17_2).f3))) else (postbagref06_Form.j2 k2 l0 x3_2 x17_2 l0 (l0.length : Int) x17_2 (decide ((((rd_T62 l0 x17_2).f3).length : Int) > 400000)) ((rd_T62 l0 x17_2).f0) ((rd_T62 l0 x17_2).f1) ((rd_T62 l0 x17_2).f2) ((rd_T62 l0 x17_2).f3))) else (postbagref06_Form.j2 k2 l0 x3_2 x17_2 l0 (l0.length : Int) x17_2 true ((rd_T62 l0 x17_2).f0) ((rd_T62 l0 x17_2).f1) ((rd_T62 l0 x17_2).f2) ((rd_T62 l0 x17_2).f3))))))) else (postbagref06_Form.j2 k2 l0 x3_2 x17_2 l0 (l0.length : Int) x17_2 true ((rd_T62 l0 x17_2).f0) ((rd_T62 l0 x17_2).f1) ((rd_T62 l0 x17_2).f2) ((rd_T62 l0 x17_2).f3))) = some r := H
                        have A15 := Aside0.mk A150
                        clear A150
                        by_cases c16 : t105 = true
                        · subst c16
                          have H1 : (if ((rd_T62 l0 x17_2).f1).toList = ([114, 101, 100, 111] : List UInt8) then (postbagref06_Form.j2 k2 l0 x3_2 x17_2 l0 (l0.length : Int) x17_2 true ((rd_T62 l0 x17_2).f0) ((rd_T62 l0 x17_2).f1) ((rd_T62 l0 x17_2).f2) ((rd_T62 l0 x17_2).f3)) else (if ((rd_T62 l0 x17_2).f2) < 0 then (postbagref06_Form.j2 k2 l0 x3_2 x17_2 l0 (l0.length : Int) x17_2 true ((rd_T62 l0 x17_2).f0) ((rd_T62 l0 x17_2).f1) ((rd_T62 l0 x17_2).f2) ((rd_T62 l0 x17_2).f3)) else (if ((rd_T62 l0 x17_2).f2) > 1073741824 then (postbagref06_Form.j2 k2 l0 x3_2 x17_2 l0 (l0.length : Int) x17_2 true ((rd_T62 l0 x17_2).f0) ((rd_T62 l0 x17_2).f1) ((rd_T62 l0 x17_2).f2) ((rd_T62 l0 x17_2).f3)) else (if ((rd_T62 l0 x17_2).f0) = 1 then (if ((rd_T62 l0 x17_2).f0) = 3 then (if (((rd_T62 l0 x17_2).f3).length : Int) > 0 then (postbagref06_Form.j2 k2 l0 x3_2 x17_2 l0 (l0.length : Int) x17_2 true ((rd_T62 l0 x17_2).f0) ((rd_T62 l0 x17_2).f1) ((rd_T62 l0 x17_2).f2) ((rd_T62 l0 x17_2).f3)) else (postbagref06_Form.j2 k2 l0 x3_2 x17_2 l0 (l0.length : Int) x17_2 (decide ((((rd_T62 l0 x17_2).f3).length : Int) > 400000)) ((rd_T62 l0 x17_2).f0) ((rd_T62 l0 x17_2).f1) ((rd_T62 l0 x17_2).f2) ((rd_T62 l0 x17_2).f3))) else (postbagref06_Form.j2 k2 l0 x3_2 x17_2 l0 (l0.length : Int) x17_2 (decide ((((rd_T62 l0 x17_2).f3).length : Int) > 400000)) ((rd_T62 l0 x17_2).f0) ((rd_T62 l0 x17_2).f1) ((rd_T62 l0 x17_2).f2) ((rd_T62 l0 x17_2).f3))) else (if ((rd_T62 l0 x17_2).f2) = 0 then (if ((rd_T62 l0 x17_2).f0) = 3 then (if (((rd_T62 l0 x17_2).f3).length : Int) > 0 then (postbagref06_Form.j2 k2 l0 x3_2 x17_2 l0 (l0.length : Int) x17_2 true ((rd_T62 l0 x17_2).f0) ((rd_T62 l0 x17_2).f1) ((rd_T62 l0 x17_2).f2) ((rd_T62 l0 x17_2).f3)) else (postbagref06_Form.j2 k2 l0 x3_2 x17_2 l0 (l0.length : Int) x17_2 (decide ((((rd_T62 l0 x17_2).f3).length : Int) > 400000)) ((rd_T62 l0 x17_2).f0) ((rd_T62 l0 x17_2).f1) ((rd_T62 l0 x17_2).f2) ((rd_T62 l0 x17_2).f3))) else (postbagref06_Form.j2 k2 l0 x3_2 x17_2 l0 (l0.length : Int) x17_2 (decide ((((rd_T62 l0 x17_2).f3).length : Int) > 400000)) ((rd_T62 l0 x17_2).f0) ((rd_T62 l0 x17_2).f1) ((rd_T62 l0 x17_2).f2) ((rd_T62 l0 x17_2).f3))) else (postbagref06_Form.j2 k2 l0 x3_2 x17_2 l0 (l0.length : Int) x17_2 true ((rd_T62 l0 x17_2).f0) ((rd_T62 l0 x17_2).f1) ((rd_T62 l0 x17_2).f2) ((rd_T62 l0 x17_2).f3))))))) = some r := by rw [if_pos rfl] at H; exact H
                          clear H
                          have H := H1
                          clear H1
                          by_cases c17 : ((rd_T62 l0 x17_2).f1).toList = ([114, 101, 100, 111] : List UInt8)
                          · rw [if_pos c17] at H
                            have c17b0 : (((rd_T62 l0 x17_2).f1).toList == ([114, 101, 100, 111] : List UInt8)) = true := beq_iff_eq.mpr c17
                            have c17b1 : (((rd_T62 l0 x17_2).f1).toList != ([114, 101, 100, 111] : List UInt8)) = false := bne_eq_false_iff_eq.mpr c17
                            clear c17
                            have H' := Aside0.mk H
                            clear H
                            have hcz18_0 : w9.cell? ⟨gb104, 0, none⟩ = some (.int .i64 0) := (blk_cell BK104.out 0).trans rfl
                            have hcz18_1 : w9.cell? ⟨gb104, 1, none⟩ = some (.string (⟨#[]⟩ : ByteArray)) := (blk_cell BK104.out 1).trans rfl
                            have hcz18_2 : w9.cell? ⟨gb104, 2, none⟩ = some (.int .i64 0) := (blk_cell BK104.out 2).trans rfl
                            have hcz18_3 : w9.cell? ⟨gb104, 3, none⟩ = some (.slice none 0 0) := (blk_cell BK104.out 3).trans rfl
                            have hfz18_0 := blk_frozen BK104.out 0
                            have hfz18_1 := blk_frozen BK104.out 1
                            have hfz18_2 := blk_frozen BK104.out 2
                            have hfz18_3 := blk_frozen BK104.out 3
                            go_wp2_with (first | (go_at_call 74; (with_reducible refine (postbagref05_Right.calls k2 ((rd_T62 l0 x17_2).f1) true _ A15.out).mono ?_); rintro e w' ⟨rfl, ⟨nd, rfl⟩⟩; (try first | exact ⟨rfl, _, World.drewN_drewN _ _ _⟩ | exact ⟨rfl, _, Eq.trans (World.drewN_drewN _ _ _) (congrArg (World.drewN _) (Nat.add_assoc _ _ _))⟩)))
                            repeat (go_quiet (first | (go_at_call 74; (with_reducible refine (postbagref05_Right.calls k2 ((rd_T62 l0 x17_2).f1) true _ A15.out).mono ?_); rintro e w' ⟨rfl, ⟨nd, rfl⟩⟩; (try first | exact ⟨rfl, _, World.drewN_drewN _ _ _⟩ | exact ⟨rfl, _, Eq.trans (World.drewN_drewN _ _ _) (congrArg (World.drewN _) (Nat.add_assoc _ _ _))⟩))); try go_wp2_with (first | (go_at_call 74; (with_reducible refine (postbagref05_Right.calls k2 ((rd_T62 l0 x17_2).f1) true _ A15.out).mono ?_); rintro e w' ⟨rfl, ⟨nd, rfl⟩⟩; (try first | exact ⟨rfl, _, World.drewN_drewN _ _ _⟩ | exact ⟨rfl, _, Eq.trans (World.drewN_drewN _ _ _) (congrArg (World.drewN _) (Nat.add_assoc _ _ _))⟩))))
                            go_meet
                            case rel => exact ⟨_, (true), (by first | rfl | (simp; done) | (simp [*]; done)), H', ⟨by have := HJ1.out; have := HK2.out; first | omega | exact Nat.le_refl _⟩, ⟨by (with_reducible repeat (first | refine blk_drewN ?_ _ | refine blk_drew ?_ | refine blk_alloc ?_ _)); refine blk_put (cs := #[.int .i64 ((rd_T62 l0 x17_2).f0), .string ((rd_T62 l0 x17_2).f1), .int .i64 ((rd_T62 l0 x17_2).f2), .slice none 0 0]) ?_ 3 _ rfl; (with_reducible repeat (first | refine blk_drewN ?_ _ | refine blk_drew ?_ | refine blk_alloc ?_ _)); refine blk_put (cs := #[.int .i64 ((rd_T62 l0 x17_2).f0), .string ((rd_T62 l0 x17_2).f1), .int .i64 0, .slice none 0 0]) ?_ 2 _ rfl; (with_reducible repeat (first | refine blk_drewN ?_ _ | refine blk_drew ?_ | refine blk_alloc ?_ _)); refine blk_put (cs := #[.int .i64 ((rd_T62 l0 x17_2).f0), .string (⟨#[]⟩ : ByteArray), .int .i64 0, .slice none 0 0]) ?_ 1 _ rfl; (with_reducible repeat (first | refine blk_drewN ?_ _ | refine blk_drew ?_ | refine blk_alloc ?_ _)); refine blk_put (cs := #[.int .i64 0, .string (⟨#[]⟩ : ByteArray), .int .i64 0, .slice none 0 0]) ?_ 0 _ rfl; (with_reducible repeat (first | refine blk_drewN ?_ _ | refine blk_drew ?_ | refine blk_alloc ?_ _)); exact BK104.out⟩, ⟨by repeat (first | (with_reducible first | exact HB.out | apply below_alloc | apply pw_below_drewN | apply below_drew1 | refine below_set ?_ GE104.out) | exact HB.out)⟩⟩
                          · rw [if_neg c17] at H
                            have c17b0 : (((rd_T62 l0 x17_2).f1).toList == ([114, 101, 100, 111] : List UInt8)) = false := beq_eq_false_iff_ne.mpr c17
                            have c17b1 : (((rd_T62 l0 x17_2).f1).toList != ([114, 101, 100, 111] : List UInt8)) = true := bne_iff_ne.mpr c17
                            by_cases c19 : ((rd_T62 l0 x17_2).f2) < 0
                            · rw [if_pos c19] at H
                              have c19b0 : decide (((rd_T62 l0 x17_2).f2) < 0) = true := decide_eq_true c19
                              clear c19
                              have H' := Aside0.mk H
                              clear H
                              have hcz20_0 : w9.cell? ⟨gb104, 0, none⟩ = some (.int .i64 0) := (blk_cell BK104.out 0).trans rfl
                              have hcz20_1 : w9.cell? ⟨gb104, 1, none⟩ = some (.string (⟨#[]⟩ : ByteArray)) := (blk_cell BK104.out 1).trans rfl
                              have hcz20_2 : w9.cell? ⟨gb104, 2, none⟩ = some (.int .i64 0) := (blk_cell BK104.out 2).trans rfl
                              have hcz20_3 : w9.cell? ⟨gb104, 3, none⟩ = some (.slice none 0 0) := (blk_cell BK104.out 3).trans rfl
                              have hfz20_0 := blk_frozen BK104.out 0
                              have hfz20_1 := blk_frozen BK104.out 1
                              have hfz20_2 := blk_frozen BK104.out 2
                              have hfz20_3 := blk_frozen BK104.out 3
                              go_wp2_with (first | (go_at_call 74; (with_reducible refine (postbagref05_Right.calls k2 ((rd_T62 l0 x17_2).f1) true _ A15.out).mono ?_); rintro e w' ⟨rfl, ⟨nd, rfl⟩⟩; (try first | exact ⟨rfl, _, World.drewN_drewN _ _ _⟩ | exact ⟨rfl, _, Eq.trans (World.drewN_drewN _ _ _) (congrArg (World.drewN _) (Nat.add_assoc _ _ _))⟩)))
                              repeat (go_quiet (first | (go_at_call 74; (with_reducible refine (postbagref05_Right.calls k2 ((rd_T62 l0 x17_2).f1) true _ A15.out).mono ?_); rintro e w' ⟨rfl, ⟨nd, rfl⟩⟩; (try first | exact ⟨rfl, _, World.drewN_drewN _ _ _⟩ | exact ⟨rfl, _, Eq.trans (World.drewN_drewN _ _ _) (congrArg (World.drewN _) (Nat.add_assoc _ _ _))⟩))); try go_wp2_with (first | (go_at_call 74; (with_reducible refine (postbagref05_Right.calls k2 ((rd_T62 l0 x17_2).f1) true _ A15.out).mono ?_); rintro e w' ⟨rfl, ⟨nd, rfl⟩⟩; (try first | exact ⟨rfl, _, World.drewN_drewN _ _ _⟩ | exact ⟨rfl, _, Eq.trans (World.drewN_drewN _ _ _) (congrArg (World.drewN _) (Nat.add_assoc _ _ _))⟩))))
                              go_meet
                              case rel => exact ⟨_, (true), (by first | rfl | (simp; done) | (simp [*]; done)), H', ⟨by have := HJ1.out; have := HK2.out; first | omega | exact Nat.le_refl _⟩, ⟨by (with_reducible repeat (first | refine blk_drewN ?_ _ | refine blk_drew ?_ | refine blk_alloc ?_ _)); refine blk_put (cs := #[.int .i64 ((rd_T62 l0 x17_2).f0), .string ((rd_T62 l0 x17_2).f1), .int .i64 ((rd_T62 l0 x17_2).f2), .slice none 0 0]) ?_ 3 _ rfl; (with_reducible repeat (first | refine blk_drewN ?_ _ | refine blk_drew ?_ | refine blk_alloc ?_ _)); refine blk_put (cs := #[.int .i64 ((rd_T62 l0 x17_2).f0), .string ((rd_T62 l0 x17_2).f1), .int .i64 0, .slice none 0 0]) ?_ 2 _ rfl; (with_reducible repeat (first | refine blk_drewN ?_ _ | refine blk_drew ?_ | refine blk_alloc ?_ _)); refine blk_put (cs := #[.int .i64 ((rd_T62 l0 x17_2).f0), .string (⟨#[]⟩ : ByteArray), .int .i64 0, .slice none 0 0]) ?_ 1 _ rfl; (with_reducible repeat (first | refine blk_drewN ?_ _ | refine blk_drew ?_ | refine blk_alloc ?_ _)); refine blk_put (cs := #[.int .i64 0, .string (⟨#[]⟩ : ByteArray), .int .i64 0, .slice none 0 0]) ?_ 0 _ rfl; (with_reducible repeat (first | refine blk_drewN ?_ _ | refine blk_drew ?_ | refine blk_alloc ?_ _)); exact BK104.out⟩, ⟨by repeat (first | (with_reducible first | exact HB.out | apply below_alloc | apply pw_below_drewN | apply below_drew1 | refine below_set ?_ GE104.out) | exact HB.out)⟩⟩
                            · rw [if_neg c19] at H
                              have c19b0 : decide (((rd_T62 l0 x17_2).f2) < 0) = false := decide_eq_false c19
                              clear c19
                              by_cases c21 : ((rd_T62 l0 x17_2).f2) > 1073741824
                              · rw [if_pos c21] at H
                                have c21b0 : decide (1073741824 < ((rd_T62 l0 x17_2).f2)) = true := decide_eq_true c21
                                clear c21
                                have H' := Aside0.mk H
                                clear H
                                have hcz22_0 : w9.cell? ⟨gb104, 0, none⟩ = some (.int .i64 0) := (blk_cell BK104.out 0).trans rfl
                                have hcz22_1 : w9.cell? ⟨gb104, 1, none⟩ = some (.string (⟨#[]⟩ : ByteArray)) := (blk_cell BK104.out 1).trans rfl
                                have hcz22_2 : w9.cell? ⟨gb104, 2, none⟩ = some (.int .i64 0) := (blk_cell BK104.out 2).trans rfl
                                have hcz22_3 : w9.cell? ⟨gb104, 3, none⟩ = some (.slice none 0 0) := (blk_cell BK104.out 3).trans rfl
                                have hfz22_0 := blk_frozen BK104.out 0
                                have hfz22_1 := blk_frozen BK104.out 1
                                have hfz22_2 := blk_frozen BK104.out 2
                                have hfz22_3 := blk_frozen BK104.out 3
                                go_wp2_with (first | (go_at_call 74; (with_reducible refine (postbagref05_Right.calls k2 ((rd_T62 l0 x17_2).f1) true _ A15.out).mono ?_); rintro e w' ⟨rfl, ⟨nd, rfl⟩⟩; (try first | exact ⟨rfl, _, World.drewN_drewN _ _ _⟩ | exact ⟨rfl, _, Eq.trans (World.drewN_drewN _ _ _) (congrArg (World.drewN _) (Nat.add_assoc _ _ _))⟩)))
                                repeat (go_quiet (first | (go_at_call 74; (with_reducible refine (postbagref05_Right.calls k2 ((rd_T62 l0 x17_2).f1) true _ A15.out).mono ?_); rintro e w' ⟨rfl, ⟨nd, rfl⟩⟩; (try first | exact ⟨rfl, _, World.drewN_drewN _ _ _⟩ | exact ⟨rfl, _, Eq.trans (World.drewN_drewN _ _ _) (congrArg (World.drewN _) (Nat.add_assoc _ _ _))⟩))); try go_wp2_with (first | (go_at_call 74; (with_reducible refine (postbagref05_Right.calls k2 ((rd_T62 l0 x17_2).f1) true _ A15.out).mono ?_); rintro e w' ⟨rfl, ⟨nd, rfl⟩⟩; (try first | exact ⟨rfl, _, World.drewN_drewN _ _ _⟩ | exact ⟨rfl, _, Eq.trans (World.drewN_drewN _ _ _) (congrArg (World.drewN _) (Nat.add_assoc _ _ _))⟩))))
                                go_meet
                                case rel => exact ⟨_, (true), (by first | rfl | (simp; done) | (simp [*]; done)), H', ⟨by have := HJ1.out; have := HK2.out; first | omega | exact Nat.le_refl _⟩, ⟨by (with_reducible repeat (first | refine blk_drewN ?_ _ | refine blk_drew ?_ | refine blk_alloc ?_ _)); refine blk_put (cs := #[.int .i64 ((rd_T62 l0 x17_2).f0), .string ((rd_T62 l0 x17_2).f1), .int .i64 ((rd_T62 l0 x17_2).f2), .slice none 0 0]) ?_ 3 _ rfl; (with_reducible repeat (first | refine blk_drewN ?_ _ | refine blk_drew ?_ | refine blk_alloc ?_ _)); refine blk_put (cs := #[.int .i64 ((rd_T62 l0 x17_2).f0), .string ((rd_T62 l0 x17_2).f1), .int .i64 0, .slice none 0 0]) ?_ 2 _ rfl; (with_reducible repeat (first | refine blk_drewN ?_ _ | refine blk_drew ?_ | refine blk_alloc ?_ _)); refine blk_put (cs := #[.int .i64 ((rd_T62 l0 x17_2).f0), .string (⟨#[]⟩ : ByteArray), .int .i64 0, .slice none 0 0]) ?_ 1 _ rfl; (with_reducible repeat (first | refine blk_drewN ?_ _ | refine blk_drew ?_ | refine blk_alloc ?_ _)); refine blk_put (cs := #[.int .i64 0, .string (⟨#[]⟩ : ByteArray), .int .i64 0, .slice none 0 0]) ?_ 0 _ rfl; (with_reducible repeat (first | refine blk_drewN ?_ _ | refine blk_drew ?_ | refine blk_alloc ?_ _)); exact BK104.out⟩, ⟨by repeat (first | (with_reducible first | exact HB.out | apply below_alloc | apply pw_below_drewN | apply below_drew1 | refine below_set ?_ GE104.out) | exact HB.out)⟩⟩
                              · rw [if_neg c21] at H
                                have c21b0 : decide (1073741824 < ((rd_T62 l0 x17_2).f2)) = false := decide_eq_false c21
                                clear c21
                                by_cases c23 : ((rd_T62 l0 x17_2).f0) = 1
                                · rw [if_pos c23] at H
                                  have c23b0 : (((rd_T62 l0 x17_2).f0) == 1) = true := beq_iff_eq.mpr c23
                                  have c23b1 : (((rd_T62 l0 x17_2).f0) != 1) = false := bne_eq_false_iff_eq.mpr c23
                                  clear c23
                                  by_cases c24 : ((rd_T62 l0 x17_2).f0) = 3
                                  · rw [if_pos c24] at H
                                    have c24b0 : (((rd_T62 l0 x17_2).f0) == 3) = true := beq_iff_eq.mpr c24
                                    have c24b1 : (((rd_T62 l0 x17_2).f0) != 3) = false := bne_eq_false_iff_eq.mpr c24
                                    clear c24
                                    by_cases c25 : (((rd_T62 l0 x17_2).f3).length : Int) > 0
                                    · rw [if_pos c25] at H
                                      have c25b0 : decide (0 < (((rd_T62 l0 x17_2).f3).length : Int)) = true := decide_eq_true c25
                                      have c25b1 : decide (0 < ((rd_T62 l0 x17_2).f3).length) = true := decide_eq_true (by omega)
                                      clear c25
                                      have H' := Aside0.mk H
                                      clear H
                                      have hcz26_0 : w9.cell? ⟨gb104, 0, none⟩ = some (.int .i64 0) := (blk_cell BK104.out 0).trans rfl
                                      have hcz26_1 : w9.cell? ⟨gb104, 1, none⟩ = some (.string (⟨#[]⟩ : ByteArray)) := (blk_cell BK104.out 1).trans rfl
                                      have hcz26_2 : w9.cell? ⟨gb104, 2, none⟩ = some (.int .i64 0) := (blk_cell BK104.out 2).trans rfl
                                      have hcz26_3 : w9.cell? ⟨gb104, 3, none⟩ = some (.slice none 0 0) := (blk_cell BK104.out 3).trans rfl
                                      have hfz26_0 := blk_frozen BK104.out 0
                                      have hfz26_1 := blk_frozen BK104.out 1
                                      have hfz26_2 := blk_frozen BK104.out 2
                                      have hfz26_3 := blk_frozen BK104.out 3
                                      go_wp2_with (first | (go_at_call 74; (with_reducible refine (postbagref05_Right.calls k2 ((rd_T62 l0 x17_2).f1) true _ A15.out).mono ?_); rintro e w' ⟨rfl, ⟨nd, rfl⟩⟩; (try first | exact ⟨rfl, _, World.drewN_drewN _ _ _⟩ | exact ⟨rfl, _, Eq.trans (World.drewN_drewN _ _ _) (congrArg (World.drewN _) (Nat.add_assoc _ _ _))⟩)))
                                      repeat (go_quiet (first | (go_at_call 74; (with_reducible refine (postbagref05_Right.calls k2 ((rd_T62 l0 x17_2).f1) true _ A15.out).mono ?_); rintro e w' ⟨rfl, ⟨nd, rfl⟩⟩; (try first | exact ⟨rfl, _, World.drewN_drewN _ _ _⟩ | exact ⟨rfl, _, Eq.trans (World.drewN_drewN _ _ _) (congrArg (World.drewN _) (Nat.add_assoc _ _ _))⟩))); try go_wp2_with (first | (go_at_call 74; (with_reducible refine (postbagref05_Right.calls k2 ((rd_T62 l0 x17_2).f1) true _ A15.out).mono ?_); rintro e w' ⟨rfl, ⟨nd, rfl⟩⟩; (try first | exact ⟨rfl, _, World.drewN_drewN _ _ _⟩ | exact ⟨rfl, _, Eq.trans (World.drewN_drewN _ _ _) (congrArg (World.drewN _) (Nat.add_assoc _ _ _))⟩))))
                                      go_meet
                                      case rel => exact ⟨_, (true), (by first | rfl | (simp; done) | (simp [*]; done)), H', ⟨by have := HJ1.out; have := HK2.out; first | omega | exact Nat.le_refl _⟩, ⟨by (with_reducible repeat (first | refine blk_drewN ?_ _ | refine blk_drew ?_ | refine blk_alloc ?_ _)); refine blk_put (cs := #[.int .i64 ((rd_T62 l0 x17_2).f0), .string ((rd_T62 l0 x17_2).f1), .int .i64 ((rd_T62 l0 x17_2).f2), .slice none 0 0]) ?_ 3 _ rfl; (with_reducible repeat (first | refine blk_drewN ?_ _ | refine blk_drew ?_ | refine blk_alloc ?_ _)); refine blk_put (cs := #[.int .i64 ((rd_T62 l0 x17_2).f0), .string ((rd_T62 l0 x17_2).f1), .int .i64 0, .slice none 0 0]) ?_ 2 _ rfl; (with_reducible repeat (first | refine blk_drewN ?_ _ | refine blk_drew ?_ | refine blk_alloc ?_ _)); refine blk_put (cs := #[.int .i64 ((rd_T62 l0 x17_2).f0), .string (⟨#[]⟩ : ByteArray), .int .i64 0, .slice none 0 0]) ?_ 1 _ rfl; (with_reducible repeat (first | refine blk_drewN ?_ _ | refine blk_drew ?_ | refine blk_alloc ?_ _)); refine blk_put (cs := #[.int .i64 0, .string (⟨#[]⟩ : ByteArray), .int .i64 0, .slice none 0 0]) ?_ 0 _ rfl; (with_reducible repeat (first | refine blk_drewN ?_ _ | refine blk_drew ?_ | refine blk_alloc ?_ _)); exact BK104.out⟩, ⟨by repeat (first | (with_reducible first | exact HB.out | apply below_alloc | apply pw_below_drewN | apply below_drew1 | refine below_set ?_ GE104.out) | exact HB.out)⟩⟩
                                    · rw [if_neg c25] at H
                                      have c25b0 : decide (0 < (((rd_T62 l0 x17_2).f3).length : Int)) = false := decide_eq_false c25
                                      have c25b1 : decide (0 < ((rd_T62 l0 x17_2).f3).length) = false := decide_eq_false (by omega)
                                      clear c25
                                      have H' := Aside0.mk H
                                      clear H
                                      have hcz27_0 : w9.cell? ⟨gb104, 0, none⟩ = some (.int .i64 0) := (blk_cell BK104.out 0).trans rfl
                                      have hcz27_1 : w9.cell? ⟨gb104, 1, none⟩ = some (.string (⟨#[]⟩ : ByteArray)) := (blk_cell BK104.out 1).trans rfl
                                      have hcz27_2 : w9.cell? ⟨gb104, 2, none⟩ = some (.int .i64 0) := (blk_cell BK104.out 2).trans rfl
                                      have hcz27_3 : w9.cell? ⟨gb104, 3, none⟩ = some (.slice none 0 0) := (blk_cell BK104.out 3).trans rfl
                                      have hfz27_0 := blk_frozen BK104.out 0
                                      have hfz27_1 := blk_frozen BK104.out 1
                                      have hfz27_2 := blk_frozen BK104.out 2
                                      have hfz27_3 := blk_frozen BK104.out 3
                                      go_wp2_with (first | (go_at_call 74; (with_reducible refine (postbagref05_Right.calls k2 ((rd_T62 l0 x17_2).f1) true _ A15.out).mono ?_); rintro e w' ⟨rfl, ⟨nd, rfl⟩⟩; (try first | exact ⟨rfl, _, World.drewN_drewN _ _ _⟩ | exact ⟨rfl, _, Eq.trans (World.drewN_drewN _ _ _) (congrArg (World.drewN _) (Nat.add_assoc _ _ _))⟩)))
                                      repeat (go_quiet (first | (go_at_call 74; (with_reducible refine (postbagref05_Right.calls k2 ((rd_T62 l0 x17_2).f1) true _ A15.out).mono ?_); rintro e w' ⟨rfl, ⟨nd, rfl⟩⟩; (try first | exact ⟨rfl, _, World.drewN_drewN _ _ _⟩ | exact ⟨rfl, _, Eq.trans (World.drewN_drewN _ _ _) (congrArg (World.drewN _) (Nat.add_assoc _ _ _))⟩))); try go_wp2_with (first | (go_at_call 74; (with_reducible refine (postbagref05_Right.calls k2 ((rd_T62 l0 x17_2).f1) true _ A15.out).mono ?_); rintro e w' ⟨rfl, ⟨nd, rfl⟩⟩; (try first | exact ⟨rfl, _, World.drewN_drewN _ _ _⟩ | exact ⟨rfl, _, Eq.trans (World.drewN_drewN _ _ _) (congrArg (World.drewN _) (Nat.add_assoc _ _ _))⟩))))
                                      go_meet
                                      case rel => exact ⟨_, (decide ((((rd_T62 l0 x17_2).f3).length : Int) > 400000)), (by first | rfl | (simp; done) | (simp [*]; done)), H', ⟨by have := HJ1.out; have := HK2.out; first | omega | exact Nat.le_refl _⟩, ⟨by (with_reducible repeat (first | refine blk_drewN ?_ _ | refine blk_drew ?_ | refine blk_alloc ?_ _)); refine blk_put (cs := #[.int .i64 ((rd_T62 l0 x17_2).f0), .string ((rd_T62 l0 x17_2).f1), .int .i64 ((rd_T62 l0 x17_2).f2), .slice none 0 0]) ?_ 3 _ rfl; (with_reducible repeat (first | refine blk_drewN ?_ _ | refine blk_drew ?_ | refine blk_alloc ?_ _)); refine blk_put (cs := #[.int .i64 ((rd_T62 l0 x17_2).f0), .string ((rd_T62 l0 x17_2).f1), .int .i64 0, .slice none 0 0]) ?_ 2 _ rfl; (with_reducible repeat (first | refine blk_drewN ?_ _ | refine blk_drew ?_ | refine blk_alloc ?_ _)); refine blk_put (cs := #[.int .i64 ((rd_T62 l0 x17_2).f0), .string (⟨#[]⟩ : ByteArray), .int .i64 0, .slice none 0 0]) ?_ 1 _ rfl; (with_reducible repeat (first | refine blk_drewN ?_ _ | refine blk_drew ?_ | refine blk_alloc ?_ _)); refine blk_put (cs := #[.int .i64 0, .string (⟨#[]⟩ : ByteArray), .int .i64 0, .slice none 0 0]) ?_ 0 _ rfl; (with_reducible repeat (first | refine blk_drewN ?_ _ | refine blk_drew ?_ | refine blk_alloc ?_ _)); exact BK104.out⟩, ⟨by repeat (first | (with_reducible first | exact HB.out | apply below_alloc | apply pw_below_drewN | apply below_drew1 | refine below_set ?_ GE104.out) | exact HB.out)⟩⟩
                                  · rw [if_neg c24] at H
                                    have c24b0 : (((rd_T62 l0 x17_2).f0) == 3) = false := beq_eq_false_iff_ne.mpr c24
                                    have c24b1 : (((rd_T62 l0 x17_2).f0) != 3) = true := bne_iff_ne.mpr c24
                                    have H' := Aside0.mk H
                                    clear H
                                    have hcz28_0 : w9.cell? ⟨gb104, 0, none⟩ = some (.int .i64 0) := (blk_cell BK104.out 0).trans rfl
                                    have hcz28_1 : w9.cell? ⟨gb104, 1, none⟩ = some (.string (⟨#[]⟩ : ByteArray)) := (blk_cell BK104.out 1).trans rfl
                                    have hcz28_2 : w9.cell? ⟨gb104, 2, none⟩ = some (.int .i64 0) := (blk_cell BK104.out 2).trans rfl
                                    have hcz28_3 : w9.cell? ⟨gb104, 3, none⟩ = some (.slice none 0 0) := (blk_cell BK104.out 3).trans rfl
                                    have hfz28_0 := blk_frozen BK104.out 0
                                    have hfz28_1 := blk_frozen BK104.out 1
                                    have hfz28_2 := blk_frozen BK104.out 2
                                    have hfz28_3 := blk_frozen BK104.out 3
                                    go_wp2_with (first | (go_at_call 74; (with_reducible refine (postbagref05_Right.calls k2 ((rd_T62 l0 x17_2).f1) true _ A15.out).mono ?_); rintro e w' ⟨rfl, ⟨nd, rfl⟩⟩; (try first | exact ⟨rfl, _, World.drewN_drewN _ _ _⟩ | exact ⟨rfl, _, Eq.trans (World.drewN_drewN _ _ _) (congrArg (World.drewN _) (Nat.add_assoc _ _ _))⟩)))
                                    repeat (go_quiet (first | (go_at_call 74; (with_reducible refine (postbagref05_Right.calls k2 ((rd_T62 l0 x17_2).f1) true _ A15.out).mono ?_); rintro e w' ⟨rfl, ⟨nd, rfl⟩⟩; (try first | exact ⟨rfl, _, World.drewN_drewN _ _ _⟩ | exact ⟨rfl, _, Eq.trans (World.drewN_drewN _ _ _) (congrArg (World.drewN _) (Nat.add_assoc _ _ _))⟩))); try go_wp2_with (first | (go_at_call 74; (with_reducible refine (postbagref05_Right.calls k2 ((rd_T62 l0 x17_2).f1) true _ A15.out).mono ?_); rintro e w' ⟨rfl, ⟨nd, rfl⟩⟩; (try first | exact ⟨rfl, _, World.drewN_drewN _ _ _⟩ | exact ⟨rfl, _, Eq.trans (World.drewN_drewN _ _ _) (congrArg (World.drewN _) (Nat.add_assoc _ _ _))⟩))))
                                    go_meet
                                    case rel => exact ⟨_, (decide ((((rd_T62 l0 x17_2).f3).length : Int) > 400000)), (by first | rfl | (simp; done) | (simp [*]; done)), H', ⟨by have := HJ1.out; have := HK2.out; first | omega | exact Nat.le_refl _⟩, ⟨by (with_reducible repeat (first | refine blk_drewN ?_ _ | refine blk_drew ?_ | refine blk_alloc ?_ _)); refine blk_put (cs := #[.int .i64 ((rd_T62 l0 x17_2).f0), .string ((rd_T62 l0 x17_2).f1), .int .i64 ((rd_T62 l0 x17_2).f2), .slice none 0 0]) ?_ 3 _ rfl; (with_reducible repeat (first | refine blk_drewN ?_ _ | refine blk_drew ?_ | refine blk_alloc ?_ _)); refine blk_put (cs := #[.int .i64 ((rd_T62 l0 x17_2).f0), .string ((rd_T62 l0 x17_2).f1), .int .i64 0, .slice none 0 0]) ?_ 2 _ rfl; (with_reducible repeat (first | refine blk_drewN ?_ _ | refine blk_drew ?_ | refine blk_alloc ?_ _)); refine blk_put (cs := #[.int .i64 ((rd_T62 l0 x17_2).f0), .string (⟨#[]⟩ : ByteArray), .int .i64 0, .slice none 0 0]) ?_ 1 _ rfl; (with_reducible repeat (first | refine blk_drewN ?_ _ | refine blk_drew ?_ | refine blk_alloc ?_ _)); refine blk_put (cs := #[.int .i64 0, .string (⟨#[]⟩ : ByteArray), .int .i64 0, .slice none 0 0]) ?_ 0 _ rfl; (with_reducible repeat (first | refine blk_drewN ?_ _ | refine blk_drew ?_ | refine blk_alloc ?_ _)); exact BK104.out⟩, ⟨by repeat (first | (with_reducible first | exact HB.out | apply below_alloc | apply pw_below_drewN | apply below_drew1 | refine below_set ?_ GE104.out) | exact HB.out)⟩⟩
                                · rw [if_neg c23] at H
                                  have c23b0 : (((rd_T62 l0 x17_2).f0) == 1) = false := beq_eq_false_iff_ne.mpr c23
                                  have c23b1 : (((rd_T62 l0 x17_2).f0) != 1) = true := bne_iff_ne.mpr c23
                                  by_cases c29 : ((rd_T62 l0 x17_2).f2) = 0
                                  · rw [if_pos c29] at H
                                    have c29b0 : (((rd_T62 l0 x17_2).f2) == 0) = true := beq_iff_eq.mpr c29
                                    have c29b1 : (((rd_T62 l0 x17_2).f2) != 0) = false := bne_eq_false_iff_eq.mpr c29
                                    clear c29
                                    by_cases c30 : ((rd_T62 l0 x17_2).f0) = 3
                                    · rw [if_pos c30] at H
                                      have c30b0 : (((rd_T62 l0 x17_2).f0) == 3) = true := beq_iff_eq.mpr c30
                                      have c30b1 : (((rd_T62 l0 x17_2).f0) != 3) = false := bne_eq_false_iff_eq.mpr c30
                                      clear c30
                                      by_cases c31 : (((rd_T62 l0 x17_2).f3).length : Int) > 0
                                      · rw [if_pos c31] at H
                                        have c31b0 : decide (0 < (((rd_T62 l0 x17_2).f3).length : Int)) = true := decide_eq_true c31
                                        have c31b1 : decide (0 < ((rd_T62 l0 x17_2).f3).length) = true := decide_eq_true (by omega)
                                        clear c31
                                        have H' := Aside0.mk H
                                        clear H
                                        have hcz32_0 : w9.cell? ⟨gb104, 0, none⟩ = some (.int .i64 0) := (blk_cell BK104.out 0).trans rfl
                                        have hcz32_1 : w9.cell? ⟨gb104, 1, none⟩ = some (.string (⟨#[]⟩ : ByteArray)) := (blk_cell BK104.out 1).trans rfl
                                        have hcz32_2 : w9.cell? ⟨gb104, 2, none⟩ = some (.int .i64 0) := (blk_cell BK104.out 2).trans rfl
                                        have hcz32_3 : w9.cell? ⟨gb104, 3, none⟩ = some (.slice none 0 0) := (blk_cell BK104.out 3).trans rfl
                                        have hfz32_0 := blk_frozen BK104.out 0
                                        have hfz32_1 := blk_frozen BK104.out 1
                                        have hfz32_2 := blk_frozen BK104.out 2
                                        have hfz32_3 := blk_frozen BK104.out 3
                                        go_wp2_with (first | (go_at_call 74; (with_reducible refine (postbagref05_Right.calls k2 ((rd_T62 l0 x17_2).f1) true _ A15.out).mono ?_); rintro e w' ⟨rfl, ⟨nd, rfl⟩⟩; (try first | exact ⟨rfl, _, World.drewN_drewN _ _ _⟩ | exact ⟨rfl, _, Eq.trans (World.drewN_drewN _ _ _) (congrArg (World.drewN _) (Nat.add_assoc _ _ _))⟩)))
                                        repeat (go_quiet (first | (go_at_call 74; (with_reducible refine (postbagref05_Right.calls k2 ((rd_T62 l0 x17_2).f1) true _ A15.out).mono ?_); rintro e w' ⟨rfl, ⟨nd, rfl⟩⟩; (try first | exact ⟨rfl, _, World.drewN_drewN _ _ _⟩ | exact ⟨rfl, _, Eq.trans (World.drewN_drewN _ _ _) (congrArg (World.drewN _) (Nat.add_assoc _ _ _))⟩))); try go_wp2_with (first | (go_at_call 74; (with_reducible refine (postbagref05_Right.calls k2 ((rd_T62 l0 x17_2).f1) true _ A15.out).mono ?_); rintro e w' ⟨rfl, ⟨nd, rfl⟩⟩; (try first | exact ⟨rfl, _, World.drewN_drewN _ _ _⟩ | exact ⟨rfl, _, Eq.trans (World.drewN_drewN _ _ _) (congrArg (World.drewN _) (Nat.add_assoc _ _ _))⟩))))
                                        go_meet
                                        case rel => exact ⟨_, (true), (by first | rfl | (simp; done) | (simp [*]; done)), H', ⟨by have := HJ1.out; have := HK2.out; first | omega | exact Nat.le_refl _⟩, ⟨by (with_reducible repeat (first | refine blk_drewN ?_ _ | refine blk_drew ?_ | refine blk_alloc ?_ _)); refine blk_put (cs := #[.int .i64 ((rd_T62 l0 x17_2).f0), .string ((rd_T62 l0 x17_2).f1), .int .i64 ((rd_T62 l0 x17_2).f2), .slice none 0 0]) ?_ 3 _ rfl; (with_reducible repeat (first | refine blk_drewN ?_ _ | refine blk_drew ?_ | refine blk_alloc ?_ _)); refine blk_put (cs := #[.int .i64 ((rd_T62 l0 x17_2).f0), .string ((rd_T62 l0 x17_2).f1), .int .i64 0, .slice none 0 0]) ?_ 2 _ rfl; (with_reducible repeat (first | refine blk_drewN ?_ _ | refine blk_drew ?_ | refine blk_alloc ?_ _)); refine blk_put (cs := #[.int .i64 ((rd_T62 l0 x17_2).f0), .string (⟨#[]⟩ : ByteArray), .int .i64 0, .slice none 0 0]) ?_ 1 _ rfl; (with_reducible repeat (first | refine blk_drewN ?_ _ | refine blk_drew ?_ | refine blk_alloc ?_ _)); refine blk_put (cs := #[.int .i64 0, .string (⟨#[]⟩ : ByteArray), .int .i64 0, .slice none 0 0]) ?_ 0 _ rfl; (with_reducible repeat (first | refine blk_drewN ?_ _ | refine blk_drew ?_ | refine blk_alloc ?_ _)); exact BK104.out⟩, ⟨by repeat (first | (with_reducible first | exact HB.out | apply below_alloc | apply pw_below_drewN | apply below_drew1 | refine below_set ?_ GE104.out) | exact HB.out)⟩⟩
                                      · rw [if_neg c31] at H
                                        have c31b0 : decide (0 < (((rd_T62 l0 x17_2).f3).length : Int)) = false := decide_eq_false c31
                                        have c31b1 : decide (0 < ((rd_T62 l0 x17_2).f3).length) = false := decide_eq_false (by omega)
                                        clear c31
                                        have H' := Aside0.mk H
                                        clear H
                                        have hcz33_0 : w9.cell? ⟨gb104, 0, none⟩ = some (.int .i64 0) := (blk_cell BK104.out 0).trans rfl
                                        have hcz33_1 : w9.cell? ⟨gb104, 1, none⟩ = some (.string (⟨#[]⟩ : ByteArray)) := (blk_cell BK104.out 1).trans rfl
                                        have hcz33_2 : w9.cell? ⟨gb104, 2, none⟩ = some (.int .i64 0) := (blk_cell BK104.out 2).trans rfl
                                        have hcz33_3 : w9.cell? ⟨gb104, 3, none⟩ = some (.slice none 0 0) := (blk_cell BK104.out 3).trans rfl
                                        have hfz33_0 := blk_frozen BK104.out 0
                                        have hfz33_1 := blk_frozen BK104.out 1
                                        have hfz33_2 := blk_frozen BK104.out 2
                                        have hfz33_3 := blk_frozen BK104.out 3
                                        go_wp2_with (first | (go_at_call 74; (with_reducible refine (postbagref05_Right.calls k2 ((rd_T62 l0 x17_2).f1) true _ A15.out).mono ?_); rintro e w' ⟨rfl, ⟨nd, rfl⟩⟩; (try first | exact ⟨rfl, _, World.drewN_drewN _ _ _⟩ | exact ⟨rfl, _, Eq.trans (World.drewN_drewN _ _ _) (congrArg (World.drewN _) (Nat.add_assoc _ _ _))⟩)))
                                        repeat (go_quiet (first | (go_at_call 74; (with_reducible refine (postbagref05_Right.calls k2 ((rd_T62 l0 x17_2).f1) true _ A15.out).mono ?_); rintro e w' ⟨rfl, ⟨nd, rfl⟩⟩; (try first | exact ⟨rfl, _, World.drewN_drewN _ _ _⟩ | exact ⟨rfl, _, Eq.trans (World.drewN_drewN _ _ _) (congrArg (World.drewN _) (Nat.add_assoc _ _ _))⟩))); try go_wp2_with (first | (go_at_call 74; (with_reducible refine (postbagref05_Right.calls k2 ((rd_T62 l0 x17_2).f1) true _ A15.out).mono ?_); rintro e w' ⟨rfl, ⟨nd, rfl⟩⟩; (try first | exact ⟨rfl, _, World.drewN_drewN _ _ _⟩ | exact ⟨rfl, _, Eq.trans (World.drewN_drewN _ _ _) (congrArg (World.drewN _) (Nat.add_assoc _ _ _))⟩))))
                                        go_meet
                                        case rel => exact ⟨_, (decide ((((rd_T62 l0 x17_2).f3).length : Int) > 400000)), (by first | rfl | (simp; done) | (simp [*]; done)), H', ⟨by have := HJ1.out; have := HK2.out; first | omega | exact Nat.le_refl _⟩, ⟨by (with_reducible repeat (first | refine blk_drewN ?_ _ | refine blk_drew ?_ | refine blk_alloc ?_ _)); refine blk_put (cs := #[.int .i64 ((rd_T62 l0 x17_2).f0), .string ((rd_T62 l0 x17_2).f1), .int .i64 ((rd_T62 l0 x17_2).f2), .slice none 0 0]) ?_ 3 _ rfl; (with_reducible repeat (first | refine blk_drewN ?_ _ | refine blk_drew ?_ | refine blk_alloc ?_ _)); refine blk_put (cs := #[.int .i64 ((rd_T62 l0 x17_2).f0), .string ((rd_T62 l0 x17_2).f1), .int .i64 0, .slice none 0 0]) ?_ 2 _ rfl; (with_reducible repeat (first | refine blk_drewN ?_ _ | refine blk_drew ?_ | refine blk_alloc ?_ _)); refine blk_put (cs := #[.int .i64 ((rd_T62 l0 x17_2).f0), .string (⟨#[]⟩ : ByteArray), .int .i64 0, .slice none 0 0]) ?_ 1 _ rfl; (with_reducible repeat (first | refine blk_drewN ?_ _ | refine blk_drew ?_ | refine blk_alloc ?_ _)); refine blk_put (cs := #[.int .i64 0, .string (⟨#[]⟩ : ByteArray), .int .i64 0, .slice none 0 0]) ?_ 0 _ rfl; (with_reducible repeat (first | refine blk_drewN ?_ _ | refine blk_drew ?_ | refine blk_alloc ?_ _)); exact BK104.out⟩, ⟨by repeat (first | (with_reducible first | exact HB.out | apply below_alloc | apply pw_below_drewN | apply below_drew1 | refine below_set ?_ GE104.out) | exact HB.out)⟩⟩
                                    · rw [if_neg c30] at H
                                      have c30b0 : (((rd_T62 l0 x17_2).f0) == 3) = false := beq_eq_false_iff_ne.mpr c30
                                      have c30b1 : (((rd_T62 l0 x17_2).f0) != 3) = true := bne_iff_ne.mpr c30
                                      have H' := Aside0.mk H
                                      clear H
                                      have hcz34_0 : w9.cell? ⟨gb104, 0, none⟩ = some (.int .i64 0) := (blk_cell BK104.out 0).trans rfl
                                      have hcz34_1 : w9.cell? ⟨gb104, 1, none⟩ = some (.string (⟨#[]⟩ : ByteArray)) := (blk_cell BK104.out 1).trans rfl
                                      have hcz34_2 : w9.cell? ⟨gb104, 2, none⟩ = some (.int .i64 0) := (blk_cell BK104.out 2).trans rfl
                                      have hcz34_3 : w9.cell? ⟨gb104, 3, none⟩ = some (.slice none 0 0) := (blk_cell BK104.out 3).trans rfl
                                      have hfz34_0 := blk_frozen BK104.out 0
                                      have hfz34_1 := blk_frozen BK104.out 1
                                      have hfz34_2 := blk_frozen BK104.out 2
                                      have hfz34_3 := blk_frozen BK104.out 3
                                      go_wp2_with (first | (go_at_call 74; (with_reducible refine (postbagref05_Right.calls k2 ((rd_T62 l0 x17_2).f1) true _ A15.out).mono ?_); rintro e w' ⟨rfl, ⟨nd, rfl⟩⟩; (try first | exact ⟨rfl, _, World.drewN_drewN _ _ _⟩ | exact ⟨rfl, _, Eq.trans (World.drewN_drewN _ _ _) (congrArg (World.drewN _) (Nat.add_assoc _ _ _))⟩)))
                                      repeat (go_quiet (first | (go_at_call 74; (with_reducible refine (postbagref05_Right.calls k2 ((rd_T62 l0 x17_2).f1) true _ A15.out).mono ?_); rintro e w' ⟨rfl, ⟨nd, rfl⟩⟩; (try first | exact ⟨rfl, _, World.drewN_drewN _ _ _⟩ | exact ⟨rfl, _, Eq.trans (World.drewN_drewN _ _ _) (congrArg (World.drewN _) (Nat.add_assoc _ _ _))⟩))); try go_wp2_with (first | (go_at_call 74; (with_reducible refine (postbagref05_Right.calls k2 ((rd_T62 l0 x17_2).f1) true _ A15.out).mono ?_); rintro e w' ⟨rfl, ⟨nd, rfl⟩⟩; (try first | exact ⟨rfl, _, World.drewN_drewN _ _ _⟩ | exact ⟨rfl, _, Eq.trans (World.drewN_drewN _ _ _) (congrArg (World.drewN _) (Nat.add_assoc _ _ _))⟩))))
                                      go_meet
                                      case rel => exact ⟨_, (decide ((((rd_T62 l0 x17_2).f3).length : Int) > 400000)), (by first | rfl | (simp; done) | (simp [*]; done)), H', ⟨by have := HJ1.out; have := HK2.out; first | omega | exact Nat.le_refl _⟩, ⟨by (with_reducible repeat (first | refine blk_drewN ?_ _ | refine blk_drew ?_ | refine blk_alloc ?_ _)); refine blk_put (cs := #[.int .i64 ((rd_T62 l0 x17_2).f0), .string ((rd_T62 l0 x17_2).f1), .int .i64 ((rd_T62 l0 x17_2).f2), .slice none 0 0]) ?_ 3 _ rfl; (with_reducible repeat (first | refine blk_drewN ?_ _ | refine blk_drew ?_ | refine blk_alloc ?_ _)); refine blk_put (cs := #[.int .i64 ((rd_T62 l0 x17_2).f0), .string ((rd_T62 l0 x17_2).f1), .int .i64 0, .slice none 0 0]) ?_ 2 _ rfl; (with_reducible repeat (first | refine blk_drewN ?_ _ | refine blk_drew ?_ | refine blk_alloc ?_ _)); refine blk_put (cs := #[.int .i64 ((rd_T62 l0 x17_2).f0), .string (⟨#[]⟩ : ByteArray), .int .i64 0, .slice none 0 0]) ?_ 1 _ rfl; (with_reducible repeat (first | refine blk_drewN ?_ _ | refine blk_drew ?_ | refine blk_alloc ?_ _)); refine blk_put (cs := #[.int .i64 0, .string (⟨#[]⟩ : ByteArray), .int .i64 0, .slice none 0 0]) ?_ 0 _ rfl; (with_reducible repeat (first | refine blk_drewN ?_ _ | refine blk_drew ?_ | refine blk_alloc ?_ _)); exact BK104.out⟩, ⟨by repeat (first | (with_reducible first | exact HB.out | apply below_alloc | apply pw_below_drewN | apply below_drew1 | refine below_set ?_ GE104.out) | exact HB.out)⟩⟩
                                  · rw [if_neg c29] at H
                                    have c29b0 : (((rd_T62 l0 x17_2).f2) == 0) = false := beq_eq_false_iff_ne.mpr c29
                                    have c29b1 : (((rd_T62 l0 x17_2).f2) != 0) = true := bne_iff_ne.mpr c29
                                    have H' := Aside0.mk H
                                    clear H
                                    have hcz35_0 : w9.cell? ⟨gb104, 0, none⟩ = some (.int .i64 0) := (blk_cell BK104.out 0).trans rfl
                                    have hcz35_1 : w9.cell? ⟨gb104, 1, none⟩ = some (.string (⟨#[]⟩ : ByteArray)) := (blk_cell BK104.out 1).trans rfl
                                    have hcz35_2 : w9.cell? ⟨gb104, 2, none⟩ = some (.int .i64 0) := (blk_cell BK104.out 2).trans rfl
                                    have hcz35_3 : w9.cell? ⟨gb104, 3, none⟩ = some (.slice none 0 0) := (blk_cell BK104.out 3).trans rfl
                                    have hfz35_0 := blk_frozen BK104.out 0
                                    have hfz35_1 := blk_frozen BK104.out 1
                                    have hfz35_2 := blk_frozen BK104.out 2
                                    have hfz35_3 := blk_frozen BK104.out 3
                                    go_wp2_with (first | (go_at_call 74; (with_reducible refine (postbagref05_Right.calls k2 ((rd_T62 l0 x17_2).f1) true _ A15.out).mono ?_); rintro e w' ⟨rfl, ⟨nd, rfl⟩⟩; (try first | exact ⟨rfl, _, World.drewN_drewN _ _ _⟩ | exact ⟨rfl, _, Eq.trans (World.drewN_drewN _ _ _) (congrArg (World.drewN _) (Nat.add_assoc _ _ _))⟩)))
                                    repeat (go_quiet (first | (go_at_call 74; (with_reducible refine (postbagref05_Right.calls k2 ((rd_T62 l0 x17_2).f1) true _ A15.out).mono ?_); rintro e w' ⟨rfl, ⟨nd, rfl⟩⟩; (try first | exact ⟨rfl, _, World.drewN_drewN _ _ _⟩ | exact ⟨rfl, _, Eq.trans (World.drewN_drewN _ _ _) (congrArg (World.drewN _) (Nat.add_assoc _ _ _))⟩))); try go_wp2_with (first | (go_at_call 74; (with_reducible refine (postbagref05_Right.calls k2 ((rd_T62 l0 x17_2).f1) true _ A15.out).mono ?_); rintro e w' ⟨rfl, ⟨nd, rfl⟩⟩; (try first | exact ⟨rfl, _, World.drewN_drewN _ _ _⟩ | exact ⟨rfl, _, Eq.trans (World.drewN_drewN _ _ _) (congrArg (World.drewN _) (Nat.add_assoc _ _ _))⟩))))
                                    go_meet
                                    case rel => exact ⟨_, (true), (by first | rfl | (simp; done) | (simp [*]; done)), H', ⟨by have := HJ1.out; have := HK2.out; first | omega | exact Nat.le_refl _⟩, ⟨by (with_reducible repeat (first | refine blk_drewN ?_ _ | refine blk_drew ?_ | refine blk_alloc ?_ _)); refine blk_put (cs := #[.int .i64 ((rd_T62 l0 x17_2).f0), .string ((rd_T62 l0 x17_2).f1), .int .i64 ((rd_T62 l0 x17_2).f2), .slice none 0 0]) ?_ 3 _ rfl; (with_reducible repeat (first | refine blk_drewN ?_ _ | refine blk_drew ?_ | refine blk_alloc ?_ _)); refine blk_put (cs := #[.int .i64 ((rd_T62 l0 x17_2).f0), .string ((rd_T62 l0 x17_2).f1), .int .i64 0, .slice none 0 0]) ?_ 2 _ rfl; (with_reducible repeat (first | refine blk_drewN ?_ _ | refine blk_drew ?_ | refine blk_alloc ?_ _)); refine blk_put (cs := #[.int .i64 ((rd_T62 l0 x17_2).f0), .string (⟨#[]⟩ : ByteArray), .int .i64 0, .slice none 0 0]) ?_ 1 _ rfl; (with_reducible repeat (first | refine blk_drewN ?_ _ | refine blk_drew ?_ | refine blk_alloc ?_ _)); refine blk_put (cs := #[.int .i64 0, .string (⟨#[]⟩ : ByteArray), .int .i64 0, .slice none 0 0]) ?_ 0 _ rfl; (with_reducible repeat (first | refine blk_drewN ?_ _ | refine blk_drew ?_ | refine blk_alloc ?_ _)); exact BK104.out⟩, ⟨by repeat (first | (with_reducible first | exact HB.out | apply below_alloc | apply pw_below_drewN | apply below_drew1 | refine below_set ?_ GE104.out) | exact HB.out)⟩⟩
                        · replace c16 := Bool.eq_false_iff.mpr c16
                          subst c16
                          have H1 : (postbagref06_Form.j2 k2 l0 x3_2 x17_2 l0 (l0.length : Int) x17_2 true ((rd_T62 l0 x17_2).f0) ((rd_T62 l0 x17_2).f1) ((rd_T62 l0 x17_2).f2) ((rd_T62 l0 x17_2).f3)) = some r := by rw [if_neg (show ¬ (false = true) by decide)] at H; exact H
                          clear H
                          have H := H1
                          clear H1
                          have H' := Aside0.mk H
                          clear H
                          have hcz36_0 : w9.cell? ⟨gb104, 0, none⟩ = some (.int .i64 0) := (blk_cell BK104.out 0).trans rfl
                          have hcz36_1 : w9.cell? ⟨gb104, 1, none⟩ = some (.string (⟨#[]⟩ : ByteArray)) := (blk_cell BK104.out 1).trans rfl
                          have hcz36_2 : w9.cell? ⟨gb104, 2, none⟩ = some (.int .i64 0) := (blk_cell BK104.out 2).trans rfl
                          have hcz36_3 : w9.cell? ⟨gb104, 3, none⟩ = some (.slice none 0 0) := (blk_cell BK104.out 3).trans rfl
                          have hfz36_0 := blk_frozen BK104.out 0
                          have hfz36_1 := blk_frozen BK104.out 1
                          have hfz36_2 := blk_frozen BK104.out 2
                          have hfz36_3 := blk_frozen BK104.out 3
                          go_wp2_with (first | (go_at_call 74; (with_reducible refine (postbagref05_Right.calls k2 ((rd_T62 l0 x17_2).f1) false _ A15.out).mono ?_); rintro e w' ⟨rfl, ⟨nd, rfl⟩⟩; (try first | exact ⟨rfl, _, World.drewN_drewN _ _ _⟩ | exact ⟨rfl, _, Eq.trans (World.drewN_drewN _ _ _) (congrArg (World.drewN _) (Nat.add_assoc _ _ _))⟩)))
                          repeat (go_quiet (first | (go_at_call 74; (with_reducible refine (postbagref05_Right.calls k2 ((rd_T62 l0 x17_2).f1) false _ A15.out).mono ?_); rintro e w' ⟨rfl, ⟨nd, rfl⟩⟩; (try first | exact ⟨rfl, _, World.drewN_drewN _ _ _⟩ | exact ⟨rfl, _, Eq.trans (World.drewN_drewN _ _ _) (congrArg (World.drewN _) (Nat.add_assoc _ _ _))⟩))); try go_wp2_with (first | (go_at_call 74; (with_reducible refine (postbagref05_Right.calls k2 ((rd_T62 l0 x17_2).f1) false _ A15.out).mono ?_); rintro e w' ⟨rfl, ⟨nd, rfl⟩⟩; (try first | exact ⟨rfl, _, World.drewN_drewN _ _ _⟩ | exact ⟨rfl, _, Eq.trans (World.drewN_drewN _ _ _) (congrArg (World.drewN _) (Nat.add_assoc _ _ _))⟩))))
                          go_meet
                          case rel => exact ⟨_, (true), (by first | rfl | (simp; done) | (simp [*]; done)), H', ⟨by have := HJ1.out; have := HK2.out; first | omega | exact Nat.le_refl _⟩, ⟨by (with_reducible repeat (first | refine blk_drewN ?_ _ | refine blk_drew ?_ | refine blk_alloc ?_ _)); refine blk_put (cs := #[.int .i64 ((rd_T62 l0 x17_2).f0), .string ((rd_T62 l0 x17_2).f1), .int .i64 ((rd_T62 l0 x17_2).f2), .slice none 0 0]) ?_ 3 _ rfl; (with_reducible repeat (first | refine blk_drewN ?_ _ | refine blk_drew ?_ | refine blk_alloc ?_ _)); refine blk_put (cs := #[.int .i64 ((rd_T62 l0 x17_2).f0), .string ((rd_T62 l0 x17_2).f1), .int .i64 0, .slice none 0 0]) ?_ 2 _ rfl; (with_reducible repeat (first | refine blk_drewN ?_ _ | refine blk_drew ?_ | refine blk_alloc ?_ _)); refine blk_put (cs := #[.int .i64 ((rd_T62 l0 x17_2).f0), .string (⟨#[]⟩ : ByteArray), .int .i64 0, .slice none 0 0]) ?_ 1 _ rfl; (with_reducible repeat (first | refine blk_drewN ?_ _ | refine blk_drew ?_ | refine blk_alloc ?_ _)); refine blk_put (cs := #[.int .i64 0, .string (⟨#[]⟩ : ByteArray), .int .i64 0, .slice none 0 0]) ?_ 0 _ rfl; (with_reducible repeat (first | refine blk_drewN ?_ _ | refine blk_drew ?_ | refine blk_alloc ?_ _)); exact BK104.out⟩, ⟨by repeat (first | (with_reducible first | exact HB.out | apply below_alloc | apply pw_below_drewN | apply below_drew1 | refine below_set ?_ GE104.out) | exact HB.out)⟩⟩
                  case rest =>
                    clear HC8
                    try clear c1
                    try clear p1
                    try clear q1
                    try clear hx1
                    try clear c2
                    try clear p2
                    try clear c3
                    try clear c3b0
                    try clear c3b1
                    try clear c4
                    try clear c5
                    try clear c5b0
                    try clear c6
                    try clear c6b0
                    try clear c7
                    try clear c7b0
                    try clear c10
                    try clear p10
                    try clear q10
                    try clear hx10
                    try clear c11
                    try clear c11b0
                    try clear c13
                    try clear c13b0
                    try clear c16
                    try clear c17
                    try clear c17b0
                    try clear c17b1
                    try clear c19
                    try clear c19b0
                    try clear c21
                    try clear c21b0
                    try clear c23
                    try clear c23b0
                    try clear c23b1
                    try clear c24
                    try clear c24b0
                    try clear c24b1
                    try clear c25
                    try clear c25b0
                    try clear c25b1
                    try clear c29
                    try clear c29b0
                    try clear c29b1
                    try clear c30
                    try clear c30b0
                    try clear c30b1
                    try clear c31
                    try clear c31b0
                    try clear c31b1
                    try clear hcz10_0
                    try clear hcz10_1
                    try clear hcz10_2
                    try clear hcz10_3
                    try clear hcz12_0
                    try clear hcz12_1
                    try clear hcz12_2
                    try clear hcz12_3
                    try clear hcz14_0
                    try clear hcz14_1
                    try clear hcz14_2
                    try clear hcz14_3
                    try clear hcz18_0
                    try clear hcz18_1
                    try clear hcz18_2
                    try clear hcz18_3
                    try clear hcz20_0
                    try clear hcz20_1
                    try clear hcz20_2
                    try clear hcz20_3
                    try clear hcz22_0
                    try clear hcz22_1
                    try clear hcz22_2
                    try clear hcz22_3
                    try clear hcz26_0
                    try clear hcz26_1
                    try clear hcz26_2
                    try clear hcz26_3
                    try clear hcz27_0
                    try clear hcz27_1
                    try clear hcz27_2
                    try clear hcz27_3
                    try clear hcz28_0
                    try clear hcz28_1
                    try clear hcz28_2
                    try clear hcz28_3
                    try clear hcz32_0
                    try clear hcz32_1
                    try clear hcz32_2
                    try clear hcz32_3
                    try clear hcz33_0
                    try clear hcz33_1
                    try clear hcz33_2
                    try clear hcz33_3
                    try clear hcz34_0
                    try clear hcz34_1
                    try clear hcz34_2
                    try clear hcz34_3
                    try clear hcz35_0
                    try clear hcz35_1
                    try clear hcz35_2
                    try clear hcz35_3
                    try clear hcz36_0
                    try clear hcz36_1
                    try clear hcz36_2
                    try clear hcz36_3
                    try clear hfz10_0
                    try clear hfz10_1
                    try clear hfz10_2
                    try clear hfz10_3
                    try clear hfz12_0
                    try clear hfz12_1
                    try clear hfz12_2
                    try clear hfz12_3
                    try clear hfz14_0
                    try clear hfz14_1
                    try clear hfz14_2
                    try clear hfz14_3
                    try clear hfz18_0
                    try clear hfz18_1
                    try clear hfz18_2
                    try clear hfz18_3
                    try clear hfz20_0
                    try clear hfz20_1
                    try clear hfz20_2
                    try clear hfz20_3
                    try clear hfz22_0
                    try clear hfz22_1
                    try clear hfz22_2
                    try clear hfz22_3
                    try clear hfz26_0
                    try clear hfz26_1
                    try clear hfz26_2
                    try clear hfz26_3
                    try clear hfz27_0
                    try clear hfz27_1
                    try clear hfz27_2
                    try clear hfz27_3
                    try clear hfz28_0
                    try clear hfz28_1
                    try clear hfz28_2
                    try clear hfz28_3
                    try clear hfz32_0
                    try clear hfz32_1
                    try clear hfz32_2
                    try clear hfz32_3
                    try clear hfz33_0
                    try clear hfz33_1
                    try clear hfz33_2
                    try clear hfz33_3
                    try clear hfz34_0
                    try clear hfz34_1
                    try clear hfz34_2
                    try clear hfz34_3
                    try clear hfz35_0
                    try clear hfz35_1
                    try clear hfz35_2
                    try clear hfz35_3
                    try clear hfz36_0
                    try clear hfz36_1
                    try clear hfz36_2
                    try clear hfz36_3
                    try clear hx103_0
                    try clear hx103_1
                    try clear hx103_2
                    try clear hx103_3
                    try clear p103
                    try clear p2
                    try clear q103
                    obtain ⟨kq, x77_7, rfl, HA, HJ7, BK104, HB⟩ := hcut
                    cases kq with
                    | zero => exact absurd HA.out (by simp [postbagref06_Form.j2])
                    | succ kj7 =>
                      have H := HA.out
                      clear HA
                      simp only [postbagref06_Form.j2] at H
                      by_cases c37 : x77_7 = true
                      · subst c37
                        have H1 : (some false) = some r := by rw [if_pos rfl] at H; exact H
                        clear H
                        have H := H1
                        clear H1
                        obtain rfl := Option.some.inj H
                        go_wp2
                        repeat (go_quiet (fail); try go_wp2)
                        go_ret
                        exact ⟨by first | rfl | (simp [errW_none, errW_some] <;> rfl) | (simp [*, errW_none, errW_some] <;> rfl), by repeat (first | (with_reducible first | exact HB.out | apply below_alloc | apply pw_below_drewN | apply below_drew1 | refine below_set ?_ GE104.out) | exact HB.out)⟩
                      · replace c37 := Bool.eq_false_iff.mpr c37
                        subst c37
                        have H1 : (postbagref06_Form.l1 kj7 l0 x3_2 x17_2 0 l0 (l0.length : Int) x17_2 ((rd_T62 l0 x17_2).f0) ((rd_T62 l0 x17_2).f1) ((rd_T62 l0 x17_2).f2) ((rd_T62 l0 x17_2).f3)) = some r := by rw [if_neg (show ¬ (false = true) by decide)] at H; exact H
                        clear H
                        have H := H1
                        clear H1
                        have H' := Aside0.mk H
                        clear H
                        go_wp2
                        repeat (go_quiet (fail); try go_wp2)
                        go_loopg [6] kj7 (fun kq v6 w' => ∃ (x6_4 : Int), v6 = .int .i64 x6_4 ∧ Aside0 (postbagref06_Form.l1 kq l0 x3_2 x17_2 x6_4 l0 (l0.length : Int) x17_2 ((rd_T62 l0 x17_2).f0) ((rd_T62 l0 x17_2).f1) ((rd_T62 l0 x17_2).f2) ((rd_T62 l0 x17_2).f3) = some r) ∧ Aside0 (kq ≤ kj7) ∧ Aside0 (w'.heap[gb104]? = some (.cells #[.int .i64 ((rd_T62 l0 x17_2).f0), .string ((rd_T62 l0 x17_2).f1), .int .i64 ((rd_T62 l0 x17_2).f2), (.slice A103_3 ((rd_T62 l0 x17_2).f3).length c103_3)] 62 (0, 0))) ∧ Aside0 (Below w.heap.size w w'))
                        case atStart => exact ⟨(0), (by first | rfl | (simp; done) | (simp [*]; done)), H', ⟨Nat.le_refl _⟩, ⟨by (with_reducible repeat (first | refine blk_drewN ?_ _ | refine blk_drew ?_ | refine blk_alloc ?_ _)); exact BK104.out⟩, ⟨by repeat (first | (with_reducible first | exact HB.out | apply below_alloc | apply pw_below_drewN | apply below_drew1 | refine below_set ?_ GE104.out) | exact HB.out)⟩⟩
                        case round =>
                          clear H'
                          try clear c1
                          try clear p1
                          try clear q1
                          try clear hx1
                          try clear c2
                          try clear p2
                          try clear c3
                          try clear c3b0
                          try clear c3b1
                          try clear c4
                          try clear c5
                          try clear c5b0
                          try clear c6
                          try clear c6b0
                          try clear c7
                          try clear c7b0
                          try clear c10
                          try clear p10
                          try clear q10
                          try clear hx10
                          try clear c11
                          try clear c11b0
                          try clear c13
                          try clear c13b0
                          try clear c16
                          try clear c17
                          try clear c17b0
                          try clear c17b1
                          try clear c19
                          try clear c19b0
                          try clear c21
                          try clear c21b0
                          try clear c23
                          try clear c23b0
                          try clear c23b1
                          try clear c24
                          try clear c24b0
                          try clear c24b1
                          try clear c25
                          try clear c25b0
                          try clear c25b1
                          try clear c29
                          try clear c29b0
                          try clear c29b1
                          try clear c30
                          try clear c30b0
                          try clear c30b1
                          try clear c31
                          try clear c31b0
                          try clear c31b1
                          try clear c37
                          try clear hcz10_0
                          try clear hcz10_1
                          try clear hcz10_2
                          try clear hcz10_3
                          try clear hcz12_0
                          try clear hcz12_1
                          try clear hcz12_2
                          try clear hcz12_3
                          try clear hcz14_0
                          try clear hcz14_1
                          try clear hcz14_2
                          try clear hcz14_3
                          try clear hcz18_0
                          try clear hcz18_1
                          try clear hcz18_2
                          try clear hcz18_3
                          try clear hcz20_0
                          try clear hcz20_1
                          try clear hcz20_2
                          try clear hcz20_3
                          try clear hcz22_0
                          try clear hcz22_1
                          try clear hcz22_2
                          try clear hcz22_3
                          try clear hcz26_0
                          try clear hcz26_1
                          try clear hcz26_2
                          try clear hcz26_3
                          try clear hcz27_0
                          try clear hcz27_1
                          try clear hcz27_2
                          try clear hcz27_3
                          try clear hcz28_0
                          try clear hcz28_1
                          try clear hcz28_2
                          try clear hcz28_3
                          try clear hcz32_0
                          try clear hcz32_1
                          try clear hcz32_2
                          try clear hcz32_3
                          try clear hcz33_0
                          try clear hcz33_1
                          try clear hcz33_2
                          try clear hcz33_3
                          try clear hcz34_0
                          try clear hcz34_1
                          try clear hcz34_2
                          try clear hcz34_3
                          try clear hcz35_0
                          try clear hcz35_1
                          try clear hcz35_2
                          try clear hcz35_3
                          try clear hcz36_0
                          try clear hcz36_1
                          try clear hcz36_2
                          try clear hcz36_3
                          try clear hfz10_0
                          try clear hfz10_1
                          try clear hfz10_2
                          try clear hfz10_3
                          try clear hfz12_0
                          try clear hfz12_1
                          try clear hfz12_2
                          try clear hfz12_3
                          try clear hfz14_0
                          try clear hfz14_1
                          try clear hfz14_2
                          try clear hfz14_3
                          try clear hfz18_0
                          try clear hfz18_1
                          try clear hfz18_2
                          try clear hfz18_3
                          try clear hfz20_0
                          try clear hfz20_1
                          try clear hfz20_2
                          try clear hfz20_3
                          try clear hfz22_0
                          try clear hfz22_1
                          try clear hfz22_2
                          try clear hfz22_3
                          try clear hfz26_0
                          try clear hfz26_1
                          try clear hfz26_2
                          try clear hfz26_3
                          try clear hfz27_0
                          try clear hfz27_1
                          try clear hfz27_2
                          try clear hfz27_3
                          try clear hfz28_0
                          try clear hfz28_1
                          try clear hfz28_2
                          try clear hfz28_3
                          try clear hfz32_0
                          try clear hfz32_1
                          try clear hfz32_2
                          try clear hfz32_3
                          try clear hfz33_0
                          try clear hfz33_1
                          try clear hfz33_2
                          try clear hfz33_3
                          try clear hfz34_0
                          try clear hfz34_1
                          try clear hfz34_2
                          try clear hfz34_3
                          try clear hfz35_0
                          try clear hfz35_1
                          try clear hfz35_2
                          try clear hfz35_3
                          try clear hfz36_0
                          try clear hfz36_1
                          try clear hfz36_2
                          try clear hfz36_3
                          try clear hx103_0
                          try clear hx103_1
                          try clear hx103_2
                          try clear hx103_3
                          try clear p1
                          try clear p10
                          try clear p103
                          try clear p2
                          try clear q1
                          try clear q10
                          try clear q103
                          obtain ⟨x6_4, rfl, HA, HK4, BK104, HB⟩ := hrel
                          cases gk with
                          | zero => exact absurd HA.out (by simp [postbagref06_Form.l1])
                          | succ k4 =>
                            have H := HA.out
                            clear HA
                            simp only [postbagref06_Form.l1] at H
                            by_cases c38 : x6_4 < x17_2
                            · rw [if_pos c38] at H
                              have c38b0 : decide (x6_4 < x17_2) = true := decide_eq_true c38
                              clear c38
                              by_cases c39 : 0 ≤ x6_4
                              · rw [if_pos c39] at H
                                have c39b0 : decide (0 ≤ x6_4) = true := decide_eq_true c39
                                clear c39
                                by_cases c40 : x6_4 < (l0.length : Int)
                                · rw [if_pos c40] at H
                                  have c40b0 : decide (x6_4 < (l0.length : Int)) = true := decide_eq_true c40
                                  clear c40
                                  by_cases c41 : ((rd_T62 l0 x6_4).f1).toList = ((rd_T62 l0 x17_2).f1).toList
                                  · rw [if_pos c41] at H
                                    have c41b0 : (((rd_T62 l0 x6_4).f1).toList == ((rd_T62 l0 x17_2).f1).toList) = true := beq_iff_eq.mpr c41
                                    have c41b1 : (((rd_T62 l0 x6_4).f1).toList != ((rd_T62 l0 x17_2).f1).toList) = false := bne_eq_false_iff_eq.mpr c41
                                    clear c41
                                    obtain rfl := Option.some.inj H
                                    have p106 : 0 ≤ (x6_4 : Int) := of_decide_eq_true (by first | (with_reducible assumption) | assumption)
                                    have q106 : x6_4 < (l0.length : Int) := of_decide_eq_true (by first | (with_reducible assumption) | assumption)
                                    obtain ⟨ad106, A106_3, c106_3, e106, hx106_0, hx106_1, hx106_2, hx106_3, hl106_3, hi106_3⟩ := at_T62 HR0.out x6_4 p106 q106
                                    obtain rfl : ad103 = ad106 := (by injection e106)
                                    replace hx106_0 := (HB.out.cell (World.block_lt_of_cell? w _ hx106_0)).trans hx106_0
                                    replace hx106_1 := (HB.out.cell (World.block_lt_of_cell? w _ hx106_1)).trans hx106_1
                                    replace hx106_2 := (HB.out.cell (World.block_lt_of_cell? w _ hx106_2)).trans hx106_2
                                    replace hx106_3 := (HB.out.cell (World.block_lt_of_cell? w _ hx106_3)).trans hx106_3
                                    have HR106_3 := Aside0.mk hi106_3
                                    have HC106_3 := Aside0.mk hl106_3
                                    clear hi106_3 hl106_3
                                    replace p106 := eq_true p106
                                    replace q106 := eq_true q106
                                    have hcz42_0 : wr.cell? ⟨gb104, 0, none⟩ = some (.int .i64 ((rd_T62 l0 x17_2).f0)) := (blk_cell BK104.out 0).trans rfl
                                    have hcz42_1 : wr.cell? ⟨gb104, 1, none⟩ = some (.string ((rd_T62 l0 x17_2).f1)) := (blk_cell BK104.out 1).trans rfl
                                    have hcz42_2 : wr.cell? ⟨gb104, 2, none⟩ = some (.int .i64 ((rd_T62 l0 x17_2).f2)) := (blk_cell BK104.out 2).trans rfl
                                    have hcz42_3 : wr.cell? ⟨gb104, 3, none⟩ = some (.slice A103_3 ((rd_T62 l0 x17_2).f3).length c103_3) := (blk_cell BK104.out 3).trans rfl
                                    have hfz42_0 := blk_frozen BK104.out 0
                                    have hfz42_1 := blk_frozen BK104.out 1
                                    have hfz42_2 := blk_frozen BK104.out 2
                                    have hfz42_3 := blk_frozen BK104.out 3
                                    go_wp2
                                    repeat (go_quiet (fail); try go_wp2)
                                    go_ret
                                    exact ⟨by first | rfl | (simp [errW_none, errW_some] <;> rfl) | (simp [*, errW_none, errW_some] <;> rfl), by repeat (first | (with_reducible first | exact HB.out | apply below_alloc | apply pw_below_drewN | apply below_drew1 | refine below_set ?_ GE104.out) | exact HB.out)⟩
                                  · rw [if_neg c41] at H
                                    have c41b0 : (((rd_T62 l0 x6_4).f1).toList == ((rd_T62 l0 x17_2).f1).toList) = false := beq_eq_false_iff_ne.mpr c41
                                    have c41b1 : (((rd_T62 l0 x6_4).f1).toList != ((rd_T62 l0 x17_2).f1).toList) = true := bne_iff_ne.mpr c41
                                    have H' := Aside0.mk H
                                    clear H
                                    have p106 : 0 ≤ (x6_4 : Int) := of_decide_eq_true (by first | (with_reducible assumption) | assumption)
                                    have q106 : x6_4 < (l0.length : Int) := of_decide_eq_true (by first | (with_reducible assumption) | assumption)
                                    obtain ⟨ad106, A106_3, c106_3, e106, hx106_0, hx106_1, hx106_2, hx106_3, hl106_3, hi106_3⟩ := at_T62 HR0.out x6_4 p106 q106
                                    obtain rfl : ad103 = ad106 := (by injection e106)
                                    replace hx106_0 := (HB.out.cell (World.block_lt_of_cell? w _ hx106_0)).trans hx106_0
                                    replace hx106_1 := (HB.out.cell (World.block_lt_of_cell? w _ hx106_1)).trans hx106_1
                                    replace hx106_2 := (HB.out.cell (World.block_lt_of_cell? w _ hx106_2)).trans hx106_2
                                    replace hx106_3 := (HB.out.cell (World.block_lt_of_cell? w _ hx106_3)).trans hx106_3
                                    have HR106_3 := Aside0.mk hi106_3
                                    have HC106_3 := Aside0.mk hl106_3
                                    clear hi106_3 hl106_3
                                    replace p106 := eq_true p106
                                    replace q106 := eq_true q106
                                    have hcz43_0 : wr.cell? ⟨gb104, 0, none⟩ = some (.int .i64 ((rd_T62 l0 x17_2).f0)) := (blk_cell BK104.out 0).trans rfl
                                    have hcz43_1 : wr.cell? ⟨gb104, 1, none⟩ = some (.string ((rd_T62 l0 x17_2).f1)) := (blk_cell BK104.out 1).trans rfl
                                    have hcz43_2 : wr.cell? ⟨gb104, 2, none⟩ = some (.int .i64 ((rd_T62 l0 x17_2).f2)) := (blk_cell BK104.out 2).trans rfl
                                    have hcz43_3 : wr.cell? ⟨gb104, 3, none⟩ = some (.slice A103_3 ((rd_T62 l0 x17_2).f3).length c103_3) := (blk_cell BK104.out 3).trans rfl
                                    have hfz43_0 := blk_frozen BK104.out 0
                                    have hfz43_1 := blk_frozen BK104.out 1
                                    have hfz43_2 := blk_frozen BK104.out 2
                                    have hfz43_3 := blk_frozen BK104.out 3
                                    go_wp2
                                    repeat (go_quiet (fail); try go_wp2)
                                    go_roundg k4
                                    case measure => have := HJ1.out; have := HK2.out; have := HJ7.out; have := HK4.out; omega
                                    case rel => exact ⟨(wrap64 (x6_4 + 1)), (by first | rfl | (simp; done) | (simp [*]; done)), H', ⟨by have := HJ1.out; have := HK2.out; have := HJ7.out; have := HK4.out; omega⟩, ⟨by (with_reducible repeat (first | refine blk_drewN ?_ _ | refine blk_drew ?_ | refine blk_alloc ?_ _)); exact BK104.out⟩, ⟨by repeat (first | (with_reducible first | exact HB.out | apply below_alloc | apply pw_below_drewN | apply below_drew1 | refine below_set ?_ GE104.out) | exact HB.out)⟩⟩
                                · rw [if_neg c40] at H
                                  exact absurd H (by simp)
                              · rw [if_neg c39] at H
                                exact absurd H (by simp)
                            · rw [if_neg c38] at H
                              have c38b0 : decide (x6_4 < x17_2) = false := decide_eq_false c38
                              clear c38
                              have H' := Aside0.mk H
                              clear H
                              have hcz44_0 : wr.cell? ⟨gb104, 0, none⟩ = some (.int .i64 ((rd_T62 l0 x17_2).f0)) := (blk_cell BK104.out 0).trans rfl
                              have hcz44_1 : wr.cell? ⟨gb104, 1, none⟩ = some (.string ((rd_T62 l0 x17_2).f1)) := (blk_cell BK104.out 1).trans rfl
                              have hcz44_2 : wr.cell? ⟨gb104, 2, none⟩ = some (.int .i64 ((rd_T62 l0 x17_2).f2)) := (blk_cell BK104.out 2).trans rfl
                              have hcz44_3 : wr.cell? ⟨gb104, 3, none⟩ = some (.slice A103_3 ((rd_T62 l0 x17_2).f3).length c103_3) := (blk_cell BK104.out 3).trans rfl
                              have hfz44_0 := blk_frozen BK104.out 0
                              have hfz44_1 := blk_frozen BK104.out 1
                              have hfz44_2 := blk_frozen BK104.out 2
                              have hfz44_3 := blk_frozen BK104.out 3
                              go_wp2
                              repeat (go_quiet (fail); try go_wp2)
                              go_roundg k4
                              case measure => have := HJ1.out; have := HK2.out; have := HJ7.out; have := HK4.out; omega
                              case rel => exact ⟨(wrap64 (x3_2 + (wrap64 ((wrap64 (10 + (((rd_T62 l0 x17_2).f1).size : Int))) + (((rd_T62 l0 x17_2).f3).length : Int))))), (wrap64 (x17_2 + 1)), (by first | rfl | (simp; done) | (simp [*]; done)), (by first | rfl | (simp; done) | (simp [*]; done)), H', ⟨by have := HJ1.out; have := HK2.out; have := HJ7.out; have := HK4.out; omega⟩, ⟨by repeat (first | (with_reducible first | exact HB.out | apply below_alloc | apply pw_below_drewN | apply below_drew1 | refine below_set ?_ GE104.out) | exact HB.out)⟩⟩
                · rw [if_neg c7] at H
                  exact absurd H (by simp)
              · rw [if_neg c6] at H
                exact absurd H (by simp)
            · rw [if_neg c5] at H
              have c5b0 : decide (x17_2 < (l0.length : Int)) = false := decide_eq_false c5
              clear c5
              obtain rfl := Option.some.inj H
              go_wp2
              repeat (go_quiet (fail); try go_wp2)
              go_ret
              exact ⟨by first | rfl | (simp [errW_none, errW_some] <;> rfl) | (simp [*, errW_none, errW_some] <;> rfl), by repeat (first | (with_reducible first | exact HB.out | apply below_alloc | apply pw_below_drewN | apply below_drew1) | exact HB.out | exact Below.refl _ _)⟩

end Go.Proofs.YtpcfnkmljchiiaaGreatDoor.GSix
