/- Written by a program of mine (wip/tools/mkprint.py turns the kit's print; given contracts by hand). Lean checks it. -/
import Derived.Test.YthlofokgbogndaaDoorGCheckx0
import Derived.Test.YthlofokgbogndaaDoorGCheckx1
import Derived.Test.YthlofokgbogndaaDoorGCheckx2
namespace Go.Proofs.YthlofokgbogndaaDoor.GCheck
open Go.RowKit Go.Proofs.YthlofokgbogndaaDoorW.PrintWords Go.Proofs.YthlofokgbogndaaDoorW.PrintLast Go.Proofs.YthlofokgbogndaaDoorW.PrintMore
attribute [local go_sem] max2_int min2_int max_two min_two max_three min_three max_four min_four   -- for this text's walks alone
set_option linter.unusedVariables false
set_option linter.unusedSimpArgs false

/-! ### postbaglaw04_CheckSpoilt: function 4 -/
mutual
def postbaglaw04_CheckSpoilt.j0 : Nat → List Int → Int → Int → List Int → Bool → Option (Bool)
  | 0, _, _, _, _, _ => none
  | k + 1, x0, x1, x2, x7, x38 => if x38 = true then (some false) else ((check_Take.f k x7).bind fun bt158 => (if bt158.2.2 = true then (if (bt158.2.1.length : Int) = 0 then (postbaglaw04_CheckSpoilt.j1 k x1 x2 x7 ((strOfNums bt158.1).toList != (strOfNums x0).toList)) else (postbaglaw04_CheckSpoilt.j1 k x1 x2 x7 true)) else (postbaglaw04_CheckSpoilt.j1 k x1 x2 x7 true)))
def postbaglaw04_CheckSpoilt.j1 : Nat → Int → Int → List Int → Bool → Option (Bool)
  | 0, _, _, _, _ => none
  | k + 1, x1, x2, x7, x58 => if x58 = true then (some false) else (if (IntKind.u64.wrap ((x7.length : Int))) = 0 then (none) else (if 0 ≤ (wrap64 (Int.tmod (IntKind.u64.wrap (x1)) (IntKind.u64.wrap ((x7.length : Int))))) then (if (wrap64 (Int.tmod (IntKind.u64.wrap (x1)) (IntKind.u64.wrap ((x7.length : Int))))) ≤ (x7.length : Int) then ((check_Take.f k (x7.take ((wrap64 (Int.tmod (IntKind.u64.wrap (x1)) (IntKind.u64.wrap ((x7.length : Int))))) : Int).toNat)).bind fun bt169 => (if bt169.2.2 = true then (some false) else (if (wrap64 (Int.tmod (IntKind.u64.wrap (x1)) (IntKind.u64.wrap ((x7.length : Int))))) < 8 then (some true) else (if x2 = 0 then (some true) else ((some (([] : List Int) : List Int)).bind fun y176 => (if y176.length + x7.length < 140737488355328 then ((some (y176 ++ x7 : List Int)).bind fun y179 => (if (wrap64 (Int.tmod (IntKind.u64.wrap (x1)) (IntKind.u64.wrap ((x7.length : Int))))) < (y179.length : Int) then ((check_Take.f k (y179.set ((wrap64 (Int.tmod (IntKind.u64.wrap (x1)) (IntKind.u64.wrap ((x7.length : Int))))) : Int).toNat (Go.bits .xor .u8 (rd y179 (wrap64 (Int.tmod (IntKind.u64.wrap (x1)) (IntKind.u64.wrap ((x7.length : Int)))))) x2))).bind fun bt184 => (some (!bt184.2.2))) else (none))) else (none))))))) else (none)) else (none)))
end
def postbaglaw04_CheckSpoilt.f (k : Nat) (l0 : List Int) (a1 : Int) (a2 : Int) : Option (Bool) := (postbaglaw04_alive.f k).bind fun t152 => (if t152 = true then (if (l0.length : Int) > 10000 then (some true) else ((check_Record.f k l0).bind fun bt153 => (if bt153.2.isNone = true then (postbaglaw04_CheckSpoilt.j0 k l0 a1 a2 bt153.1 ((bt153.1.length : Int) != (wrap64 ((l0.length : Int) + 8)))) else (postbaglaw04_CheckSpoilt.j0 k l0 a1 a2 bt153.1 true)))) else (some false))
theorem postbaglaw04_CheckSpoilt.mono_l : ∀ k, (∀ y0 y1 y2 y3 y4, LeO (postbaglaw04_CheckSpoilt.j0 k y0 y1 y2 y3 y4) (postbaglaw04_CheckSpoilt.j0 (k + 1) y0 y1 y2 y3 y4)) ∧ (∀ y0 y1 y2 y3, LeO (postbaglaw04_CheckSpoilt.j1 k y0 y1 y2 y3) (postbaglaw04_CheckSpoilt.j1 (k + 1) y0 y1 y2 y3))
  | 0 => ⟨fun _ _ _ _ _ r h => by simp [postbaglaw04_CheckSpoilt.j0] at h, fun _ _ _ _ r h => by simp [postbaglaw04_CheckSpoilt.j1] at h⟩
  | k + 1 => by
    obtain ⟨ih0, ih1⟩ := postbaglaw04_CheckSpoilt.mono_l k
    refine ⟨?_, ?_⟩
    · intro y0 y1 y2 y3 y4
      unfold postbaglaw04_CheckSpoilt.j0
      repeat' first
      | (with_reducible exact ih0 _ _ _ _ _)
      | (with_reducible exact ih1 _ _ _ _)
      | (with_reducible exact check_Record.mono _ _)
      | (with_reducible exact check_Take.mono _ _)
      | (with_reducible exact postbaglaw04_alive.mono _)
      | (with_reducible exact LeO.refl _)
      | (with_reducible exact LeO.none _)
      | (with_reducible refine LeO.ite ?_ ?_)
      | (with_reducible refine LeO.bind ?_ (fun _ => ?_))
      | exact ih0 _ _ _ _ _
      | exact ih1 _ _ _ _
      | exact check_Record.mono _ _
      | exact check_Take.mono _ _
      | exact postbaglaw04_alive.mono _
      | exact LeO.none _
      | refine LeO.ite ?_ ?_
      | refine LeO.bind ?_ (fun _ => ?_)
    · intro y0 y1 y2 y3
      unfold postbaglaw04_CheckSpoilt.j1
      repeat' first
      | (with_reducible exact ih0 _ _ _ _ _)
      | (with_reducible exact ih1 _ _ _ _)
      | (with_reducible exact check_Record.mono _ _)
      | (with_reducible exact check_Take.mono _ _)
      | (with_reducible exact postbaglaw04_alive.mono _)
      | (with_reducible exact LeO.refl _)
      | (with_reducible exact LeO.none _)
      | (with_reducible refine LeO.ite ?_ ?_)
      | (with_reducible refine LeO.bind ?_ (fun _ => ?_))
      | exact ih0 _ _ _ _ _
      | exact ih1 _ _ _ _
      | exact check_Record.mono _ _
      | exact check_Take.mono _ _
      | exact postbaglaw04_alive.mono _
      | exact LeO.none _
      | refine LeO.ite ?_ ?_
      | refine LeO.bind ?_ (fun _ => ?_)
theorem postbaglaw04_CheckSpoilt.mono : ∀ a0 a1 a2 k, LeO (postbaglaw04_CheckSpoilt.f k a0 a1 a2) (postbaglaw04_CheckSpoilt.f (k + 1) a0 a1 a2) := by
  intro a0 a1 a2 k
  obtain ⟨ih0, ih1⟩ := postbaglaw04_CheckSpoilt.mono_l k
  unfold postbaglaw04_CheckSpoilt.f
  repeat' first
      | (with_reducible exact ih0 _ _ _ _ _)
      | (with_reducible exact ih1 _ _ _ _)
      | (with_reducible exact check_Record.mono _ _)
      | (with_reducible exact check_Take.mono _ _)
      | (with_reducible exact postbaglaw04_alive.mono _)
      | (with_reducible exact LeO.refl _)
      | (with_reducible exact LeO.none _)
      | (with_reducible refine LeO.ite ?_ ?_)
      | (with_reducible refine LeO.bind ?_ (fun _ => ?_))
      | exact ih0 _ _ _ _ _
      | exact ih1 _ _ _ _
      | exact check_Record.mono _ _
      | exact check_Take.mono _ _
      | exact postbaglaw04_alive.mono _
      | exact LeO.none _
      | refine LeO.ite ?_ ?_
      | refine LeO.bind ?_ (fun _ => ?_)
set_option maxHeartbeats 8000000 in
set_option maxRecDepth 100000 in
theorem postbaglaw04_CheckSpoilt.calls (k : Nat) (A0 : Option Addr) (c0 : Nat) (l0 : List Int) (a1 : Int) (a2 : Int) (r : Bool) (w : World) (hr0 : Kd.C (Kd.int .u8) w A0 l0.length l0) (hc0 : l0.length ≤ c0) (h : postbaglaw04_CheckSpoilt.f k l0 a1 a2 = some r) :
    Calls Tryd.prog 4 #[.slice A0 l0.length c0, .int .i64 a1, .int .u8 a2] w fun e w' => e = .returned (.bool r) ∧ Below w.heap.size w w' := by
  have hu25 := Tryd.underlying25
  have HR0 := Aside0.mk hr0
  have HC0 := Aside0.mk hc0
  clear hr0 hc0
  have HB := Aside0.mk (Below.refl w.heap.size w)
  have H : ((postbaglaw04_alive.f k).bind fun t152 => (if t152 = true then (if (l0.length : Int) > 10000 then (some true) else ((check_Record.f k l0).bind fun bt153 => (if bt153.2.isNone = true then (postbaglaw04_CheckSpoilt.j0 k l0 a1 a2 bt153.1 ((bt153.1.length : Int) != (wrap64 ((l0.length : Int) + 8)))) else (postbaglaw04_CheckSpoilt.j0 k l0 a1 a2 bt153.1 true)))) else (some false))) = some r := h
  clear h
  replace H := Option.bind_eq_some_iff.mp H
  obtain ⟨t152, A40, H⟩ := H
  replace H : (if t152 = true then (if (l0.length : Int) > 10000 then (some true) else ((check_Record.f k l0).bind fun bt153 => (if bt153.2.isNone = true then (postbaglaw04_CheckSpoilt.j0 k l0 a1 a2 bt153.1 ((bt153.1.length : Int) != (wrap64 ((l0.length : Int) + 8)))) else (postbaglaw04_CheckSpoilt.j0 k l0 a1 a2 bt153.1 true)))) else (some false)) = some r := H
  have A4 := Aside0.mk A40
  clear A40
  by_cases c5 : t152 = true
  · subst c5
    have H1 : (if (l0.length : Int) > 10000 then (some true) else ((check_Record.f k l0).bind fun bt153 => (if bt153.2.isNone = true then (postbaglaw04_CheckSpoilt.j0 k l0 a1 a2 bt153.1 ((bt153.1.length : Int) != (wrap64 ((l0.length : Int) + 8)))) else (postbaglaw04_CheckSpoilt.j0 k l0 a1 a2 bt153.1 true)))) = some r := by rw [if_pos rfl] at H; exact H
    clear H
    have H := H1
    clear H1
    by_cases c6 : (l0.length : Int) > 10000
    · rw [if_pos c6] at H
      have c6b0 : decide (10000 < (l0.length : Int)) = true := decide_eq_true c6
      have c6b1 : decide (10000 < l0.length) = true := decide_eq_true (by omega)
      clear c6
      obtain rfl := Option.some.inj H
      go_enter Tryd.func4, Tryd.ntmps4
      go_wp2_with (first | ((with_reducible refine gate_callee (f := 5) rfl ?_); refine goesL_ (some 19) rfl rfl Tryd.func5 (by kernel_rfl) rfl #[] rfl (by (try simp only [List.map_toArray, List.map_cons, List.map_nil]); first | done | rfl | (simp only [List.length_drop, List.length_take]; rfl)) ?_; (with_reducible refine (postbaglaw04_alive.calls k  true _ A4.out).mono ?_); rintro e w7 ⟨rfl, hb⟩; refine ⟨_, rfl, ?_⟩; have n0_ := Aside0.mk (below_step (by repeat (first | (with_reducible first | exact HB.out | apply below_alloc | apply pw_below_drewN | apply below_drew1) | exact HB.out | exact Below.refl _ _)) hb); clear HB; have HB := n0_; clear n0_; (try clear hb); (try clear hb2); (try clear hk); (try clear hi)))
      go_ret
      exact ⟨by first | rfl | (simp [errW_none, errW_some] <;> rfl) | (simp [*, errW_none, errW_some] <;> rfl), by repeat (first | (with_reducible first | exact HB.out | apply below_alloc | apply pw_below_drewN | apply below_drew1) | exact HB.out | exact Below.refl _ _)⟩
    · rw [if_neg c6] at H
      have c6b0 : decide (10000 < (l0.length : Int)) = false := decide_eq_false c6
      have c6b1 : decide (10000 < l0.length) = false := decide_eq_false (by omega)
      clear c6
      replace H := Option.bind_eq_some_iff.mp H
      obtain ⟨⟨t153, t154⟩, A80, H⟩ := H
      replace H : (if t154.isNone = true then (postbaglaw04_CheckSpoilt.j0 k l0 a1 a2 t153 ((t153.length : Int) != (wrap64 ((l0.length : Int) + 8)))) else (postbaglaw04_CheckSpoilt.j0 k l0 a1 a2 t153 true)) = some r := H
      have A8 := Aside0.mk A80
      clear A80
      have HC9 := Aside0.mk H
      clear H
      go_enter Tryd.func4, Tryd.ntmps4
      go_upto_region 6 with (first | ((with_reducible refine gate_callee (f := 5) rfl ?_); refine goesL_ (some 19) rfl rfl Tryd.func5 (by kernel_rfl) rfl #[] rfl (by (try simp only [List.map_toArray, List.map_cons, List.map_nil]); first | done | rfl | (simp only [List.length_drop, List.length_take]; rfl)) ?_; (with_reducible refine (postbaglaw04_alive.calls k  true _ A4.out).mono ?_); rintro e w10 ⟨rfl, hb⟩; refine ⟨_, rfl, ?_⟩; have n0_ := Aside0.mk (below_step (by repeat (first | (with_reducible first | exact HB.out | apply below_alloc | apply pw_below_drewN | apply below_drew1) | exact HB.out | exact Below.refl _ _)) hb); clear HB; have HB := n0_; clear n0_; (try clear hb); (try clear hb2); (try clear hk); (try clear hi)) | ((with_reducible refine gate_callee (f := 6) rfl ?_); refine goesL_ (some 26) rfl rfl Tryd.func6 (by kernel_rfl) rfl #[.slice A0 l0.length c0] rfl (by (try simp only [List.map_toArray, List.map_cons, List.map_nil]); first | done | rfl | (simp only [List.length_drop, List.length_take]; rfl)) ?_; (with_reducible refine (check_Record.calls k _ _ l0 t153 t154 _ ?side1 ?side2 A8.out).mono ?_); (case side1 => repeat (first | exact (Kd.C_below HR0.out HB.out) | exact HR0.out | (with_reducible refine Kd.C_alloc ?_ _) | (with_reducible refine Kd.C_drewN ?_ _) | (with_reducible refine Kd.C_drew ?_))); (case side2 => exact HC0.out); rintro e w11 ⟨v155, rfl, ho0, hb⟩; refine ⟨_, rfl, ?_⟩; have n0_ := Aside0.mk (Kd.R_lower ho0 (below_size (by repeat (first | (with_reducible first | exact HB.out | apply below_alloc | apply pw_below_drewN | apply below_drew1) | exact HB.out | exact Below.refl _ _)))); have n1_ := Aside0.mk (below_step (by repeat (first | (with_reducible first | exact HB.out | apply below_alloc | apply pw_below_drewN | apply below_drew1) | exact HB.out | exact Below.refl _ _)) hb); clear HB; have HO156 := n0_; have HB := n1_; clear n0_ n1_; (try clear hb); (try clear hb2); (try clear hk); (try clear hi); (try clear ho0); (try simp only [errW_none, errW_some])))
      (try simp only [Act.put, List.setIfInBounds_toArray, List.set_cons_zero, List.set_cons_succ])
      go_cut [38] (fun v38 wc => ∃ (kq : Nat) (x38_8 : Bool), v38 = .bool x38_8 ∧ Aside0 (postbaglaw04_CheckSpoilt.j0 kq l0 a1 a2 t153 x38_8 = some r) ∧ Aside0 (kq ≤ k) ∧ Aside0 (Kd.R (Kd.int .u8) 5 wc w.heap.size (fun _ => True) v155 t153) ∧ Aside0 (Below w.heap.size w wc))
      case first =>
        have H := HC9.out
        clear HC9
        rcases t154 with _ | q157
        · have H1 : (postbaglaw04_CheckSpoilt.j0 k l0 a1 a2 t153 ((t153.length : Int) != (wrap64 ((l0.length : Int) + 8)))) = some r := by rw [if_pos (show (none : Option Int).isNone = true by rfl)] at H; exact H
          clear H
          have H := H1
          clear H1
          try simp only [errW_none, errW_some]
          have H' := Aside0.mk H
          clear H
          obtain ⟨Ao12, co12, eo12⟩ := Kd.R_slice HO156.out
          subst eo12
          go_wp2
          go_meet
          case rel => exact ⟨_, (((t153.length : Int) != (wrap64 ((l0.length : Int) + 8)))), (by first | rfl | (simp; done) | (simp [*]; done)), H', ⟨by first | omega | exact Nat.le_refl _⟩, ⟨by (with_reducible repeat (first | apply Kd.R_alloc | apply Kd.R_drewN | apply Kd.R_drew)); exact HO156.out⟩, ⟨by repeat (first | (with_reducible first | exact HB.out | apply below_alloc | apply pw_below_drewN | apply below_drew1) | exact HB.out | exact Below.refl _ _)⟩⟩
        · have H1 : (postbaglaw04_CheckSpoilt.j0 k l0 a1 a2 t153 true) = some r := by rw [if_neg (show ¬ (some q157).isNone = true by simp)] at H; exact H
          clear H
          have H := H1
          clear H1
          try simp only [errW_none, errW_some]
          have H' := Aside0.mk H
          clear H
          go_wp2
          go_meet
          case rel => exact ⟨_, (true), (by first | rfl | (simp; done) | (simp [*]; done)), H', ⟨by first | omega | exact Nat.le_refl _⟩, ⟨by (with_reducible repeat (first | apply Kd.R_alloc | apply Kd.R_drewN | apply Kd.R_drew)); exact HO156.out⟩, ⟨by repeat (first | (with_reducible first | exact HB.out | apply below_alloc | apply pw_below_drewN | apply below_drew1) | exact HB.out | exact Below.refl _ _)⟩⟩
      case rest =>
        clear HC9
        try clear q1
        try clear p2
        try clear c4
        try clear c5
        try clear c6
        try clear c6b0
        try clear c6b1
        try clear p6
        try clear q157
        obtain ⟨kq, x38_8, rfl, HA, HJ8, HO_7, HB⟩ := hcut
        cases kq with
        | zero => exact absurd HA.out (by simp [postbaglaw04_CheckSpoilt.j0])
        | succ kj8 =>
          have H := HA.out
          clear HA
          simp only [postbaglaw04_CheckSpoilt.j0] at H
          by_cases c13 : x38_8 = true
          · subst c13
            have H1 : (some false) = some r := by rw [if_pos rfl] at H; exact H
            clear H
            have H := H1
            clear H1
            obtain rfl := Option.some.inj H
            go_wp2
            go_ret
            exact ⟨by first | rfl | (simp [errW_none, errW_some] <;> rfl) | (simp [*, errW_none, errW_some] <;> rfl), by repeat (first | (with_reducible first | exact HB.out | apply below_alloc | apply pw_below_drewN | apply below_drew1) | exact HB.out | exact Below.refl _ _)⟩
          · replace c13 := Bool.eq_false_iff.mpr c13
            subst c13
            have H1 : ((check_Take.f kj8 t153).bind fun bt158 => (if bt158.2.2 = true then (if (bt158.2.1.length : Int) = 0 then (postbaglaw04_CheckSpoilt.j1 kj8 a1 a2 t153 ((strOfNums bt158.1).toList != (strOfNums l0).toList)) else (postbaglaw04_CheckSpoilt.j1 kj8 a1 a2 t153 true)) else (postbaglaw04_CheckSpoilt.j1 kj8 a1 a2 t153 true))) = some r := by rw [if_neg (show ¬ (false = true) by decide)] at H; exact H
            clear H
            have H := H1
            clear H1
            replace H := Option.bind_eq_some_iff.mp H
            obtain ⟨⟨t158, t159, t160⟩, A140, H⟩ := H
            replace H : (if t160 = true then (if (t159.length : Int) = 0 then (postbaglaw04_CheckSpoilt.j1 kj8 a1 a2 t153 ((strOfNums t158).toList != (strOfNums l0).toList)) else (postbaglaw04_CheckSpoilt.j1 kj8 a1 a2 t153 true)) else (postbaglaw04_CheckSpoilt.j1 kj8 a1 a2 t153 true)) = some r := H
            have A14 := Aside0.mk A140
            clear A140
            have HC15 := Aside0.mk H
            clear H
            obtain ⟨Ao16, co16, eo16⟩ := Kd.R_slice HO_7.out
            subst eo16
            go_upto_region 9 with (first | ((with_reducible refine gate_callee (f := 8) rfl ?_); refine goesL_ (some 41) rfl rfl Tryd.func8 (by kernel_rfl) rfl #[.slice Ao16 t153.length co16] rfl (by (try simp only [List.map_toArray, List.map_cons, List.map_nil]); first | done | rfl | (simp only [List.length_drop, List.length_take]; rfl)) ?_; (with_reducible refine (check_Take.calls kj8 _ _ t153 t158 t159 t160 _ ?side1 ?side2 A14.out).mono ?_); (case side1 => repeat (first | exact (Kd.R_reads' HO_7.out).2.2 | (with_reducible refine Kd.C_alloc ?_ _) | (with_reducible refine Kd.C_drewN ?_ _) | (with_reducible refine Kd.C_drew ?_))); (case side2 => exact (Kd.R_reads' HO_7.out).2.1); rintro e w17 ⟨v161, v163, rfl, ho0, ho1, hb⟩; refine ⟨_, rfl, ?_⟩; have n0_ := Aside0.mk (Kd.R_mono (Kd.R_told (Kd.R_told (Kd.R_old (by (with_reducible repeat (first | apply Kd.R_alloc | apply Kd.R_drewN | apply Kd.R_drew)); exact HO_7.out) hb) (Kd.R_base ho0)) (Kd.R_base ho1)) (fun _ h_ => h_.1)); have n1_ := Aside0.mk (Kd.R_lower (Kd.R_new' ho0 (Kd.R_lt (by (with_reducible repeat (first | apply Kd.R_alloc | apply Kd.R_drewN | apply Kd.R_drew)); exact HO_7.out))) (below_size (by repeat (first | (with_reducible first | exact HB.out | apply below_alloc | apply pw_below_drewN | apply below_drew1) | exact HB.out | exact Below.refl _ _)))); have n2_ := Aside0.mk (Kd.R_lower (Kd.R_new' ho1 (Kd.R_lt (by (with_reducible repeat (first | apply Kd.R_alloc | apply Kd.R_drewN | apply Kd.R_drew)); exact HO_7.out))) (below_size (by repeat (first | (with_reducible first | exact HB.out | apply below_alloc | apply pw_below_drewN | apply below_drew1) | exact HB.out | exact Below.refl _ _)))); have n3_ := Aside0.mk (below_step (by repeat (first | (with_reducible first | exact HB.out | apply below_alloc | apply pw_below_drewN | apply below_drew1) | exact HB.out | exact Below.refl _ _)) hb); clear HO_7; clear HB; have HO_7 := n0_; have HO162 := n1_; have HO164 := n2_; have HB := n3_; clear n0_ n1_ n2_ n3_; (try clear hb); (try clear hb2); (try clear hk); (try clear hi); (try clear ho0); (try clear ho1)))
            (try simp only [Act.put, List.setIfInBounds_toArray, List.set_cons_zero, List.set_cons_succ])
            go_cut [58] (fun v58 wc => ∃ (kq : Nat) (x58_14 : Bool), v58 = .bool x58_14 ∧ Aside0 (postbaglaw04_CheckSpoilt.j1 kq a1 a2 t153 x58_14 = some r) ∧ Aside0 (kq ≤ kj8) ∧ Aside0 (Kd.R (Kd.int .u8) 5 wc w.heap.size (fun _ => True) (.slice Ao16 t153.length co16) t153) ∧ Aside0 (Below w.heap.size w wc))
            case first =>
              have H := HC15.out
              clear HC15
              by_cases c18 : t160 = true
              · subst c18
                have H1 : (if (t159.length : Int) = 0 then (postbaglaw04_CheckSpoilt.j1 kj8 a1 a2 t153 ((strOfNums t158).toList != (strOfNums l0).toList)) else (postbaglaw04_CheckSpoilt.j1 kj8 a1 a2 t153 true)) = some r := by rw [if_pos rfl] at H; exact H
                clear H
                have H := H1
                clear H1
                by_cases c19 : (t159.length : Int) = 0
                · rw [if_pos c19] at H
                  have c19b0 : ((t159.length : Int) == 0) = true := beq_iff_eq.mpr c19
                  have c19b1 : ((t159.length : Int) != 0) = false := bne_eq_false_iff_eq.mpr c19
                  clear c19
                  (first | rw [c19b0] | (simp only [i64_w, i32_w]; rw [c19b0]) | skip)
                  have H' := Aside0.mk H
                  clear H
                  obtain ⟨Ao20, co20, eo20⟩ := Kd.R_slice HO164.out
                  subst eo20
                  have hcv21 := own_string (P := Tryd.prog) Tryd.underlying22 Tryd.underlying5 Tryd.underlying9 (Kd.own_of_R HO162.out)
                  have hcv22 := Kd.C_string (P := Tryd.prog) (A := A0) (c := c0) Tryd.underlying22 Tryd.underlying5 Tryd.underlying9 (Kd.C_below HR0.out HB.out)
                  go_wp2
                  go_meet
                  case rel => exact ⟨_, (((strOfNums t158).toList != (strOfNums l0).toList)), (by first | rfl | (simp; done) | (simp [*]; done)), H', ⟨by have := HJ8.out; first | omega | exact Nat.le_refl _⟩, ⟨by (with_reducible repeat (first | apply Kd.R_alloc | apply Kd.R_drewN | apply Kd.R_drew)); exact Kd.R_mono HO_7.out (fun _ hk => trivial)⟩, ⟨by repeat (first | (with_reducible first | exact HB.out | apply below_alloc | apply pw_below_drewN | apply below_drew1) | exact HB.out | exact Below.refl _ _)⟩⟩
                · rw [if_neg c19] at H
                  have c19b0 : ((t159.length : Int) == 0) = false := beq_eq_false_iff_ne.mpr c19
                  have c19b1 : ((t159.length : Int) != 0) = true := bne_iff_ne.mpr c19
                  have c19b2 : ¬ (t159 = []) := fun h_ => c19 (by rw [h_]; rfl)
                  (first | rw [c19b0] | (simp only [i64_w, i32_w]; rw [c19b0]) | skip)
                  have H' := Aside0.mk H
                  clear H
                  obtain ⟨Ao23, co23, eo23⟩ := Kd.R_slice HO164.out
                  subst eo23
                  go_wp2
                  go_meet
                  case rel => exact ⟨_, (true), (by first | rfl | (simp; done) | (simp [*]; done)), H', ⟨by have := HJ8.out; first | omega | exact Nat.le_refl _⟩, ⟨by (with_reducible repeat (first | apply Kd.R_alloc | apply Kd.R_drewN | apply Kd.R_drew)); exact Kd.R_mono HO_7.out (fun _ hk => trivial)⟩, ⟨by repeat (first | (with_reducible first | exact HB.out | apply below_alloc | apply pw_below_drewN | apply below_drew1) | exact HB.out | exact Below.refl _ _)⟩⟩
              · replace c18 := Bool.eq_false_iff.mpr c18
                subst c18
                have H1 : (postbaglaw04_CheckSpoilt.j1 kj8 a1 a2 t153 true) = some r := by rw [if_neg (show ¬ (false = true) by decide)] at H; exact H
                clear H
                have H := H1
                clear H1
                have H' := Aside0.mk H
                clear H
                go_wp2
                go_meet
                case rel => exact ⟨_, (true), (by first | rfl | (simp; done) | (simp [*]; done)), H', ⟨by have := HJ8.out; first | omega | exact Nat.le_refl _⟩, ⟨by (with_reducible repeat (first | apply Kd.R_alloc | apply Kd.R_drewN | apply Kd.R_drew)); exact Kd.R_mono HO_7.out (fun _ hk => trivial)⟩, ⟨by repeat (first | (with_reducible first | exact HB.out | apply below_alloc | apply pw_below_drewN | apply below_drew1) | exact HB.out | exact Below.refl _ _)⟩⟩
            case rest =>
              clear HC15
              try clear c1
              try clear q1
              try clear p2
              try clear hcv2
              try clear c4
              try clear c5
              try clear c6
              try clear c6b0
              try clear c6b1
              try clear p6
              try clear c8
              try clear c13
              try clear q15
              try clear c18
              try clear c19
              try clear c19b0
              try clear c19b1
              try clear c19b2
              try clear hcv21
              try clear hcv22
              try clear p2
              try clear p6
              try clear q1
              try clear q157
              obtain ⟨kq, x58_14, rfl, HA, HJ14, HO_7, HB⟩ := hcut
              cases kq with
              | zero => exact absurd HA.out (by simp [postbaglaw04_CheckSpoilt.j1])
              | succ kj14 =>
                have H := HA.out
                clear HA
                simp only [postbaglaw04_CheckSpoilt.j1] at H
                by_cases c24 : x58_14 = true
                · subst c24
                  have H1 : (some false) = some r := by rw [if_pos rfl] at H; exact H
                  clear H
                  have H := H1
                  clear H1
                  obtain rfl := Option.some.inj H
                  go_wp2
                  go_ret
                  exact ⟨by first | rfl | (simp [errW_none, errW_some] <;> rfl) | (simp [*, errW_none, errW_some] <;> rfl), by repeat (first | (with_reducible first | exact HB.out | apply below_alloc | apply pw_below_drewN | apply below_drew1) | exact HB.out | exact Below.refl _ _)⟩
                · replace c24 := Bool.eq_false_iff.mpr c24
                  subst c24
                  have H1 : (if (IntKind.u64.wrap ((t153.length : Int))) = 0 then (none) else (if 0 ≤ (wrap64 (Int.tmod (IntKind.u64.wrap (a1)) (IntKind.u64.wrap ((t153.length : Int))))) then (if (wrap64 (Int.tmod (IntKind.u64.wrap (a1)) (IntKind.u64.wrap ((t153.length : Int))))) ≤ (t153.length : Int) then ((check_Take.f kj14 (t153.take ((wrap64 (Int.tmod (IntKind.u64.wrap (a1)) (IntKind.u64.wrap ((t153.length : Int))))) : Int).toNat)).bind fun bt169 => (if bt169.2.2 = true then (some false) else (if (wrap64 (Int.tmod (IntKind.u64.wrap (a1)) (IntKind.u64.wrap ((t153.length : Int))))) < 8 then (some true) else (if a2 = 0 then (some true) else ((some (([] : List Int) : List Int)).bind fun y176 => (if y176.length + t153.length < 140737488355328 then ((some (y176 ++ t153 : List Int)).bind fun y179 => (if (wrap64 (Int.tmod (IntKind.u64.wrap (a1)) (IntKind.u64.wrap ((t153.length : Int))))) < (y179.length : Int) then ((check_Take.f kj14 (y179.set ((wrap64 (Int.tmod (IntKind.u64.wrap (a1)) (IntKind.u64.wrap ((t153.length : Int))))) : Int).toNat (Go.bits .xor .u8 (rd y179 (wrap64 (Int.tmod (IntKind.u64.wrap (a1)) (IntKind.u64.wrap ((t153.length : Int)))))) a2))).bind fun bt184 => (some (!bt184.2.2))) else (none))) else (none))))))) else (none)) else (none))) = some r := by rw [if_neg (show ¬ (false = true) by decide)] at H; exact H
                  clear H
                  have H := H1
                  clear H1
                  by_cases c25 : (IntKind.u64.wrap ((t153.length : Int))) = 0
                  · rw [if_pos c25] at H
                    exact absurd H (by simp)
                  · rw [if_neg c25] at H
                    have c25b0 : ((IntKind.u64.wrap ((t153.length : Int))) == 0) = false := beq_eq_false_iff_ne.mpr c25
                    have c25b1 : ((IntKind.u64.wrap ((t153.length : Int))) != 0) = true := bne_iff_ne.mpr c25
                    obtain ⟨ji26, hji26⟩ : ∃ j_ : Int, (wrap64 (Int.tmod (IntKind.u64.wrap (a1)) (IntKind.u64.wrap ((t153.length : Int))))) = j_ := ⟨_, rfl⟩
                    replace H : (if 0 ≤ (ji26) then (if (ji26) ≤ (t153.length : Int) then ((check_Take.f kj14 (t153.take ((ji26) : Int).toNat)).bind fun bt169 => (if bt169.2.2 = true then (some false) else (if (ji26) < 8 then (some true) else (if a2 = 0 then (some true) else ((some (([] : List Int) : List Int)).bind fun y176 => (if y176.length + t153.length < 140737488355328 then ((some (y176 ++ t153 : List Int)).bind fun y179 => (if (ji26) < (y179.length : Int) then ((check_Take.f kj14 (y179.set ((ji26) : Int).toNat (Go.bits .xor .u8 (rd y179 (ji26)) a2))).bind fun bt184 => (some (!bt184.2.2))) else (none))) else (none))))))) else (none)) else (none)) = some r := by first | (rw [hji26] at H; exact H) | (simp only [hji26] at H ⊢; exact H)
                    have hji26w : (IntKind.i64.wrap (Int.tmod (IntKind.u64.wrap (a1)) (IntKind.u64.wrap ((t153.length : Int))))) = ji26 := (i64_w _).trans hji26
                    by_cases c27 : 0 ≤ (ji26)
                    · rw [if_pos c27] at H
                      have c27b0 := eq_true c27
                      have c27b1 : decide (0 ≤ (ji26)) = true := decide_eq_true c27
                      clear c27
                      by_cases c28 : (ji26) ≤ (t153.length : Int)
                      · rw [if_pos c28] at H
                        have c28b0 := eq_true c28
                        have c28b1 : decide ((ji26) ≤ (t153.length : Int)) = true := decide_eq_true c28
                        clear c28
                        obtain ⟨y165, hy165⟩ : ∃ y_ : List Int, y_ = (t153.take ((ji26) : Int).toNat) := ⟨_, rfl⟩
                        replace H : ((check_Take.f kj14 y165).bind fun bt169 => (if bt169.2.2 = true then (some false) else (if (ji26) < 8 then (some true) else (if a2 = 0 then (some true) else ((some (([] : List Int) : List Int)).bind fun y176 => (if y176.length + t153.length < 140737488355328 then ((some (y176 ++ t153 : List Int)).bind fun y179 => (if (ji26) < (y179.length : Int) then ((check_Take.f kj14 (y179.set ((ji26) : Int).toNat (Go.bits .xor .u8 (rd y179 (ji26)) a2))).bind fun bt184 => (some (!bt184.2.2))) else (none))) else (none))))))) = some r := by first | (rw [hy165]; with_reducible exact H) | (have H2_ := (Option.bind_some _ _).symm.trans H; rw [hy165]; with_reducible exact H2_) | (have H2_ := (Option.bind_some _ _).symm.trans H; with_reducible exact H2_) | with_reducible exact H | (rw [hy165]; exact H) | exact H
                        have Ny165 := Aside0.mk hy165
                        clear hy165
                        replace H := Option.bind_eq_some_iff.mp H
                        obtain ⟨⟨t169, t170, t171⟩, A290, H⟩ := H
                        replace H : (if t171 = true then (some false) else (if (ji26) < 8 then (some true) else (if a2 = 0 then (some true) else ((some (([] : List Int) : List Int)).bind fun y176 => (if y176.length + t153.length < 140737488355328 then ((some (y176 ++ t153 : List Int)).bind fun y179 => (if (ji26) < (y179.length : Int) then ((check_Take.f kj14 (y179.set ((ji26) : Int).toNat (Go.bits .xor .u8 (rd y179 (ji26)) a2))).bind fun bt184 => (some (!bt184.2.2))) else (none))) else (none)))))) = some r := H
                        have A29 := Aside0.mk A290
                        clear A290
                        by_cases c30 : t171 = true
                        · subst c30
                          have H1 : (some false) = some r := by rw [if_pos rfl] at H; exact H
                          clear H
                          have H := H1
                          clear H1
                          obtain rfl := Option.some.inj H
                          have q31 : ((ji26) : Int) ≤ ((t153.length : Int) : Int) := of_decide_eq_true (by first | (with_reducible assumption) | assumption)
                          obtain ⟨i031, hi031, _, hsz31, _⟩ := info_parts info5
                          have hroom31 : t153.length ≤ co16 := (Kd.R_reads' HO_7.out).2.1
                          have hC31 : Kd.C (Kd.int .u8) _ Ao16 t153.length t153 := (Kd.R_reads' HO_7.out).2.2
                          have hcut31 := cut_to (P := Tryd.prog) 22 5 .i64 Tryd.underlying22 hi031 Ao16 t153.length co16 (ji26) (of_decide_eq_true (by first | (with_reducible assumption) | assumption)) q31 hroom31
                          have hr31 := Kd.C_take (m := ((ji26) : Int).toNat) hC31 (by omega)
                          have hy31 : y165.length = ((ji26) : Int).toNat := (by rw [Ny165.out, List.length_take]; omega)
                          rw [← Ny165.out] at hr31
                          rw [← hy31] at hcut31
                          have HR168 := Aside0.mk hr31
                          have HC168 := Aside0.mk (show y165.length ≤ co16 from by omega)
                          clear hr31 hC31 hroom31 hi031 hsz31
                          have KY31 := Aside0.mk hy31
                          clear hy31
                          have KL31 := Aside0.mk (show ((ji26) : Int).toNat ≤ t153.length from by omega)
                          replace q31 := eq_true q31
                          go_wp2_with (first | ((with_reducible refine gate_callee (f := 8) rfl ?_); refine goesL_ (some 70) rfl rfl Tryd.func8 (by kernel_rfl) rfl #[.slice Ao16 y165.length co16] rfl (by (try simp only [List.map_toArray, List.map_cons, List.map_nil]); first | done | rfl | (simp only [List.length_drop, List.length_take]; rfl)) ?_; (with_reducible refine (check_Take.calls kj14 _ _ y165 t169 t170 true _ ?side1 ?side2 A29.out).mono ?_); (case side1 => repeat (first | exact (by repeat (first | (with_reducible exact HR168.out) | (with_reducible refine Kd.C_alloc ?_ _) | (with_reducible refine Kd.C_drewN ?_ _) | (with_reducible refine Kd.C_drew ?_) | exact HR168.out)) | (with_reducible refine Kd.C_alloc ?_ _) | (with_reducible refine Kd.C_drewN ?_ _) | (with_reducible refine Kd.C_drew ?_))); (case side2 => exact HC168.out); rintro e w32 ⟨v172, v174, rfl, ho0, ho1, hb⟩; refine ⟨_, rfl, ?_⟩; have n0_ := Aside0.mk (Kd.R_mono (Kd.R_told (Kd.R_told (Kd.R_old (by (with_reducible repeat (first | apply Kd.R_alloc | apply Kd.R_drewN | apply Kd.R_drew)); exact HO_7.out) hb) (Kd.R_base ho0)) (Kd.R_base ho1)) (fun _ h_ => h_.1)); have n1_ := Aside0.mk (Kd.R_lower (Kd.R_new' ho0 (Kd.R_lt (by (with_reducible repeat (first | apply Kd.R_alloc | apply Kd.R_drewN | apply Kd.R_drew)); exact HO_7.out))) (below_size (by repeat (first | (with_reducible first | exact HB.out | apply below_alloc | apply pw_below_drewN | apply below_drew1) | exact HB.out | exact Below.refl _ _)))); have n2_ := Aside0.mk (Kd.R_lower (Kd.R_new' ho1 (Kd.R_lt (by (with_reducible repeat (first | apply Kd.R_alloc | apply Kd.R_drewN | apply Kd.R_drew)); exact HO_7.out))) (below_size (by repeat (first | (with_reducible first | exact HB.out | apply below_alloc | apply pw_below_drewN | apply below_drew1) | exact HB.out | exact Below.refl _ _)))); have n3_ := Aside0.mk (Kd.C_below (by repeat (first | (with_reducible exact HR168.out) | (with_reducible refine Kd.C_alloc ?_ _) | (with_reducible refine Kd.C_drewN ?_ _) | (with_reducible refine Kd.C_drew ?_) | exact HR168.out)) hb); have n4_ := Aside0.mk (below_step (by repeat (first | (with_reducible first | exact HB.out | apply below_alloc | apply pw_below_drewN | apply below_drew1) | exact HB.out | exact Below.refl _ _)) hb); clear HO_7; clear HR168; clear HB; have HO_7 := n0_; have HO173 := n1_; have HO175 := n2_; have HR168 := n3_; have HB := n4_; clear n0_ n1_ n2_ n3_ n4_; (try clear hb); (try clear hb2); (try clear hk); (try clear hi); (try clear ho0); (try clear ho1)))
                          go_ret
                          exact ⟨by first | rfl | (simp [errW_none, errW_some] <;> rfl) | (simp only [← hji26]; first | rfl | (simp [errW_none, errW_some] <;> rfl)) | (simp [*, errW_none, errW_some] <;> rfl), by repeat (first | (with_reducible first | exact HB.out | apply below_alloc | apply pw_below_drewN | apply below_drew1) | exact HB.out | exact Below.refl _ _)⟩
                        · replace c30 := Bool.eq_false_iff.mpr c30
                          subst c30
                          have H1 : (if (ji26) < 8 then (some true) else (if a2 = 0 then (some true) else ((some (([] : List Int) : List Int)).bind fun y176 => (if y176.length + t153.length < 140737488355328 then ((some (y176 ++ t153 : List Int)).bind fun y179 => (if (ji26) < (y179.length : Int) then ((check_Take.f kj14 (y179.set ((ji26) : Int).toNat (Go.bits .xor .u8 (rd y179 (ji26)) a2))).bind fun bt184 => (some (!bt184.2.2))) else (none))) else (none))))) = some r := by rw [if_neg (show ¬ (false = true) by decide)] at H; exact H
                          clear H
                          have H := H1
                          clear H1
                          by_cases c33 : (ji26) < 8
                          · rw [if_pos c33] at H
                            have c33b0 : decide ((ji26) < 8) = true := decide_eq_true c33
                            clear c33
                            obtain rfl := Option.some.inj H
                            have q34 : ((ji26) : Int) ≤ ((t153.length : Int) : Int) := of_decide_eq_true (by first | (with_reducible assumption) | assumption)
                            obtain ⟨i034, hi034, _, hsz34, _⟩ := info_parts info5
                            have hroom34 : t153.length ≤ co16 := (Kd.R_reads' HO_7.out).2.1
                            have hC34 : Kd.C (Kd.int .u8) _ Ao16 t153.length t153 := (Kd.R_reads' HO_7.out).2.2
                            have hcut34 := cut_to (P := Tryd.prog) 22 5 .i64 Tryd.underlying22 hi034 Ao16 t153.length co16 (ji26) (of_decide_eq_true (by first | (with_reducible assumption) | assumption)) q34 hroom34
                            have hr34 := Kd.C_take (m := ((ji26) : Int).toNat) hC34 (by omega)
                            have hy34 : y165.length = ((ji26) : Int).toNat := (by rw [Ny165.out, List.length_take]; omega)
                            rw [← Ny165.out] at hr34
                            rw [← hy34] at hcut34
                            have HR168 := Aside0.mk hr34
                            have HC168 := Aside0.mk (show y165.length ≤ co16 from by omega)
                            clear hr34 hC34 hroom34 hi034 hsz34
                            have KY34 := Aside0.mk hy34
                            clear hy34
                            have KL34 := Aside0.mk (show ((ji26) : Int).toNat ≤ t153.length from by omega)
                            replace q34 := eq_true q34
                            go_wp2_with (first | ((with_reducible refine gate_callee (f := 8) rfl ?_); refine goesL_ (some 70) rfl rfl Tryd.func8 (by kernel_rfl) rfl #[.slice Ao16 y165.length co16] rfl (by (try simp only [List.map_toArray, List.map_cons, List.map_nil]); first | done | rfl | (simp only [List.length_drop, List.length_take]; rfl)) ?_; (with_reducible refine (check_Take.calls kj14 _ _ y165 t169 t170 false _ ?side1 ?side2 A29.out).mono ?_); (case side1 => repeat (first | exact (by repeat (first | (with_reducible exact HR168.out) | (with_reducible refine Kd.C_alloc ?_ _) | (with_reducible refine Kd.C_drewN ?_ _) | (with_reducible refine Kd.C_drew ?_) | exact HR168.out)) | (with_reducible refine Kd.C_alloc ?_ _) | (with_reducible refine Kd.C_drewN ?_ _) | (with_reducible refine Kd.C_drew ?_))); (case side2 => exact HC168.out); rintro e w35 ⟨v172, v174, rfl, ho0, ho1, hb⟩; refine ⟨_, rfl, ?_⟩; have n0_ := Aside0.mk (Kd.R_mono (Kd.R_told (Kd.R_told (Kd.R_old (by (with_reducible repeat (first | apply Kd.R_alloc | apply Kd.R_drewN | apply Kd.R_drew)); exact HO_7.out) hb) (Kd.R_base ho0)) (Kd.R_base ho1)) (fun _ h_ => h_.1)); have n1_ := Aside0.mk (Kd.R_lower (Kd.R_new' ho0 (Kd.R_lt (by (with_reducible repeat (first | apply Kd.R_alloc | apply Kd.R_drewN | apply Kd.R_drew)); exact HO_7.out))) (below_size (by repeat (first | (with_reducible first | exact HB.out | apply below_alloc | apply pw_below_drewN | apply below_drew1) | exact HB.out | exact Below.refl _ _)))); have n2_ := Aside0.mk (Kd.R_lower (Kd.R_new' ho1 (Kd.R_lt (by (with_reducible repeat (first | apply Kd.R_alloc | apply Kd.R_drewN | apply Kd.R_drew)); exact HO_7.out))) (below_size (by repeat (first | (with_reducible first | exact HB.out | apply below_alloc | apply pw_below_drewN | apply below_drew1) | exact HB.out | exact Below.refl _ _)))); have n3_ := Aside0.mk (Kd.C_below (by repeat (first | (with_reducible exact HR168.out) | (with_reducible refine Kd.C_alloc ?_ _) | (with_reducible refine Kd.C_drewN ?_ _) | (with_reducible refine Kd.C_drew ?_) | exact HR168.out)) hb); have n4_ := Aside0.mk (below_step (by repeat (first | (with_reducible first | exact HB.out | apply below_alloc | apply pw_below_drewN | apply below_drew1) | exact HB.out | exact Below.refl _ _)) hb); clear HO_7; clear HR168; clear HB; have HO_7 := n0_; have HO173 := n1_; have HO175 := n2_; have HR168 := n3_; have HB := n4_; clear n0_ n1_ n2_ n3_ n4_; (try clear hb); (try clear hb2); (try clear hk); (try clear hi); (try clear ho0); (try clear ho1)))
                            go_ret
                            exact ⟨by first | rfl | (simp [errW_none, errW_some] <;> rfl) | (simp only [← hji26]; first | rfl | (simp [errW_none, errW_some] <;> rfl)) | (simp [*, errW_none, errW_some] <;> rfl), by repeat (first | (with_reducible first | exact HB.out | apply below_alloc | apply pw_below_drewN | apply below_drew1) | exact HB.out | exact Below.refl _ _)⟩
                          · rw [if_neg c33] at H
                            have c33b0 : decide ((ji26) < 8) = false := decide_eq_false c33
                            clear c33
                            by_cases c36 : a2 = 0
                            · rw [if_pos c36] at H
                              have c36b0 : (a2 == 0) = true := beq_iff_eq.mpr c36
                              have c36b1 : (a2 != 0) = false := bne_eq_false_iff_eq.mpr c36
                              clear c36
                              obtain rfl := Option.some.inj H
                              have q37 : ((ji26) : Int) ≤ ((t153.length : Int) : Int) := of_decide_eq_true (by first | (with_reducible assumption) | assumption)
                              obtain ⟨i037, hi037, _, hsz37, _⟩ := info_parts info5
                              have hroom37 : t153.length ≤ co16 := (Kd.R_reads' HO_7.out).2.1
                              have hC37 : Kd.C (Kd.int .u8) _ Ao16 t153.length t153 := (Kd.R_reads' HO_7.out).2.2
                              have hcut37 := cut_to (P := Tryd.prog) 22 5 .i64 Tryd.underlying22 hi037 Ao16 t153.length co16 (ji26) (of_decide_eq_true (by first | (with_reducible assumption) | assumption)) q37 hroom37
                              have hr37 := Kd.C_take (m := ((ji26) : Int).toNat) hC37 (by omega)
                              have hy37 : y165.length = ((ji26) : Int).toNat := (by rw [Ny165.out, List.length_take]; omega)
                              rw [← Ny165.out] at hr37
                              rw [← hy37] at hcut37
                              have HR168 := Aside0.mk hr37
                              have HC168 := Aside0.mk (show y165.length ≤ co16 from by omega)
                              clear hr37 hC37 hroom37 hi037 hsz37
                              have KY37 := Aside0.mk hy37
                              clear hy37
                              have KL37 := Aside0.mk (show ((ji26) : Int).toNat ≤ t153.length from by omega)
                              replace q37 := eq_true q37
                              go_wp2_with (first | ((with_reducible refine gate_callee (f := 8) rfl ?_); refine goesL_ (some 70) rfl rfl Tryd.func8 (by kernel_rfl) rfl #[.slice Ao16 y165.length co16] rfl (by (try simp only [List.map_toArray, List.map_cons, List.map_nil]); first | done | rfl | (simp only [List.length_drop, List.length_take]; rfl)) ?_; (with_reducible refine (check_Take.calls kj14 _ _ y165 t169 t170 false _ ?side1 ?side2 A29.out).mono ?_); (case side1 => repeat (first | exact (by repeat (first | (with_reducible exact HR168.out) | (with_reducible refine Kd.C_alloc ?_ _) | (with_reducible refine Kd.C_drewN ?_ _) | (with_reducible refine Kd.C_drew ?_) | exact HR168.out)) | (with_reducible refine Kd.C_alloc ?_ _) | (with_reducible refine Kd.C_drewN ?_ _) | (with_reducible refine Kd.C_drew ?_))); (case side2 => exact HC168.out); rintro e w38 ⟨v172, v174, rfl, ho0, ho1, hb⟩; refine ⟨_, rfl, ?_⟩; have n0_ := Aside0.mk (Kd.R_mono (Kd.R_told (Kd.R_told (Kd.R_old (by (with_reducible repeat (first | apply Kd.R_alloc | apply Kd.R_drewN | apply Kd.R_drew)); exact HO_7.out) hb) (Kd.R_base ho0)) (Kd.R_base ho1)) (fun _ h_ => h_.1)); have n1_ := Aside0.mk (Kd.R_lower (Kd.R_new' ho0 (Kd.R_lt (by (with_reducible repeat (first | apply Kd.R_alloc | apply Kd.R_drewN | apply Kd.R_drew)); exact HO_7.out))) (below_size (by repeat (first | (with_reducible first | exact HB.out | apply below_alloc | apply pw_below_drewN | apply below_drew1) | exact HB.out | exact Below.refl _ _)))); have n2_ := Aside0.mk (Kd.R_lower (Kd.R_new' ho1 (Kd.R_lt (by (with_reducible repeat (first | apply Kd.R_alloc | apply Kd.R_drewN | apply Kd.R_drew)); exact HO_7.out))) (below_size (by repeat (first | (with_reducible first | exact HB.out | apply below_alloc | apply pw_below_drewN | apply below_drew1) | exact HB.out | exact Below.refl _ _)))); have n3_ := Aside0.mk (Kd.C_below (by repeat (first | (with_reducible exact HR168.out) | (with_reducible refine Kd.C_alloc ?_ _) | (with_reducible refine Kd.C_drewN ?_ _) | (with_reducible refine Kd.C_drew ?_) | exact HR168.out)) hb); have n4_ := Aside0.mk (below_step (by repeat (first | (with_reducible first | exact HB.out | apply below_alloc | apply pw_below_drewN | apply below_drew1) | exact HB.out | exact Below.refl _ _)) hb); clear HO_7; clear HR168; clear HB; have HO_7 := n0_; have HO173 := n1_; have HO175 := n2_; have HR168 := n3_; have HB := n4_; clear n0_ n1_ n2_ n3_ n4_; (try clear hb); (try clear hb2); (try clear hk); (try clear hi); (try clear ho0); (try clear ho1)))
                              go_ret
                              exact ⟨by first | rfl | (simp [errW_none, errW_some] <;> rfl) | (simp only [← hji26]; first | rfl | (simp [errW_none, errW_some] <;> rfl)) | (simp [*, errW_none, errW_some] <;> rfl), by repeat (first | (with_reducible first | exact HB.out | apply below_alloc | apply pw_below_drewN | apply below_drew1) | exact HB.out | exact Below.refl _ _)⟩
                            · rw [if_neg c36] at H
                              have c36b0 : (a2 == 0) = false := beq_eq_false_iff_ne.mpr c36
                              have c36b1 : (a2 != 0) = true := bne_iff_ne.mpr c36
                              obtain ⟨y176, hy176⟩ : ∃ y_ : List Int, y_ = (([] : List Int)) := ⟨_, rfl⟩
                              replace H : (if y176.length + t153.length < 140737488355328 then ((some (y176 ++ t153 : List Int)).bind fun y179 => (if (ji26) < (y179.length : Int) then ((check_Take.f kj14 (y179.set ((ji26) : Int).toNat (Go.bits .xor .u8 (rd y179 (ji26)) a2))).bind fun bt184 => (some (!bt184.2.2))) else (none))) else (none)) = some r := by first | (rw [hy176]; with_reducible exact H) | (have H2_ := (Option.bind_some _ _).symm.trans H; rw [hy176]; with_reducible exact H2_) | (have H2_ := (Option.bind_some _ _).symm.trans H; with_reducible exact H2_) | with_reducible exact H | (rw [hy176]; exact H) | exact H
                              have Ny176 := Aside0.mk hy176
                              clear hy176
                              by_cases c39 : y176.length + t153.length < 140737488355328
                              · rw [if_pos c39] at H
                                have LMc39 := Aside0.mk c39
                                clear c39
                                obtain ⟨y179, hy179⟩ : ∃ y_ : List Int, y_ = (y176 ++ t153) := ⟨_, rfl⟩
                                replace H : (if (ji26) < (y179.length : Int) then ((check_Take.f kj14 (y179.set ((ji26) : Int).toNat (Go.bits .xor .u8 (rd y179 (ji26)) a2))).bind fun bt184 => (some (!bt184.2.2))) else (none)) = some r := by first | (rw [hy179]; with_reducible exact H) | (have H2_ := (Option.bind_some _ _).symm.trans H; rw [hy179]; with_reducible exact H2_) | (have H2_ := (Option.bind_some _ _).symm.trans H; with_reducible exact H2_) | with_reducible exact H | (rw [hy179]; exact H) | exact H
                                have Ny179 := Aside0.mk hy179
                                clear hy179
                                by_cases c40 : (ji26) < (y179.length : Int)
                                · rw [if_pos c40] at H
                                  have c40b0 : decide ((ji26) < (y179.length : Int)) = true := decide_eq_true c40
                                  clear c40
                                  obtain ⟨y183, hy183⟩ : ∃ y_ : List Int, y_ = (y179.set ((ji26) : Int).toNat (Go.bits .xor .u8 (rd y179 (ji26)) a2)) := ⟨_, rfl⟩
                                  replace H : ((check_Take.f kj14 y183).bind fun bt184 => (some (!bt184.2.2))) = some r := by first | (rw [hy183]; with_reducible exact H) | (have H2_ := (Option.bind_some _ _).symm.trans H; rw [hy183]; with_reducible exact H2_) | (have H2_ := (Option.bind_some _ _).symm.trans H; with_reducible exact H2_) | with_reducible exact H | (rw [hy183]; exact H) | exact H
                                  have Ny183 := Aside0.mk hy183
                                  clear hy183
                                  replace H := Option.bind_eq_some_iff.mp H
                                  obtain ⟨⟨t184, t185, t186⟩, A420, H⟩ := H
                                  replace H : (some (!t186)) = some r := H
                                  have A42 := Aside0.mk A420
                                  clear A420
                                  obtain rfl := Option.some.inj H
                                  have q43 : ((ji26) : Int) ≤ ((t153.length : Int) : Int) := of_decide_eq_true (by first | (with_reducible assumption) | assumption)
                                  obtain ⟨i043, hi043, _, hsz43, _⟩ := info_parts info5
                                  have hroom43 : t153.length ≤ co16 := (Kd.R_reads' HO_7.out).2.1
                                  have hC43 : Kd.C (Kd.int .u8) _ Ao16 t153.length t153 := (Kd.R_reads' HO_7.out).2.2
                                  have hcut43 := cut_to (P := Tryd.prog) 22 5 .i64 Tryd.underlying22 hi043 Ao16 t153.length co16 (ji26) (of_decide_eq_true (by first | (with_reducible assumption) | assumption)) q43 hroom43
                                  have hr43 := Kd.C_take (m := ((ji26) : Int).toNat) hC43 (by omega)
                                  have hy43 : y165.length = ((ji26) : Int).toNat := (by rw [Ny165.out, List.length_take]; omega)
                                  rw [← Ny165.out] at hr43
                                  rw [← hy43] at hcut43
                                  have HR168 := Aside0.mk hr43
                                  have HC168 := Aside0.mk (show y165.length ≤ co16 from by omega)
                                  clear hr43 hC43 hroom43 hi043 hsz43
                                  have KY43 := Aside0.mk hy43
                                  clear hy43
                                  have KL43 := Aside0.mk (show ((ji26) : Int).toNat ≤ t153.length from by omega)
                                  replace q43 := eq_true q43
                                  go_wp2_with (first | ((with_reducible refine gate_callee (f := 8) rfl ?_); refine goesL_ (some 70) rfl rfl Tryd.func8 (by kernel_rfl) rfl #[.slice Ao16 y165.length co16] rfl (by (try simp only [List.map_toArray, List.map_cons, List.map_nil]); first | done | rfl | (simp only [List.length_drop, List.length_take]; rfl)) ?_; (with_reducible refine (check_Take.calls kj14 _ _ y165 t169 t170 false _ ?side1 ?side2 A29.out).mono ?_); (case side1 => repeat (first | exact (by repeat (first | (with_reducible exact HR168.out) | (with_reducible refine Kd.C_alloc ?_ _) | (with_reducible refine Kd.C_drewN ?_ _) | (with_reducible refine Kd.C_drew ?_) | exact HR168.out)) | (with_reducible refine Kd.C_alloc ?_ _) | (with_reducible refine Kd.C_drewN ?_ _) | (with_reducible refine Kd.C_drew ?_))); (case side2 => exact HC168.out); rintro e w44 ⟨v172, v174, rfl, ho0, ho1, hb⟩; refine ⟨_, rfl, ?_⟩; have n0_ := Aside0.mk (Kd.R_mono (Kd.R_told (Kd.R_told (Kd.R_old (by (with_reducible repeat (first | apply Kd.R_alloc | apply Kd.R_drewN | apply Kd.R_drew)); exact HO_7.out) hb) (Kd.R_base ho0)) (Kd.R_base ho1)) (fun _ h_ => h_.1)); have n1_ := Aside0.mk (Kd.R_lower (Kd.R_new' ho0 (Kd.R_lt (by (with_reducible repeat (first | apply Kd.R_alloc | apply Kd.R_drewN | apply Kd.R_drew)); exact HO_7.out))) (below_size (by repeat (first | (with_reducible first | exact HB.out | apply below_alloc | apply pw_below_drewN | apply below_drew1) | exact HB.out | exact Below.refl _ _)))); have n2_ := Aside0.mk (Kd.R_lower (Kd.R_new' ho1 (Kd.R_lt (by (with_reducible repeat (first | apply Kd.R_alloc | apply Kd.R_drewN | apply Kd.R_drew)); exact HO_7.out))) (below_size (by repeat (first | (with_reducible first | exact HB.out | apply below_alloc | apply pw_below_drewN | apply below_drew1) | exact HB.out | exact Below.refl _ _)))); have n3_ := Aside0.mk (Kd.C_below (by repeat (first | (with_reducible exact HR168.out) | (with_reducible refine Kd.C_alloc ?_ _) | (with_reducible refine Kd.C_drewN ?_ _) | (with_reducible refine Kd.C_drew ?_) | exact HR168.out)) hb); have n4_ := Aside0.mk (below_step (by repeat (first | (with_reducible first | exact HB.out | apply below_alloc | apply pw_below_drewN | apply below_drew1) | exact HB.out | exact Below.refl _ _)) hb); clear HO_7; clear HR168; clear HB; have HO_7 := n0_; have HO173 := n1_; have HO175 := n2_; have HR168 := n3_; have HB := n4_; clear n0_ n1_ n2_ n3_ n4_; (try clear hb); (try clear hb2); (try clear hk); (try clear hi); (try clear ho0); (try clear ho1)) | ((with_reducible refine gate_dst (N := 81) rfl ?_); (try (refine gate_guard (by rfl) ?_; dsimp only)); refine Kd.R_lit (Kd.int .u8) _ 5 ?hg (N := 81) ?hd (xs := ([] : List Int)) (inner := []) (ok := fun _ => True) (okp := fun _ => True) ?hr ?hp (fun _ hk => hk) trivial (Below.refl _ _) (Nat.le_refl _) (by simp) ?_; (case hd => rfl); (case hg => rfl); (case hr => first | (go_simp; done) | (go_simp; rfl)); (case hp => exact (Reps.none _ _)); intro v177 w45 ho46 hb hg_ hnew_; clear hg_ hnew_; (first | rw [← Ny176.out] at ho46 | (simp only [Int.reduceToNat] at ho46; rw [← Ny176.out] at ho46)); have n0_ := Aside0.mk (Kd.R_elder' (by (with_reducible repeat (first | apply Kd.R_alloc | apply Kd.R_drewN | apply Kd.R_drew)); exact HO_7.out) (Kd.R_base ho46) hb); have n1_ := Aside0.mk (Kd.R_elder' (by (with_reducible repeat (first | apply Kd.R_alloc | apply Kd.R_drewN | apply Kd.R_drew)); exact HO173.out) (Kd.R_base ho46) hb); have n2_ := Aside0.mk (Kd.R_elder' (by (with_reducible repeat (first | apply Kd.R_alloc | apply Kd.R_drewN | apply Kd.R_drew)); exact HO175.out) (Kd.R_base ho46) hb); have n3_ := Aside0.mk (Kd.R_lower (Kd.R_new' (Kd.R_new' (Kd.R_new' ho46 (Kd.R_lt (by (with_reducible repeat (first | apply Kd.R_alloc | apply Kd.R_drewN | apply Kd.R_drew)); exact HO_7.out))) (Kd.R_lt (by (with_reducible repeat (first | apply Kd.R_alloc | apply Kd.R_drewN | apply Kd.R_drew)); exact HO173.out))) (Kd.R_lt (by (with_reducible repeat (first | apply Kd.R_alloc | apply Kd.R_drewN | apply Kd.R_drew)); exact HO175.out))) (below_size (by repeat (first | (with_reducible first | exact HB.out | apply below_alloc | apply pw_below_drewN | apply below_drew1) | exact HB.out | exact Below.refl _ _)))); have n4_ := Aside0.mk (Kd.C_below (by repeat (first | (with_reducible exact HR168.out) | (with_reducible refine Kd.C_alloc ?_ _) | (with_reducible refine Kd.C_drewN ?_ _) | (with_reducible refine Kd.C_drew ?_) | exact HR168.out)) hb); have n5_ := Aside0.mk (below_step (by repeat (first | (with_reducible first | exact HB.out | apply below_alloc | apply pw_below_drewN | apply below_drew1) | exact HB.out | exact Below.refl _ _)) hb); clear HO_7; clear HO173; clear HO175; clear HR168; clear HB; have HO_7 := n0_; have HO173 := n1_; have HO175 := n2_; have HO178 := n3_; have HR168 := n4_; have HB := n5_; clear n0_ n1_ n2_ n3_ n4_ n5_; clear hb ho46) | ((with_reducible refine gate_builtin (b := .append) (xs := #[.tmp 81, .tmp 82]) rfl ?_); (try (refine gate_guard (by rfl) ?_; dsimp only)); at_builtin; refine Kd.R_append_rows (Kd.int .u8) (w0 := w) w.heap.size rfl (.tmp 81) (.tmp 82) 22 5 (.int .u8 0) 1 rfl Tryd.underlying22 info5 rfl (by decide) (by omega) v177 y176 t153 _ _ _ (fun k_ => some k_ ≠ (.slice Ao16 t153.length co16 : Value).ownBlock ∧ some k_ ≠ (v172 : Value).ownBlock ∧ some k_ ≠ (v174 : Value).ownBlock) (fun _ => False) rfl rfl ?aO ?aR (fun _ _ h => h) (fun _ h => h.elim) ?aF ?aB ?aS ?aL ?_; (case aR => repeat (first | exact (Kd.R_reads' HO_7.out).2.2 | (with_reducible refine Kd.C_alloc ?_ _) | (with_reducible refine Kd.C_drewN ?_ _) | (with_reducible refine Kd.C_drew ?_))); (case aB => exact (by repeat (first | (with_reducible first | exact HB.out | apply below_alloc | apply pw_below_drewN | apply below_drew1) | exact HB.out | exact Below.refl _ _))); (case aF => exact (fun k_ hk => ⟨Kd.fresh' (Kd.R_lt (by (with_reducible repeat (first | apply Kd.R_alloc | apply Kd.R_drewN | apply Kd.R_drew)); exact HO_7.out)) k_ hk, Kd.fresh' (Kd.R_lt (by (with_reducible repeat (first | apply Kd.R_alloc | apply Kd.R_drewN | apply Kd.R_drew)); exact HO173.out)) k_ hk, Kd.fresh' (Kd.R_lt (by (with_reducible repeat (first | apply Kd.R_alloc | apply Kd.R_drewN | apply Kd.R_drew)); exact HO175.out)) k_ hk⟩)); (case aO => exact (by (with_reducible repeat (first | apply Kd.R_alloc | apply Kd.R_drewN | apply Kd.R_drew)); exact Kd.R_mono HO178.out (fun _ hk => ⟨hk.1.1.2, ⟨hk.1.2, hk.2⟩⟩))); (case aS => exact (below_size (by repeat (first | (with_reducible first | exact HB.out | apply below_alloc | apply pw_below_drewN | apply below_drew1) | exact HB.out | exact Below.refl _ _)))); (case aL => have := LMc39.out; omega); intro v180 w47 ho hb hg hat; rw [← Ny179.out] at ho; have n0_ := Aside0.mk (Kd.R_after (ok := (fun k_ => some k_ ≠ (v172 : Value).ownBlock ∧ some k_ ≠ (v174 : Value).ownBlock)) (by (with_reducible repeat (first | apply Kd.R_alloc | apply Kd.R_drewN | apply Kd.R_drew)); exact Kd.R_mono HO_7.out (fun _ hk => ⟨⟨hk.1.1.2, hk.1.2⟩, hk.2⟩)) hg hat); have n1_ := Aside0.mk (Kd.R_after (ok := (fun k_ => some k_ ≠ (.slice Ao16 t153.length co16 : Value).ownBlock ∧ some k_ ≠ (v174 : Value).ownBlock)) (by (with_reducible repeat (first | apply Kd.R_alloc | apply Kd.R_drewN | apply Kd.R_drew)); exact Kd.R_mono HO173.out (fun _ hk => ⟨⟨hk.1.2, hk.1.1⟩, hk.2⟩)) hg hat); have n2_ := Aside0.mk (Kd.R_after (ok := (fun k_ => some k_ ≠ (.slice Ao16 t153.length co16 : Value).ownBlock ∧ some k_ ≠ (v172 : Value).ownBlock)) (by (with_reducible repeat (first | apply Kd.R_alloc | apply Kd.R_drewN | apply Kd.R_drew)); exact Kd.R_mono HO175.out (fun _ hk => ⟨⟨hk.1.2, hk.1.1⟩, hk.2⟩)) hg hat); have n3_ := Aside0.mk (hb); have n4_ := Aside0.mk ((show Kd.C (Kd.int .u8) w47 Ao16 y165.length y165 from by rw [Ny165.out]; exact Kd.C_take (m := ((ji26) : Int).toNat) ((Kd.R_reads' (Kd.R_after (ok := (fun k_ => some k_ ≠ (v172 : Value).ownBlock ∧ some k_ ≠ (v174 : Value).ownBlock)) (by (with_reducible repeat (first | apply Kd.R_alloc | apply Kd.R_drewN | apply Kd.R_drew)); exact Kd.R_mono HO_7.out (fun _ hk => ⟨⟨hk.1.1.2, hk.1.2⟩, hk.2⟩)) hg hat)).2.2) KL43.out)); have n5_ := Aside0.mk (ho); clear HO_7; clear HO173; clear HO175; clear HB; clear HR168; clear HO178; have HO_7 := n0_; have HO173 := n1_; have HO175 := n2_; have HB := n3_; have HR168 := n4_; have HO181 := n5_; clear n0_ n1_ n2_ n3_ n4_ n5_; clear ho hb hg hat; obtain ⟨Ao48, co48, eo48⟩ := Kd.R_slice HO181.out; subst eo48; have p182 : 0 ≤ ((ji26) : Int) := of_decide_eq_true (by first | (with_reducible assumption) | assumption); have q182 : (ji26) < (y179.length : Int) := of_decide_eq_true (by first | (with_reducible assumption) | assumption); obtain ⟨ad182, e182, hx182_0⟩ := Kd.at_int (Kd.R_reads' HO181.out).2.2 (ji26) p182 q182; cases e182; replace p182 := eq_true p182; replace q182 := eq_true q182; have p41 : 0 ≤ ((ji26) : Int) := of_decide_eq_true (by first | (with_reducible assumption) | assumption); have q41 : ((ji26) : Int) < ((y179.length : Int) : Int) := of_decide_eq_true (by first | (with_reducible assumption) | assumption); obtain ⟨go41, co41, eo41, gb41, gl41, cl41, HG41⟩ := Kd.R_form HO181.out (by omega); (first | cases eo41 | (injection eo41 with ea_ en_ ec_; (first | subst ea_ | (injection ea_ with ea_; subst ea_)); subst ec_; clear en_)); have GB41 := Aside0.mk gb41; have GG41 := Aside0.mk HG41; clear gb41 gl41 HG41; (first | simp only [add_plain] at hx182_0 | skip); obtain ⟨hx41_0, hf41_0⟩ := Kd.R_celln 0 HO181.out ((ji26) : Int) p41 q41; replace p41 := eq_true p41; replace q41 := eq_true q41; obtain ⟨hy49_, hz49_⟩ := Kd.R_celln 0 HO181.out ((ji26) : Int) (of_decide_eq_true (by first | (with_reducible assumption) | assumption)) (of_decide_eq_true (by first | (with_reducible assumption) | assumption)); have HP49 := Kd.R_putg HO181.out ((ji26) : Int) (Go.bits .xor .u8 (rd y179 (ji26)) a2)) | ((with_reducible refine gate_store (t := 5) (p := 90) rfl ?_); refine store_event (t := 5) (p := 90) (v := ?vo_w50) (w1 := (w47.setCell ⟨go41, ((ji26) : Int).toNat, none⟩ (.int .u8 (Go.bits .xor .u8 (rd y179 (ji26)) a2)))) ?hg ?ho ?hn ?hr ?_; (case ho => rfl); (case hg => rfl); (case hn => rfl); (case hr => first | (go_simp; done) | (go_simp; rfl)); intro w50 hw; have hg : w47.grownBy w50 (some go41) := (by rw [hw]; exact HP49.2); have hp_ : Kd.R (Kd.int .u8) 5 w50 w.heap.size (fun k_ => some k_ ≠ (.slice Ao16 t153.length co16 : Value).ownBlock ∧ some k_ ≠ (v172 : Value).ownBlock ∧ some k_ ≠ (v174 : Value).ownBlock) (.slice (some ⟨go41, 0, none⟩) y179.length co48) y183 := (by rw [hw, Ny183.out]; exact HP49.1); clear HP49; have n0_ := Aside0.mk (Kd.R_after (v := (.slice (some ⟨go41, 0, none⟩) y179.length co48)) (v1 := (.slice (some ⟨go41, 0, none⟩) y179.length co48)) (ok := (fun k_ => some k_ ≠ (v172 : Value).ownBlock ∧ some k_ ≠ (v174 : Value).ownBlock)) (by (with_reducible repeat (first | apply Kd.R_alloc | apply Kd.R_drewN | apply Kd.R_drew)); exact HO_7.out) hg (.inl rfl)); have n1_ := Aside0.mk (Kd.R_after (v := (.slice (some ⟨go41, 0, none⟩) y179.length co48)) (v1 := (.slice (some ⟨go41, 0, none⟩) y179.length co48)) (ok := (fun k_ => some k_ ≠ (.slice Ao16 t153.length co16 : Value).ownBlock ∧ some k_ ≠ (v174 : Value).ownBlock)) (by (with_reducible repeat (first | apply Kd.R_alloc | apply Kd.R_drewN | apply Kd.R_drew)); exact HO173.out) hg (.inl rfl)); have n2_ := Aside0.mk (Kd.R_after (v := (.slice (some ⟨go41, 0, none⟩) y179.length co48)) (v1 := (.slice (some ⟨go41, 0, none⟩) y179.length co48)) (ok := (fun k_ => some k_ ≠ (.slice Ao16 t153.length co16 : Value).ownBlock ∧ some k_ ≠ (v172 : Value).ownBlock)) (by (with_reducible repeat (first | apply Kd.R_alloc | apply Kd.R_drewN | apply Kd.R_drew)); exact HO175.out) hg (.inl rfl)); have n3_ := Aside0.mk (hp_); have n4_ := Aside0.mk ((by rw [hw]; exact below_set (HB.out) GB41.out : Below w.heap.size w w50)); have n5_ := Aside0.mk ((show Kd.C (Kd.int .u8) w50 Ao16 y165.length y165 from by rw [Ny165.out]; exact Kd.C_take (m := ((ji26) : Int).toNat) ((Kd.R_reads' (Kd.R_after (v := (.slice (some ⟨go41, 0, none⟩) y179.length co48)) (v1 := (.slice (some ⟨go41, 0, none⟩) y179.length co48)) (ok := (fun k_ => some k_ ≠ (v172 : Value).ownBlock ∧ some k_ ≠ (v174 : Value).ownBlock)) (by (with_reducible repeat (first | apply Kd.R_alloc | apply Kd.R_drewN | apply Kd.R_drew)); exact HO_7.out) hg (.inl rfl))).2.2) KL43.out)); clear HO_7; clear HO173; clear HO175; clear HO181; clear HB; clear HR168; have HO_7 := n0_; have HO173 := n1_; have HO175 := n2_; have HO181 := n3_; have HB := n4_; have HR168 := n5_; clear n0_ n1_ n2_ n3_ n4_ n5_; clear hg hw hp_) | ((with_reducible refine gate_callee (f := 8) rfl ?_); refine goesL_ (some 93) rfl rfl Tryd.func8 (by kernel_rfl) rfl #[.slice (some ⟨go41, 0, none⟩) y183.length co48] rfl (by (try simp only [List.map_toArray, List.map_cons, List.map_nil]); first | done | (rw [show y183.length = y179.length from (Kd.R_reads' HO181.out).1.symm] <;> rfl) | rfl | (simp only [List.length_drop, List.length_take]; rfl)) ?_; (with_reducible refine (check_Take.calls kj14 _ _ y183 t184 t185 t186 _ ?side1 ?side2 A42.out).mono ?_); (case side1 => repeat (first | exact (Kd.R_reads' HO181.out).2.2 | (with_reducible refine Kd.C_alloc ?_ _) | (with_reducible refine Kd.C_drewN ?_ _) | (with_reducible refine Kd.C_drew ?_))); (case side2 => rw [show y183.length = y179.length from (Kd.R_reads' HO181.out).1.symm]; exact (Kd.R_reads' HO181.out).2.1); rintro e w51 ⟨v187, v189, rfl, ho0, ho1, hb⟩; refine ⟨_, rfl, ?_⟩; have n0_ := Aside0.mk (Kd.R_mono (Kd.R_told (Kd.R_told (Kd.R_old (by (with_reducible repeat (first | apply Kd.R_alloc | apply Kd.R_drewN | apply Kd.R_drew)); exact HO_7.out) hb) (Kd.R_base ho0)) (Kd.R_base ho1)) (fun _ h_ => h_.1)); have n1_ := Aside0.mk (Kd.R_mono (Kd.R_told (Kd.R_told (Kd.R_old (by (with_reducible repeat (first | apply Kd.R_alloc | apply Kd.R_drewN | apply Kd.R_drew)); exact HO173.out) hb) (Kd.R_base ho0)) (Kd.R_base ho1)) (fun _ h_ => h_.1)); have n2_ := Aside0.mk (Kd.R_mono (Kd.R_told (Kd.R_told (Kd.R_old (by (with_reducible repeat (first | apply Kd.R_alloc | apply Kd.R_drewN | apply Kd.R_drew)); exact HO175.out) hb) (Kd.R_base ho0)) (Kd.R_base ho1)) (fun _ h_ => h_.1)); have n3_ := Aside0.mk (Kd.R_mono (Kd.R_told (Kd.R_told (Kd.R_old (by (with_reducible repeat (first | apply Kd.R_alloc | apply Kd.R_drewN | apply Kd.R_drew)); exact HO181.out) hb) (Kd.R_base ho0)) (Kd.R_base ho1)) (fun _ h_ => h_.1)); have n4_ := Aside0.mk (Kd.R_lower (Kd.R_new' (Kd.R_new' (Kd.R_new' (Kd.R_new' ho0 (Kd.R_lt (by (with_reducible repeat (first | apply Kd.R_alloc | apply Kd.R_drewN | apply Kd.R_drew)); exact HO_7.out))) (Kd.R_lt (by (with_reducible repeat (first | apply Kd.R_alloc | apply Kd.R_drewN | apply Kd.R_drew)); exact HO173.out))) (Kd.R_lt (by (with_reducible repeat (first | apply Kd.R_alloc | apply Kd.R_drewN | apply Kd.R_drew)); exact HO175.out))) (Kd.R_lt (by (with_reducible repeat (first | apply Kd.R_alloc | apply Kd.R_drewN | apply Kd.R_drew)); exact HO181.out))) (below_size (by repeat (first | (with_reducible first | exact HB.out | apply below_alloc | apply pw_below_drewN | apply below_drew1) | exact HB.out | exact Below.refl _ _)))); have n5_ := Aside0.mk (Kd.R_lower (Kd.R_new' (Kd.R_new' (Kd.R_new' (Kd.R_new' ho1 (Kd.R_lt (by (with_reducible repeat (first | apply Kd.R_alloc | apply Kd.R_drewN | apply Kd.R_drew)); exact HO_7.out))) (Kd.R_lt (by (with_reducible repeat (first | apply Kd.R_alloc | apply Kd.R_drewN | apply Kd.R_drew)); exact HO173.out))) (Kd.R_lt (by (with_reducible repeat (first | apply Kd.R_alloc | apply Kd.R_drewN | apply Kd.R_drew)); exact HO175.out))) (Kd.R_lt (by (with_reducible repeat (first | apply Kd.R_alloc | apply Kd.R_drewN | apply Kd.R_drew)); exact HO181.out))) (below_size (by repeat (first | (with_reducible first | exact HB.out | apply below_alloc | apply pw_below_drewN | apply below_drew1) | exact HB.out | exact Below.refl _ _)))); have n6_ := Aside0.mk (Kd.C_below (by repeat (first | (with_reducible exact HR168.out) | (with_reducible refine Kd.C_alloc ?_ _) | (with_reducible refine Kd.C_drewN ?_ _) | (with_reducible refine Kd.C_drew ?_) | exact HR168.out)) hb); have n7_ := Aside0.mk (below_step (by repeat (first | (with_reducible first | exact HB.out | apply below_alloc | apply pw_below_drewN | apply below_drew1) | exact HB.out | exact Below.refl _ _)) hb); clear HO_7; clear HO173; clear HO175; clear HO181; clear HR168; clear HB; have HO_7 := n0_; have HO173 := n1_; have HO175 := n2_; have HO181 := n3_; have HO188 := n4_; have HO190 := n5_; have HR168 := n6_; have HB := n7_; clear n0_ n1_ n2_ n3_ n4_ n5_ n6_ n7_; (try clear hb); (try clear hb2); (try clear hk); (try clear hi); (try clear ho0); (try clear ho1)))
                                  go_ret
                                  exact ⟨by first | rfl | (simp [errW_none, errW_some] <;> rfl) | (simp only [← hji26]; first | rfl | (simp [errW_none, errW_some] <;> rfl)) | (simp [*, errW_none, errW_some] <;> rfl), by repeat (first | (with_reducible first | exact HB.out | apply below_alloc | apply pw_below_drewN | apply below_drew1) | exact HB.out | exact Below.refl _ _)⟩
                                · rw [if_neg c40] at H
                                  exact absurd H (by simp)
                              · rw [if_neg c39] at H
                                exact absurd H (by simp)
                      · rw [if_neg c28] at H
                        exact absurd H (by simp)
                    · rw [if_neg c27] at H
                      exact absurd H (by simp)
  · replace c5 := Bool.eq_false_iff.mpr c5
    subst c5
    have H1 : (some false) = some r := by rw [if_neg (show ¬ (false = true) by decide)] at H; exact H
    clear H
    have H := H1
    clear H1
    obtain rfl := Option.some.inj H
    go_enter Tryd.func4, Tryd.ntmps4
    go_wp2_with (first | ((with_reducible refine gate_callee (f := 5) rfl ?_); refine goesL_ (some 19) rfl rfl Tryd.func5 (by kernel_rfl) rfl #[] rfl (by (try simp only [List.map_toArray, List.map_cons, List.map_nil]); first | done | rfl | (simp only [List.length_drop, List.length_take]; rfl)) ?_; (with_reducible refine (postbaglaw04_alive.calls k  false _ A4.out).mono ?_); rintro e w52 ⟨rfl, hb⟩; refine ⟨_, rfl, ?_⟩; have n0_ := Aside0.mk (below_step (by repeat (first | (with_reducible first | exact HB.out | apply below_alloc | apply pw_below_drewN | apply below_drew1) | exact HB.out | exact Below.refl _ _)) hb); clear HB; have HB := n0_; clear n0_; (try clear hb); (try clear hb2); (try clear hk); (try clear hi)))
    go_ret
    exact ⟨by first | rfl | (simp [errW_none, errW_some] <;> rfl) | (simp [*, errW_none, errW_some] <;> rfl), by repeat (first | (with_reducible first | exact HB.out | apply below_alloc | apply pw_below_drewN | apply below_drew1) | exact HB.out | exact Below.refl _ _)⟩

/-- THE ONE PURE STATEMENT of postbaglaw04_CheckSpoilt: yours. -/
def postbaglaw04_CheckSpoilt.Pure : Prop := ∀ (l0 : List Int) (a1 : Int) (a2 : Int), l0.length ≤ maxLen → l0.length * 1 ≤ 140737488351232 → (∀ x ∈ l0, (Lit.int .u8 x).wf = true) → (Lit.int .i64 a1).wf = true → (Lit.int .u8 a2).wf = true → ∃ k, postbaglaw04_CheckSpoilt.f k l0 a1 a2 = some true
theorem postbaglaw04_CheckSpoilt.walk (P : postbaglaw04_CheckSpoilt.Pure) (a0 : Option Addr) (len0 cap0 : Nat) (z0 : List Int) (a1 : Int) (a2 : Int) (w : World) (w0 : (a0 = none ∧ len0 = 0 ∧ cap0 = 0 ∧ z0 = []) ∨ ∃ x, a0 = some x ∧ len0 ≤ cap0 ∧ cap0 ≤ maxLen ∧ z0.length = cap0 ∧ (∀ i, i < z0.length → w.cell? (x.add i) = some (.int .u8 (z0.getD i 0))) ∧ ∀ n ∈ z0, (Lit.int .u8 n).wf = true) (y0 : len0 * 1 ≤ 140737488351232) (w1 : (Lit.int .i64 a1).wf = true) (w2 : (Lit.int .u8 a2).wf = true) :
    Calls Tryd.prog 4 #[.slice a0 len0 cap0, .int .i64 a1, .int .u8 a2] w fun e w' => e = .returned (.bool true) ∧ Below w.heap.size w w' := by
  obtain ⟨l0, rfl, hr0, hm0, hw0, hc0⟩ := ReadsInt.ofRowC w0
  obtain ⟨k, h⟩ := P l0 a1 a2 hm0 y0 hw0 w1 w2
  refine (postbaglaw04_CheckSpoilt.calls k _ _ l0 a1 a2 true w (Kd.C_of_reads (d := (0 : Int)) (h1 := fun _ => rfl) hr0) hc0 h).mono ?_
  rintro e w' ⟨rfl, hd⟩
  exact ⟨rfl, hd⟩

end Go.Proofs.YthlofokgbogndaaDoor.GCheck
