/- Written by a program of mine (wip/tools/mkprint.py turns the kit's print; given contracts by hand). Lean checks it. -/
import Derived.Test.YthlofokgbogndabGBoxesx0
import Derived.Test.YthlofokgbogndabGBoxesx2
namespace Go.Proofs.Ythlofokgbogndab.GBoxes
open Go.RowKit Go.Proofs.YthlofokgbogndabW.PrintWords Go.Proofs.YthlofokgbogndabW.PrintLast Go.Proofs.YthlofokgbogndabW.PrintMore
attribute [local go_sem] max2_int min2_int max_two min_two max_three min_three max_four min_four   -- for this text's walks alone
set_option linter.unusedVariables false
set_option linter.unusedSimpArgs false

/-! ### boxes_Moved: function 10 -/
def boxes_Moved.f (a0 : ByteArray) (a1 : ByteArray) (a2 : ByteArray) : Option (ByteArray × Bool) := if a0.toList = a1.toList then (some (a2, true)) else ((boxes_Under.f a0 a1).bind fun t108 => (if t108 = true then (if 0 ≤ (a1.size : Int) then (if (a1.size : Int) ≤ (a0.size : Int) then (if a2.size + (a0.extract ((a1.size : Int) : Int).toNat a0.size).size ≤ 9223372036854775807 then (some (a2 ++ (a0.extract ((a1.size : Int) : Int).toNat a0.size), true)) else (none)) else (none)) else (none)) else (some ((⟨#[]⟩ : ByteArray), false))))
set_option maxHeartbeats 8000000 in
set_option maxRecDepth 100000 in
theorem boxes_Moved.calls (a0 : ByteArray) (a1 : ByteArray) (a2 : ByteArray) (r1 : ByteArray) (r2 : Bool) (w : World) (h : boxes_Moved.f a0 a1 a2 = some (r1, r2)) :
    Calls Try.prog 10 #[.string a0, .string a1, .string a2] w fun e w' => e = .returned (.tuple #[.string r1, .bool r2]) ∧ Drawn0 w w' := by
  have H : (if a0.toList = a1.toList then (some (a2, true)) else ((boxes_Under.f a0 a1).bind fun t108 => (if t108 = true then (if 0 ≤ (a1.size : Int) then (if (a1.size : Int) ≤ (a0.size : Int) then (if a2.size + (a0.extract ((a1.size : Int) : Int).toNat a0.size).size ≤ 9223372036854775807 then (some (a2 ++ (a0.extract ((a1.size : Int) : Int).toNat a0.size), true)) else (none)) else (none)) else (none)) else (some ((⟨#[]⟩ : ByteArray), false))))) = some (r1, r2) := h
  clear h
  by_cases c4 : a0.toList = a1.toList
  · rw [if_pos c4] at H
    have c4b0 : (a0.toList == a1.toList) = true := beq_iff_eq.mpr c4
    have c4b1 : (a0.toList != a1.toList) = false := bne_eq_false_iff_eq.mpr c4
    clear c4
    simp only [Option.some.injEq, Prod.mk.injEq] at H
    obtain ⟨rfl, rfl⟩ := H
    go_enter Try.func10, Try.ntmps10
    go_wp2
    go_ret2
    exact ⟨by first | rfl | (simp; done) | (simp [*]; done) | (simp [Go.Proofs.YthlofokgbogndabW.SRows.bne_nil_]; done), by repeat (first | exact Drawn0.refl _ | apply Drawn0.step)⟩
  · rw [if_neg c4] at H
    have c4b0 : (a0.toList == a1.toList) = false := beq_eq_false_iff_ne.mpr c4
    have c4b1 : (a0.toList != a1.toList) = true := bne_iff_ne.mpr c4
    replace H := Option.bind_eq_some_iff.mp H
    obtain ⟨t108, A50, H⟩ := H
    replace H : (if t108 = true then (if 0 ≤ (a1.size : Int) then (if (a1.size : Int) ≤ (a0.size : Int) then (if a2.size + (a0.extract ((a1.size : Int) : Int).toNat a0.size).size ≤ 9223372036854775807 then (some (a2 ++ (a0.extract ((a1.size : Int) : Int).toNat a0.size), true)) else (none)) else (none)) else (none)) else (some ((⟨#[]⟩ : ByteArray), false))) = some (r1, r2) := H
    have A5 := Aside0.mk A50
    clear A50
    by_cases c6 : t108 = true
    · subst c6
      have H1 : (if 0 ≤ (a1.size : Int) then (if (a1.size : Int) ≤ (a0.size : Int) then (if a2.size + (a0.extract ((a1.size : Int) : Int).toNat a0.size).size ≤ 9223372036854775807 then (some (a2 ++ (a0.extract ((a1.size : Int) : Int).toNat a0.size), true)) else (none)) else (none)) else (none)) = some (r1, r2) := by rw [if_pos rfl] at H; exact H
      clear H
      have H := H1
      clear H1
      by_cases c7 : 0 ≤ (a1.size : Int)
      · rw [if_pos c7] at H
        have c7b0 := eq_true c7
        have c7b1 : decide (0 ≤ (a1.size : Int)) = true := decide_eq_true c7
        clear c7
        by_cases c8 : (a1.size : Int) ≤ (a0.size : Int)
        · rw [if_pos c8] at H
          have c8b0 := eq_true c8
          have c8b1 : decide ((a1.size : Int) ≤ (a0.size : Int)) = true := decide_eq_true c8
          clear c8
          by_cases c9 : a2.size + (a0.extract ((a1.size : Int) : Int).toNat a0.size).size ≤ 9223372036854775807
          · rw [if_pos c9] at H
            have c9b0 := eq_true c9
            have c9b1 : decide (a2.size + (a0.extract ((a1.size : Int) : Int).toNat a0.size).size ≤ 9223372036854775807) = true := decide_eq_true c9
            try have c9b2 : (9223372036854775807 < a2.size + (a0.extract ((a1.size : Int) : Int).toNat a0.size).size) = False := eq_false (Nat.not_lt.2 c9)
            (try have c9z := c9b2; simp only [ByteArray.size_extract, Int.toNat_natCast, Nat.min_self] at c9z)
            simp only [Option.some.injEq, Prod.mk.injEq] at H
            obtain ⟨rfl, rfl⟩ := H
            go_enter Try.func10, Try.ntmps10
            go_wp2_with (first | ((with_reducible refine gate_callee (f := 12) rfl ?_); refine goesL_ (some 16) rfl rfl Try.func12 (by kernel_rfl) rfl #[.string a0, .string a1] rfl (by (try simp only [List.map_toArray, List.map_cons, List.map_nil]); first | done | rfl | (simp only [List.length_drop, List.length_take]; rfl)) ?_; (with_reducible refine (boxes_Under.calls a0 a1 true _ A5.out).mono ?_); rintro e w' ⟨rfl, ⟨nd, rfl⟩⟩; refine ⟨_, rfl, ?_⟩))
            go_ret2
            exact ⟨by first | rfl | (simp; done) | (simp [*]; done) | (simp [Go.Proofs.YthlofokgbogndabW.SRows.bne_nil_]; done), by repeat (first | exact Drawn0.refl _ | apply Drawn0.step)⟩
          · rw [if_neg c9] at H
            exact absurd H (by simp)
        · rw [if_neg c8] at H
          exact absurd H (by simp)
      · rw [if_neg c7] at H
        exact absurd H (by simp)
    · replace c6 := Bool.eq_false_iff.mpr c6
      subst c6
      have H1 : (some ((⟨#[]⟩ : ByteArray), false)) = some (r1, r2) := by rw [if_neg (show ¬ (false = true) by decide)] at H; exact H
      clear H
      have H := H1
      clear H1
      simp only [Option.some.injEq, Prod.mk.injEq] at H
      obtain ⟨rfl, rfl⟩ := H
      go_enter Try.func10, Try.ntmps10
      go_wp2_with (first | ((with_reducible refine gate_callee (f := 12) rfl ?_); refine goesL_ (some 16) rfl rfl Try.func12 (by kernel_rfl) rfl #[.string a0, .string a1] rfl (by (try simp only [List.map_toArray, List.map_cons, List.map_nil]); first | done | rfl | (simp only [List.length_drop, List.length_take]; rfl)) ?_; (with_reducible refine (boxes_Under.calls a0 a1 false _ A5.out).mono ?_); rintro e w' ⟨rfl, ⟨nd, rfl⟩⟩; refine ⟨_, rfl, ?_⟩))
      go_ret2
      exact ⟨by first | rfl | (simp; done) | (simp [*]; done) | (simp [Go.Proofs.YthlofokgbogndabW.SRows.bne_nil_]; done), by repeat (first | exact Drawn0.refl _ | apply Drawn0.step)⟩

/-! ### postbaglaw13_alive: function 7 -/
def postbaglaw13_alive.f  : Option (Bool) := (boxes_Moved.f (⟨#[97, 47, 120]⟩ : ByteArray) (⟨#[97]⟩ : ByteArray) (⟨#[98, 47, 99]⟩ : ByteArray)).bind fun bt109 => ((boxes_Fits.f (⟨#[97, 47, 37]⟩ : ByteArray) (⟨#[97, 47, 98]⟩ : ByteArray)).bind fun t111 => (if t111 = true then ((boxes_Fits.f (⟨#[97, 47, 37]⟩ : ByteArray) (⟨#[97, 47, 98, 47, 99]⟩ : ByteArray)).bind fun t112 => (if t112 = true then (some false) else ((boxes_Fits.f (⟨#[97, 42]⟩ : ByteArray) (⟨#[97, 47, 98, 47, 99]⟩ : ByteArray)).bind fun t113 => (if t113 = true then ((boxes_Fits.f (⟨#[73, 110, 66, 37]⟩ : ByteArray) (⟨#[73, 78, 66, 79, 88]⟩ : ByteArray)).bind fun t114 => (if t114 = true then (if bt109.2 = true then (some (bt109.1.toList == ([98, 47, 99, 47, 120] : List UInt8))) else (some false)) else (some false))) else (some false))))) else (some false)))
set_option maxHeartbeats 8000000 in
set_option maxRecDepth 100000 in
theorem postbaglaw13_alive.calls  (r : Bool) (w : World) (h : postbaglaw13_alive.f  = some r) :
    Calls Try.prog 7 #[] w fun e w' => e = .returned (.bool r) ∧ Below w.heap.size w w' := by
  have HB := Aside0.mk (Below.refl w.heap.size w)
  have H : ((boxes_Moved.f (⟨#[97, 47, 120]⟩ : ByteArray) (⟨#[97]⟩ : ByteArray) (⟨#[98, 47, 99]⟩ : ByteArray)).bind fun bt109 => ((boxes_Fits.f (⟨#[97, 47, 37]⟩ : ByteArray) (⟨#[97, 47, 98]⟩ : ByteArray)).bind fun t111 => (if t111 = true then ((boxes_Fits.f (⟨#[97, 47, 37]⟩ : ByteArray) (⟨#[97, 47, 98, 47, 99]⟩ : ByteArray)).bind fun t112 => (if t112 = true then (some false) else ((boxes_Fits.f (⟨#[97, 42]⟩ : ByteArray) (⟨#[97, 47, 98, 47, 99]⟩ : ByteArray)).bind fun t113 => (if t113 = true then ((boxes_Fits.f (⟨#[73, 110, 66, 37]⟩ : ByteArray) (⟨#[73, 78, 66, 79, 88]⟩ : ByteArray)).bind fun t114 => (if t114 = true then (if bt109.2 = true then (some (bt109.1.toList == ([98, 47, 99, 47, 120] : List UInt8))) else (some false)) else (some false))) else (some false))))) else (some false)))) = some r := h
  clear h
  replace H := Option.bind_eq_some_iff.mp H
  obtain ⟨⟨t109, t110⟩, A10, H⟩ := H
  replace H : ((boxes_Fits.f (⟨#[97, 47, 37]⟩ : ByteArray) (⟨#[97, 47, 98]⟩ : ByteArray)).bind fun t111 => (if t111 = true then ((boxes_Fits.f (⟨#[97, 47, 37]⟩ : ByteArray) (⟨#[97, 47, 98, 47, 99]⟩ : ByteArray)).bind fun t112 => (if t112 = true then (some false) else ((boxes_Fits.f (⟨#[97, 42]⟩ : ByteArray) (⟨#[97, 47, 98, 47, 99]⟩ : ByteArray)).bind fun t113 => (if t113 = true then ((boxes_Fits.f (⟨#[73, 110, 66, 37]⟩ : ByteArray) (⟨#[73, 78, 66, 79, 88]⟩ : ByteArray)).bind fun t114 => (if t114 = true then (if t110 = true then (some (t109.toList == ([98, 47, 99, 47, 120] : List UInt8))) else (some false)) else (some false))) else (some false))))) else (some false))) = some r := H
  have A1 := Aside0.mk A10
  clear A10
  replace H := Option.bind_eq_some_iff.mp H
  obtain ⟨t111, A20, H⟩ := H
  replace H : (if t111 = true then ((boxes_Fits.f (⟨#[97, 47, 37]⟩ : ByteArray) (⟨#[97, 47, 98, 47, 99]⟩ : ByteArray)).bind fun t112 => (if t112 = true then (some false) else ((boxes_Fits.f (⟨#[97, 42]⟩ : ByteArray) (⟨#[97, 47, 98, 47, 99]⟩ : ByteArray)).bind fun t113 => (if t113 = true then ((boxes_Fits.f (⟨#[73, 110, 66, 37]⟩ : ByteArray) (⟨#[73, 78, 66, 79, 88]⟩ : ByteArray)).bind fun t114 => (if t114 = true then (if t110 = true then (some (t109.toList == ([98, 47, 99, 47, 120] : List UInt8))) else (some false)) else (some false))) else (some false))))) else (some false)) = some r := H
  have A2 := Aside0.mk A20
  clear A20
  by_cases c3 : t111 = true
  · subst c3
    have H1 : ((boxes_Fits.f (⟨#[97, 47, 37]⟩ : ByteArray) (⟨#[97, 47, 98, 47, 99]⟩ : ByteArray)).bind fun t112 => (if t112 = true then (some false) else ((boxes_Fits.f (⟨#[97, 42]⟩ : ByteArray) (⟨#[97, 47, 98, 47, 99]⟩ : ByteArray)).bind fun t113 => (if t113 = true then ((boxes_Fits.f (⟨#[73, 110, 66, 37]⟩ : ByteArray) (⟨#[73, 78, 66, 79, 88]⟩ : ByteArray)).bind fun t114 => (if t114 = true then (if t110 = true then (some (t109.toList == ([98, 47, 99, 47, 120] : List UInt8))) else (some false)) else (some false))) else (some false))))) = some r := by rw [if_pos rfl] at H; exact H
    clear H
    have H := H1
    clear H1
    replace H := Option.bind_eq_some_iff.mp H
    obtain ⟨t112, A40, H⟩ := H
    replace H : (if t112 = true then (some false) else ((boxes_Fits.f (⟨#[97, 42]⟩ : ByteArray) (⟨#[97, 47, 98, 47, 99]⟩ : ByteArray)).bind fun t113 => (if t113 = true then ((boxes_Fits.f (⟨#[73, 110, 66, 37]⟩ : ByteArray) (⟨#[73, 78, 66, 79, 88]⟩ : ByteArray)).bind fun t114 => (if t114 = true then (if t110 = true then (some (t109.toList == ([98, 47, 99, 47, 120] : List UInt8))) else (some false)) else (some false))) else (some false)))) = some r := H
    have A4 := Aside0.mk A40
    clear A40
    by_cases c5 : t112 = true
    · subst c5
      have H1 : (some false) = some r := by rw [if_pos rfl] at H; exact H
      clear H
      have H := H1
      clear H1
      obtain rfl := Option.some.inj H
      go_enter Try.func7, Try.ntmps7
      go_wp2_with (first | ((with_reducible refine gate_callee (f := 10) rfl ?_); refine goesL_ (some 4) rfl rfl Try.func10 (by kernel_rfl) rfl #[.string (⟨#[97, 47, 120]⟩ : ByteArray), .string (⟨#[97]⟩ : ByteArray), .string (⟨#[98, 47, 99]⟩ : ByteArray)] rfl (by (try simp only [List.map_toArray, List.map_cons, List.map_nil]); first | done | rfl | (simp only [List.length_drop, List.length_take]; rfl)) ?_; (with_reducible refine (boxes_Moved.calls (⟨#[97, 47, 120]⟩ : ByteArray) (⟨#[97]⟩ : ByteArray) (⟨#[98, 47, 99]⟩ : ByteArray) t109 t110 _ A1.out).mono ?_); rintro e w' ⟨rfl, ⟨nd, rfl⟩⟩; refine ⟨_, rfl, ?_⟩) | ((with_reducible refine gate_callee (f := 8) rfl ?_); refine goesL_ (some 7) rfl rfl Try.func8 (by kernel_rfl) rfl #[.string (⟨#[97, 47, 37]⟩ : ByteArray), .string (⟨#[97, 47, 98]⟩ : ByteArray)] rfl (by (try simp only [List.map_toArray, List.map_cons, List.map_nil]); first | done | rfl | (simp only [List.length_drop, List.length_take]; rfl)) ?_; (with_reducible refine (boxes_Fits.calls (⟨#[97, 47, 37]⟩ : ByteArray) (⟨#[97, 47, 98]⟩ : ByteArray) true _ A2.out).mono ?_); rintro e w6 ⟨rfl, hb⟩; refine ⟨_, rfl, ?_⟩; have n0_ := Aside0.mk (below_step (by repeat (first | (with_reducible first | exact HB.out | apply below_alloc | apply pw_below_drewN | apply below_drew1) | exact HB.out | exact Below.refl _ _)) hb); clear HB; have HB := n0_; clear n0_; (try clear hb); (try clear hb2); (try clear hk); (try clear hi)) | (go_at_call 8; (with_reducible refine (boxes_Fits.calls (⟨#[97, 47, 37]⟩ : ByteArray) (⟨#[97, 47, 98, 47, 99]⟩ : ByteArray) true _ A4.out).mono ?_); rintro e w7 ⟨rfl, hb⟩; have n0_ := Aside0.mk (below_step (by repeat (first | (with_reducible first | exact HB.out | apply below_alloc | apply pw_below_drewN | apply below_drew1) | exact HB.out | exact Below.refl _ _)) hb); clear HB; have HB := n0_; clear n0_; (try clear hb); (try clear hb2); (try clear hk); (try clear hi)))
      go_ret
      exact ⟨by first | rfl | (simp [errW_none, errW_some] <;> rfl) | (simp [*, errW_none, errW_some] <;> rfl), by repeat (first | (with_reducible first | exact HB.out | apply below_alloc | apply pw_below_drewN | apply below_drew1) | exact HB.out | exact Below.refl _ _)⟩
    · replace c5 := Bool.eq_false_iff.mpr c5
      subst c5
      have H1 : ((boxes_Fits.f (⟨#[97, 42]⟩ : ByteArray) (⟨#[97, 47, 98, 47, 99]⟩ : ByteArray)).bind fun t113 => (if t113 = true then ((boxes_Fits.f (⟨#[73, 110, 66, 37]⟩ : ByteArray) (⟨#[73, 78, 66, 79, 88]⟩ : ByteArray)).bind fun t114 => (if t114 = true then (if t110 = true then (some (t109.toList == ([98, 47, 99, 47, 120] : List UInt8))) else (some false)) else (some false))) else (some false))) = some r := by rw [if_neg (show ¬ (false = true) by decide)] at H; exact H
      clear H
      have H := H1
      clear H1
      replace H := Option.bind_eq_some_iff.mp H
      obtain ⟨t113, A80, H⟩ := H
      replace H : (if t113 = true then ((boxes_Fits.f (⟨#[73, 110, 66, 37]⟩ : ByteArray) (⟨#[73, 78, 66, 79, 88]⟩ : ByteArray)).bind fun t114 => (if t114 = true then (if t110 = true then (some (t109.toList == ([98, 47, 99, 47, 120] : List UInt8))) else (some false)) else (some false))) else (some false)) = some r := H
      have A8 := Aside0.mk A80
      clear A80
      by_cases c9 : t113 = true
      · subst c9
        have H1 : ((boxes_Fits.f (⟨#[73, 110, 66, 37]⟩ : ByteArray) (⟨#[73, 78, 66, 79, 88]⟩ : ByteArray)).bind fun t114 => (if t114 = true then (if t110 = true then (some (t109.toList == ([98, 47, 99, 47, 120] : List UInt8))) else (some false)) else (some false))) = some r := by rw [if_pos rfl] at H; exact H
        clear H
        have H := H1
        clear H1
        replace H := Option.bind_eq_some_iff.mp H
        obtain ⟨t114, A100, H⟩ := H
        replace H : (if t114 = true then (if t110 = true then (some (t109.toList == ([98, 47, 99, 47, 120] : List UInt8))) else (some false)) else (some false)) = some r := H
        have A10 := Aside0.mk A100
        clear A100
        by_cases c11 : t114 = true
        · subst c11
          have H1 : (if t110 = true then (some (t109.toList == ([98, 47, 99, 47, 120] : List UInt8))) else (some false)) = some r := by rw [if_pos rfl] at H; exact H
          clear H
          have H := H1
          clear H1
          by_cases c12 : t110 = true
          · subst c12
            have H1 : (some (t109.toList == ([98, 47, 99, 47, 120] : List UInt8))) = some r := by rw [if_pos rfl] at H; exact H
            clear H
            have H := H1
            clear H1
            obtain rfl := Option.some.inj H
            go_enter Try.func7, Try.ntmps7
            go_wp2_with (first | ((with_reducible refine gate_callee (f := 10) rfl ?_); refine goesL_ (some 4) rfl rfl Try.func10 (by kernel_rfl) rfl #[.string (⟨#[97, 47, 120]⟩ : ByteArray), .string (⟨#[97]⟩ : ByteArray), .string (⟨#[98, 47, 99]⟩ : ByteArray)] rfl (by (try simp only [List.map_toArray, List.map_cons, List.map_nil]); first | done | rfl | (simp only [List.length_drop, List.length_take]; rfl)) ?_; (with_reducible refine (boxes_Moved.calls (⟨#[97, 47, 120]⟩ : ByteArray) (⟨#[97]⟩ : ByteArray) (⟨#[98, 47, 99]⟩ : ByteArray) t109 true _ A1.out).mono ?_); rintro e w' ⟨rfl, ⟨nd, rfl⟩⟩; refine ⟨_, rfl, ?_⟩) | ((with_reducible refine gate_callee (f := 8) rfl ?_); refine goesL_ (some 7) rfl rfl Try.func8 (by kernel_rfl) rfl #[.string (⟨#[97, 47, 37]⟩ : ByteArray), .string (⟨#[97, 47, 98]⟩ : ByteArray)] rfl (by (try simp only [List.map_toArray, List.map_cons, List.map_nil]); first | done | rfl | (simp only [List.length_drop, List.length_take]; rfl)) ?_; (with_reducible refine (boxes_Fits.calls (⟨#[97, 47, 37]⟩ : ByteArray) (⟨#[97, 47, 98]⟩ : ByteArray) true _ A2.out).mono ?_); rintro e w13 ⟨rfl, hb⟩; refine ⟨_, rfl, ?_⟩; have n0_ := Aside0.mk (below_step (by repeat (first | (with_reducible first | exact HB.out | apply below_alloc | apply pw_below_drewN | apply below_drew1) | exact HB.out | exact Below.refl _ _)) hb); clear HB; have HB := n0_; clear n0_; (try clear hb); (try clear hb2); (try clear hk); (try clear hi)) | (go_at_call 8; (with_reducible refine (boxes_Fits.calls (⟨#[97, 47, 37]⟩ : ByteArray) (⟨#[97, 47, 98, 47, 99]⟩ : ByteArray) false _ A4.out).mono ?_); rintro e w14 ⟨rfl, hb⟩; have n0_ := Aside0.mk (below_step (by repeat (first | (with_reducible first | exact HB.out | apply below_alloc | apply pw_below_drewN | apply below_drew1) | exact HB.out | exact Below.refl _ _)) hb); clear HB; have HB := n0_; clear n0_; (try clear hb); (try clear hb2); (try clear hk); (try clear hi)) | (go_at_call 8; (with_reducible refine (boxes_Fits.calls (⟨#[97, 42]⟩ : ByteArray) (⟨#[97, 47, 98, 47, 99]⟩ : ByteArray) true _ A8.out).mono ?_); rintro e w15 ⟨rfl, hb⟩; have n0_ := Aside0.mk (below_step (by repeat (first | (with_reducible first | exact HB.out | apply below_alloc | apply pw_below_drewN | apply below_drew1) | exact HB.out | exact Below.refl _ _)) hb); clear HB; have HB := n0_; clear n0_; (try clear hb); (try clear hb2); (try clear hk); (try clear hi)) | (go_at_call 8; (with_reducible refine (boxes_Fits.calls (⟨#[73, 110, 66, 37]⟩ : ByteArray) (⟨#[73, 78, 66, 79, 88]⟩ : ByteArray) true _ A10.out).mono ?_); rintro e w16 ⟨rfl, hb⟩; have n0_ := Aside0.mk (below_step (by repeat (first | (with_reducible first | exact HB.out | apply below_alloc | apply pw_below_drewN | apply below_drew1) | exact HB.out | exact Below.refl _ _)) hb); clear HB; have HB := n0_; clear n0_; (try clear hb); (try clear hb2); (try clear hk); (try clear hi)))
            go_ret
            exact ⟨by first | rfl | (simp [errW_none, errW_some] <;> rfl) | (simp [*, errW_none, errW_some] <;> rfl), by repeat (first | (with_reducible first | exact HB.out | apply below_alloc | apply pw_below_drewN | apply below_drew1) | exact HB.out | exact Below.refl _ _)⟩
          · replace c12 := Bool.eq_false_iff.mpr c12
            subst c12
            have H1 : (some false) = some r := by rw [if_neg (show ¬ (false = true) by decide)] at H; exact H
            clear H
            have H := H1
            clear H1
            obtain rfl := Option.some.inj H
            go_enter Try.func7, Try.ntmps7
            go_wp2_with (first | ((with_reducible refine gate_callee (f := 10) rfl ?_); refine goesL_ (some 4) rfl rfl Try.func10 (by kernel_rfl) rfl #[.string (⟨#[97, 47, 120]⟩ : ByteArray), .string (⟨#[97]⟩ : ByteArray), .string (⟨#[98, 47, 99]⟩ : ByteArray)] rfl (by (try simp only [List.map_toArray, List.map_cons, List.map_nil]); first | done | rfl | (simp only [List.length_drop, List.length_take]; rfl)) ?_; (with_reducible refine (boxes_Moved.calls (⟨#[97, 47, 120]⟩ : ByteArray) (⟨#[97]⟩ : ByteArray) (⟨#[98, 47, 99]⟩ : ByteArray) t109 false _ A1.out).mono ?_); rintro e w' ⟨rfl, ⟨nd, rfl⟩⟩; refine ⟨_, rfl, ?_⟩) | ((with_reducible refine gate_callee (f := 8) rfl ?_); refine goesL_ (some 7) rfl rfl Try.func8 (by kernel_rfl) rfl #[.string (⟨#[97, 47, 37]⟩ : ByteArray), .string (⟨#[97, 47, 98]⟩ : ByteArray)] rfl (by (try simp only [List.map_toArray, List.map_cons, List.map_nil]); first | done | rfl | (simp only [List.length_drop, List.length_take]; rfl)) ?_; (with_reducible refine (boxes_Fits.calls (⟨#[97, 47, 37]⟩ : ByteArray) (⟨#[97, 47, 98]⟩ : ByteArray) true _ A2.out).mono ?_); rintro e w17 ⟨rfl, hb⟩; refine ⟨_, rfl, ?_⟩; have n0_ := Aside0.mk (below_step (by repeat (first | (with_reducible first | exact HB.out | apply below_alloc | apply pw_below_drewN | apply below_drew1) | exact HB.out | exact Below.refl _ _)) hb); clear HB; have HB := n0_; clear n0_; (try clear hb); (try clear hb2); (try clear hk); (try clear hi)) | (go_at_call 8; (with_reducible refine (boxes_Fits.calls (⟨#[97, 47, 37]⟩ : ByteArray) (⟨#[97, 47, 98, 47, 99]⟩ : ByteArray) false _ A4.out).mono ?_); rintro e w18 ⟨rfl, hb⟩; have n0_ := Aside0.mk (below_step (by repeat (first | (with_reducible first | exact HB.out | apply below_alloc | apply pw_below_drewN | apply below_drew1) | exact HB.out | exact Below.refl _ _)) hb); clear HB; have HB := n0_; clear n0_; (try clear hb); (try clear hb2); (try clear hk); (try clear hi)) | (go_at_call 8; (with_reducible refine (boxes_Fits.calls (⟨#[97, 42]⟩ : ByteArray) (⟨#[97, 47, 98, 47, 99]⟩ : ByteArray) true _ A8.out).mono ?_); rintro e w19 ⟨rfl, hb⟩; have n0_ := Aside0.mk (below_step (by repeat (first | (with_reducible first | exact HB.out | apply below_alloc | apply pw_below_drewN | apply below_drew1) | exact HB.out | exact Below.refl _ _)) hb); clear HB; have HB := n0_; clear n0_; (try clear hb); (try clear hb2); (try clear hk); (try clear hi)) | (go_at_call 8; (with_reducible refine (boxes_Fits.calls (⟨#[73, 110, 66, 37]⟩ : ByteArray) (⟨#[73, 78, 66, 79, 88]⟩ : ByteArray) true _ A10.out).mono ?_); rintro e w20 ⟨rfl, hb⟩; have n0_ := Aside0.mk (below_step (by repeat (first | (with_reducible first | exact HB.out | apply below_alloc | apply pw_below_drewN | apply below_drew1) | exact HB.out | exact Below.refl _ _)) hb); clear HB; have HB := n0_; clear n0_; (try clear hb); (try clear hb2); (try clear hk); (try clear hi)))
            go_ret
            exact ⟨by first | rfl | (simp [errW_none, errW_some] <;> rfl) | (simp [*, errW_none, errW_some] <;> rfl), by repeat (first | (with_reducible first | exact HB.out | apply below_alloc | apply pw_below_drewN | apply below_drew1) | exact HB.out | exact Below.refl _ _)⟩
        · replace c11 := Bool.eq_false_iff.mpr c11
          subst c11
          have H1 : (some false) = some r := by rw [if_neg (show ¬ (false = true) by decide)] at H; exact H
          clear H
          have H := H1
          clear H1
          obtain rfl := Option.some.inj H
          go_enter Try.func7, Try.ntmps7
          go_wp2_with (first | ((with_reducible refine gate_callee (f := 10) rfl ?_); refine goesL_ (some 4) rfl rfl Try.func10 (by kernel_rfl) rfl #[.string (⟨#[97, 47, 120]⟩ : ByteArray), .string (⟨#[97]⟩ : ByteArray), .string (⟨#[98, 47, 99]⟩ : ByteArray)] rfl (by (try simp only [List.map_toArray, List.map_cons, List.map_nil]); first | done | rfl | (simp only [List.length_drop, List.length_take]; rfl)) ?_; (with_reducible refine (boxes_Moved.calls (⟨#[97, 47, 120]⟩ : ByteArray) (⟨#[97]⟩ : ByteArray) (⟨#[98, 47, 99]⟩ : ByteArray) t109 t110 _ A1.out).mono ?_); rintro e w' ⟨rfl, ⟨nd, rfl⟩⟩; refine ⟨_, rfl, ?_⟩) | ((with_reducible refine gate_callee (f := 8) rfl ?_); refine goesL_ (some 7) rfl rfl Try.func8 (by kernel_rfl) rfl #[.string (⟨#[97, 47, 37]⟩ : ByteArray), .string (⟨#[97, 47, 98]⟩ : ByteArray)] rfl (by (try simp only [List.map_toArray, List.map_cons, List.map_nil]); first | done | rfl | (simp only [List.length_drop, List.length_take]; rfl)) ?_; (with_reducible refine (boxes_Fits.calls (⟨#[97, 47, 37]⟩ : ByteArray) (⟨#[97, 47, 98]⟩ : ByteArray) true _ A2.out).mono ?_); rintro e w21 ⟨rfl, hb⟩; refine ⟨_, rfl, ?_⟩; have n0_ := Aside0.mk (below_step (by repeat (first | (with_reducible first | exact HB.out | apply below_alloc | apply pw_below_drewN | apply below_drew1) | exact HB.out | exact Below.refl _ _)) hb); clear HB; have HB := n0_; clear n0_; (try clear hb); (try clear hb2); (try clear hk); (try clear hi)) | (go_at_call 8; (with_reducible refine (boxes_Fits.calls (⟨#[97, 47, 37]⟩ : ByteArray) (⟨#[97, 47, 98, 47, 99]⟩ : ByteArray) false _ A4.out).mono ?_); rintro e w22 ⟨rfl, hb⟩; have n0_ := Aside0.mk (below_step (by repeat (first | (with_reducible first | exact HB.out | apply below_alloc | apply pw_below_drewN | apply below_drew1) | exact HB.out | exact Below.refl _ _)) hb); clear HB; have HB := n0_; clear n0_; (try clear hb); (try clear hb2); (try clear hk); (try clear hi)) | (go_at_call 8; (with_reducible refine (boxes_Fits.calls (⟨#[97, 42]⟩ : ByteArray) (⟨#[97, 47, 98, 47, 99]⟩ : ByteArray) true _ A8.out).mono ?_); rintro e w23 ⟨rfl, hb⟩; have n0_ := Aside0.mk (below_step (by repeat (first | (with_reducible first | exact HB.out | apply below_alloc | apply pw_below_drewN | apply below_drew1) | exact HB.out | exact Below.refl _ _)) hb); clear HB; have HB := n0_; clear n0_; (try clear hb); (try clear hb2); (try clear hk); (try clear hi)) | (go_at_call 8; (with_reducible refine (boxes_Fits.calls (⟨#[73, 110, 66, 37]⟩ : ByteArray) (⟨#[73, 78, 66, 79, 88]⟩ : ByteArray) false _ A10.out).mono ?_); rintro e w24 ⟨rfl, hb⟩; have n0_ := Aside0.mk (below_step (by repeat (first | (with_reducible first | exact HB.out | apply below_alloc | apply pw_below_drewN | apply below_drew1) | exact HB.out | exact Below.refl _ _)) hb); clear HB; have HB := n0_; clear n0_; (try clear hb); (try clear hb2); (try clear hk); (try clear hi)))
          go_ret
          exact ⟨by first | rfl | (simp [errW_none, errW_some] <;> rfl) | (simp [*, errW_none, errW_some] <;> rfl), by repeat (first | (with_reducible first | exact HB.out | apply below_alloc | apply pw_below_drewN | apply below_drew1) | exact HB.out | exact Below.refl _ _)⟩
      · replace c9 := Bool.eq_false_iff.mpr c9
        subst c9
        have H1 : (some false) = some r := by rw [if_neg (show ¬ (false = true) by decide)] at H; exact H
        clear H
        have H := H1
        clear H1
        obtain rfl := Option.some.inj H
        go_enter Try.func7, Try.ntmps7
        go_wp2_with (first | ((with_reducible refine gate_callee (f := 10) rfl ?_); refine goesL_ (some 4) rfl rfl Try.func10 (by kernel_rfl) rfl #[.string (⟨#[97, 47, 120]⟩ : ByteArray), .string (⟨#[97]⟩ : ByteArray), .string (⟨#[98, 47, 99]⟩ : ByteArray)] rfl (by (try simp only [List.map_toArray, List.map_cons, List.map_nil]); first | done | rfl | (simp only [List.length_drop, List.length_take]; rfl)) ?_; (with_reducible refine (boxes_Moved.calls (⟨#[97, 47, 120]⟩ : ByteArray) (⟨#[97]⟩ : ByteArray) (⟨#[98, 47, 99]⟩ : ByteArray) t109 t110 _ A1.out).mono ?_); rintro e w' ⟨rfl, ⟨nd, rfl⟩⟩; refine ⟨_, rfl, ?_⟩) | ((with_reducible refine gate_callee (f := 8) rfl ?_); refine goesL_ (some 7) rfl rfl Try.func8 (by kernel_rfl) rfl #[.string (⟨#[97, 47, 37]⟩ : ByteArray), .string (⟨#[97, 47, 98]⟩ : ByteArray)] rfl (by (try simp only [List.map_toArray, List.map_cons, List.map_nil]); first | done | rfl | (simp only [List.length_drop, List.length_take]; rfl)) ?_; (with_reducible refine (boxes_Fits.calls (⟨#[97, 47, 37]⟩ : ByteArray) (⟨#[97, 47, 98]⟩ : ByteArray) true _ A2.out).mono ?_); rintro e w25 ⟨rfl, hb⟩; refine ⟨_, rfl, ?_⟩; have n0_ := Aside0.mk (below_step (by repeat (first | (with_reducible first | exact HB.out | apply below_alloc | apply pw_below_drewN | apply below_drew1) | exact HB.out | exact Below.refl _ _)) hb); clear HB; have HB := n0_; clear n0_; (try clear hb); (try clear hb2); (try clear hk); (try clear hi)) | (go_at_call 8; (with_reducible refine (boxes_Fits.calls (⟨#[97, 47, 37]⟩ : ByteArray) (⟨#[97, 47, 98, 47, 99]⟩ : ByteArray) false _ A4.out).mono ?_); rintro e w26 ⟨rfl, hb⟩; have n0_ := Aside0.mk (below_step (by repeat (first | (with_reducible first | exact HB.out | apply below_alloc | apply pw_below_drewN | apply below_drew1) | exact HB.out | exact Below.refl _ _)) hb); clear HB; have HB := n0_; clear n0_; (try clear hb); (try clear hb2); (try clear hk); (try clear hi)) | (go_at_call 8; (with_reducible refine (boxes_Fits.calls (⟨#[97, 42]⟩ : ByteArray) (⟨#[97, 47, 98, 47, 99]⟩ : ByteArray) false _ A8.out).mono ?_); rintro e w27 ⟨rfl, hb⟩; have n0_ := Aside0.mk (below_step (by repeat (first | (with_reducible first | exact HB.out | apply below_alloc | apply pw_below_drewN | apply below_drew1) | exact HB.out | exact Below.refl _ _)) hb); clear HB; have HB := n0_; clear n0_; (try clear hb); (try clear hb2); (try clear hk); (try clear hi)))
        go_ret
        exact ⟨by first | rfl | (simp [errW_none, errW_some] <;> rfl) | (simp [*, errW_none, errW_some] <;> rfl), by repeat (first | (with_reducible first | exact HB.out | apply below_alloc | apply pw_below_drewN | apply below_drew1) | exact HB.out | exact Below.refl _ _)⟩
  · replace c3 := Bool.eq_false_iff.mpr c3
    subst c3
    have H1 : (some false) = some r := by rw [if_neg (show ¬ (false = true) by decide)] at H; exact H
    clear H
    have H := H1
    clear H1
    obtain rfl := Option.some.inj H
    go_enter Try.func7, Try.ntmps7
    go_wp2_with (first | ((with_reducible refine gate_callee (f := 10) rfl ?_); refine goesL_ (some 4) rfl rfl Try.func10 (by kernel_rfl) rfl #[.string (⟨#[97, 47, 120]⟩ : ByteArray), .string (⟨#[97]⟩ : ByteArray), .string (⟨#[98, 47, 99]⟩ : ByteArray)] rfl (by (try simp only [List.map_toArray, List.map_cons, List.map_nil]); first | done | rfl | (simp only [List.length_drop, List.length_take]; rfl)) ?_; (with_reducible refine (boxes_Moved.calls (⟨#[97, 47, 120]⟩ : ByteArray) (⟨#[97]⟩ : ByteArray) (⟨#[98, 47, 99]⟩ : ByteArray) t109 t110 _ A1.out).mono ?_); rintro e w' ⟨rfl, ⟨nd, rfl⟩⟩; refine ⟨_, rfl, ?_⟩) | ((with_reducible refine gate_callee (f := 8) rfl ?_); refine goesL_ (some 7) rfl rfl Try.func8 (by kernel_rfl) rfl #[.string (⟨#[97, 47, 37]⟩ : ByteArray), .string (⟨#[97, 47, 98]⟩ : ByteArray)] rfl (by (try simp only [List.map_toArray, List.map_cons, List.map_nil]); first | done | rfl | (simp only [List.length_drop, List.length_take]; rfl)) ?_; (with_reducible refine (boxes_Fits.calls (⟨#[97, 47, 37]⟩ : ByteArray) (⟨#[97, 47, 98]⟩ : ByteArray) false _ A2.out).mono ?_); rintro e w28 ⟨rfl, hb⟩; refine ⟨_, rfl, ?_⟩; have n0_ := Aside0.mk (below_step (by repeat (first | (with_reducible first | exact HB.out | apply below_alloc | apply pw_below_drewN | apply below_drew1) | exact HB.out | exact Below.refl _ _)) hb); clear HB; have HB := n0_; clear n0_; (try clear hb); (try clear hb2); (try clear hk); (try clear hi)))
    go_ret
    exact ⟨by first | rfl | (simp [errW_none, errW_some] <;> rfl) | (simp [*, errW_none, errW_some] <;> rfl), by repeat (first | (with_reducible first | exact HB.out | apply below_alloc | apply pw_below_drewN | apply below_drew1) | exact HB.out | exact Below.refl _ _)⟩

/-! ### postbagref08_Small: function 18 -/
section
open Go.Maps Go.Shelf Go.Proofs.YthlofokgbogndabW.SRows
def postbagref08_Small.f (s : ByteArray) : Option ByteArray := if s.size ≤ 1000000 then some (strOfNums (smallL s)) else none
theorem sm_step (xs : List Int) (k : Nat) (hk : k < xs.length) : ((xs.take k).map lowI ++ xs.drop k).set k (lowI (xs.getD k 0)) = (xs.take (k + 1)).map lowI ++ xs.drop (k + 1) := by
  rw [List.take_add_one, List.getElem?_eq_getElem hk, List.drop_eq_getElem_cons hk, List.getD_eq_getElem?_getD, List.getElem?_eq_getElem hk]
  have : ((xs.take k).map lowI).length = k := by simp; omega
  rw [List.set_append_right _ _ (by omega), this]
  simp only [Nat.sub_self, List.set_cons_zero, List.map_append, Option.toList_some, List.map_cons, List.map_nil, List.append_assoc, List.singleton_append, Option.getD_some]
theorem sm_at (xs : List Int) (k : Nat) (hk : k < xs.length) : ((xs.take k).map lowI ++ xs.drop k).getD k 0 = xs.getD k 0 := by
  have : ((xs.take k).map lowI).length = k := by simp; omega
  rw [List.getD_eq_getElem?_getD, List.getD_eq_getElem?_getD, List.getElem?_append_right (by omega), this, Nat.sub_self, List.getElem?_drop, Nat.add_zero]
theorem sm_len (xs : List Int) (k : Nat) : ((xs.take k).map lowI ++ xs.drop k).length = xs.length := by simp; omega
set_option maxHeartbeats 2000000 in
theorem postbagref08_Small.calls (a0 : ByteArray) (r : ByteArray) (w : World) (h : postbagref08_Small.f a0 = some r) :
    Calls Try.prog 18 #[.string a0] w fun e w' => e = .returned (.string r) ∧ Below w.heap.size w w' := by
  unfold postbagref08_Small.f at h
  by_cases hs : a0.size ≤ 1000000
  case neg =>
    rw [if_neg hs] at h
    exact absurd h (by simp)
  rw [if_pos hs] at h
  have HR := Aside0.mk (Option.some.inj h)
  clear h
  have hcv := Lib.run_convert_string_bytes (P := Try.prog) w 9 33 5 a0 Try.underlying9 Try.underlying33 Try.underlying5
  obtain ⟨cap, hcap⟩ : ∃ c, c = grownCap w a0.size 0 5 := ⟨_, rfl⟩
  have hcs : a0.size ≤ cap := by rw [hcap]; exact grownCap_ge w _ _ _
  rw [← hcap] at hcv
  clear hcap
  have hrow := SRow.new w 5 a0 (by omega)
  have hbel : Below w.heap.size w (Lib.bytesWorld w 5 a0) := (Below.refl _ w).grown (bytes_grown w _ a0) (Nat.le_refl _) (fun k e => by cases e)
  obtain ⟨W1, hW1⟩ : ∃ x, x = Lib.bytesWorld w 5 a0 := ⟨_, rfl⟩
  rw [← hW1] at hcv hrow hbel
  clear hW1
  obtain ⟨xs, hxs⟩ : ∃ x, x = bytesOf a0 := ⟨_, rfl⟩
  have hlen : xs.length = a0.size := by rw [hxs, bytesOf_length]
  have hrange : ∀ k, k < xs.length → 0 ≤ xs.getD k 0 ∧ xs.getD k 0 ≤ 255 := fun k hk => by
    rw [List.getD_eq_getElem?_getD, List.getElem?_eq_getElem hk, Option.getD_some]
    exact bytesOf_range a0 _ (by rw [← hxs]; exact List.getElem_mem hk)
  have hfin : strOfNums (smallL a0) = strOfNums (xs.map lowI) := by rw [smallL_eq, ← hxs]
  rw [← hxs] at hrow
  have HX := Aside0.mk hfin
  have HN := Aside0.mk hrange
  have HW := Aside0.mk hrow
  have HB := Aside0.mk hbel
  have HL := Aside0.mk hlen
  have hle : (a0.size : Int) ≤ 1000000 := by omega
  clear hfin hrange hrow hbel hlen hxs hs
  go_enter Try.func18, Try.ntmps18
  go_wp2
  go_loopw [9] (fun i wr => ∃ k : Nat, k ≤ a0.size ∧ i = .int .i64 k ∧ Aside0 (SRow (Value.int .u8) 0 wr 5 w.heap.size ((xs.take k).map lowI ++ xs.drop k)) ∧ Aside0 (Below w.heap.size w wr)) (fun i _ => a0.size - (intOf i).toNat)
  case atStart => exact ⟨0, Nat.zero_le _, rfl, ⟨by simpa using HW.out⟩, HB⟩
  case round =>
    clear HW HB
    obtain ⟨k, hk, rfl, HW, HB⟩ := hrel
    by_cases hlt : k < a0.size
    · have hx : k < xs.length := by rw [HL.out]; exact hlt
      have hcell := HW.out.cell k (by rw [sm_len]; exact hx)
      have hfree := HW.out.free k (by rw [sm_len]; exact hx)
      have hb0 := HN.out k hx
      have hset := HW.out.set k (by rw [sm_len]; exact hx) (lowI (xs.getD k 0))
      rw [sm_at xs k hx] at hcell
      rw [sm_step xs k hx] at hset
      have HS := Aside0.mk hset
      have HBS := Aside0.mk (show Below w.heap.size w (wr.setCell ⟨w.heap.size, k, none⟩ (.int .u8 (lowI (xs.getD k 0)))) from HB.out.setCell (Nat.le_refl _) _)
      have hsame : ¬ (65 ≤ xs.getD k 0 ∧ xs.getD k 0 ≤ 90) → (xs.take k).map lowI ++ xs.drop k = (xs.take (k + 1)).map lowI ++ xs.drop (k + 1) := fun hn => by
        rw [← sm_step xs k hx, lowI, if_neg hn, ← sm_at xs k hx]
        have hl : k < ((xs.take k).map lowI ++ xs.drop k).length := by rw [sm_len]; exact hx
        rw [List.getD_eq_getElem?_getD, List.getElem?_eq_getElem hl, Option.getD_some, List.set_getElem_self]
      have HE := Aside0.mk hsame
      have t1 : decide (k < a0.size) = true := decide_eq_true hlt
      have t2 : decide ((k : Int) < (a0.size : Int)) = true := decide_eq_true (by omega)
      clear hset hx hsame
      obtain ⟨c, hc⟩ : ∃ c, c = xs.getD k 0 := ⟨_, rfl⟩
      rw [← hc] at hcell hb0 HS HBS HE
      clear hc
      by_cases hu1 : 65 ≤ c
      · by_cases hu2 : c ≤ 90
        · have el : lowI c = c + 32 := if_pos ⟨hu1, hu2⟩
          rw [el] at HS HBS
          clear el HE
          go_wp2
          go_roundw
          case rel => exact ⟨k + 1, by omega, by go_num, HS, HBS⟩
          case measure => simp [intOf]; omega
        · go_wp2
          go_roundw
          case rel => exact ⟨k + 1, by omega, by go_num, by rw [← HE.out (fun h => hu2 h.2)]; exact HW, HB⟩
          case measure => simp [intOf]; omega
      · go_wp2
        go_roundw
        case rel => exact ⟨k + 1, by omega, by go_num, by rw [← HE.out (fun h => hu1 h.1)]; exact HW, HB⟩
        case measure => simp [intOf]; omega
    · have hks : k = a0.size := by omega
      subst hks
      have t1 : decide (a0.size < a0.size) = false := decide_eq_false (Nat.lt_irrefl _)
      have hC := HW.out.C (h1 := fun _ => rfl)
      rw [List.take_of_length_le (by rw [HL.out]; exact Nat.le_refl _), List.drop_of_length_le (by rw [HL.out]; exact Nat.le_refl _), List.append_nil, List.length_map, HL.out] at hC
      have hcv2 := Kd.C_string (P := Try.prog) (c := cap) Try.underlying33 Try.underlying5 Try.underlying9 hC
      have HB2 := HB
      clear hC HW hlt
      go_wp2
      go_ret
      exact ⟨by rw [← HR.out, HX.out]; rfl, HB2.out⟩
end

end Go.Proofs.Ythlofokgbogndab.GBoxes
