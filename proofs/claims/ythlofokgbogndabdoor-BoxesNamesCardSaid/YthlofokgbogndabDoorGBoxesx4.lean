/- Written by a program of mine (wip/tools/mkprint.py turns the kit's print; given contracts by hand). Lean checks it. -/
import Derived.Test.YthlofokgbogndabDoorGBoxesx0
import Derived.Test.YthlofokgbogndabDoorGBoxesx3
namespace Go.Proofs.YthlofokgbogndabDoor.GBoxes
open Go.RowKit Go.Proofs.YthlofokgbogndabDoorW.PrintWords Go.Proofs.YthlofokgbogndabDoorW.PrintLast Go.Proofs.YthlofokgbogndabDoorW.PrintMore
attribute [local go_sem] max2_int min2_int max_two min_two max_three min_three max_four min_four   -- for this text's walks alone
set_option linter.unusedVariables false
set_option linter.unusedSimpArgs false

/-! ### postbagref13_plain: function 20 -/
mutual
def postbagref13_plain.j0 : Nat → Int → Bool → Bool → Option (Bool)
  | 0, _, _, _ => none
  | k + 1, x0, x1, x10 => if x10 = true then (some false) else (if x0 = 40 then (postbagref13_plain.j1 k x1 x0 (x0 == 40)) else (if x0 = 41 then (postbagref13_plain.j1 k x1 x0 (x0 == 41)) else (if x0 = 123 then (postbagref13_plain.j1 k x1 x0 (x0 == 123)) else (if x0 = 34 then (postbagref13_plain.j1 k x1 x0 (x0 == 34)) else (postbagref13_plain.j1 k x1 x0 (x0 == 92))))))
def postbagref13_plain.j1 : Nat → Bool → Int → Bool → Option (Bool)
  | 0, _, _, _ => none
  | k + 1, x1, x11, x12 => if x12 = true then (some false) else (if x11 = 37 then (some x1) else (if x11 = 42 then (some x1) else (some true)))
end
def postbagref13_plain.f (k : Nat) (a0 : Int) (a1 : Bool) : Option (Bool) := if a0 < 33 then (postbagref13_plain.j0 k a0 a1 true) else (postbagref13_plain.j0 k a0 a1 (decide (a0 > 126)))
theorem postbagref13_plain.mono_l : ∀ k, (∀ y0 y1 y2, LeO (postbagref13_plain.j0 k y0 y1 y2) (postbagref13_plain.j0 (k + 1) y0 y1 y2)) ∧ (∀ y0 y1 y2, LeO (postbagref13_plain.j1 k y0 y1 y2) (postbagref13_plain.j1 (k + 1) y0 y1 y2))
  | 0 => ⟨fun _ _ _ r h => by simp [postbagref13_plain.j0] at h, fun _ _ _ r h => by simp [postbagref13_plain.j1] at h⟩
  | k + 1 => by
    obtain ⟨ih0, ih1⟩ := postbagref13_plain.mono_l k
    refine ⟨?_, ?_⟩
    · intro y0 y1 y2
      unfold postbagref13_plain.j0
      repeat' first
      | (with_reducible exact ih0 _ _ _)
      | (with_reducible exact ih1 _ _ _)
      | (with_reducible exact LeO.refl _)
      | (with_reducible exact LeO.none _)
      | (with_reducible refine LeO.ite ?_ ?_)
      | (with_reducible refine LeO.bind ?_ (fun _ => ?_))
      | exact ih0 _ _ _
      | exact ih1 _ _ _
      | exact LeO.none _
      | refine LeO.ite ?_ ?_
      | refine LeO.bind ?_ (fun _ => ?_)
    · intro y0 y1 y2
      unfold postbagref13_plain.j1
      repeat' first
      | (with_reducible exact ih0 _ _ _)
      | (with_reducible exact ih1 _ _ _)
      | (with_reducible exact LeO.refl _)
      | (with_reducible exact LeO.none _)
      | (with_reducible refine LeO.ite ?_ ?_)
      | (with_reducible refine LeO.bind ?_ (fun _ => ?_))
      | exact ih0 _ _ _
      | exact ih1 _ _ _
      | exact LeO.none _
      | refine LeO.ite ?_ ?_
      | refine LeO.bind ?_ (fun _ => ?_)
theorem postbagref13_plain.mono : ∀ a0 a1 k, LeO (postbagref13_plain.f k a0 a1) (postbagref13_plain.f (k + 1) a0 a1) := by
  intro a0 a1 k
  obtain ⟨ih0, ih1⟩ := postbagref13_plain.mono_l k
  unfold postbagref13_plain.f
  repeat' first
      | (with_reducible exact ih0 _ _ _)
      | (with_reducible exact ih1 _ _ _)
      | (with_reducible exact LeO.refl _)
      | (with_reducible exact LeO.none _)
      | (with_reducible refine LeO.ite ?_ ?_)
      | (with_reducible refine LeO.bind ?_ (fun _ => ?_))
      | exact ih0 _ _ _
      | exact ih1 _ _ _
      | exact LeO.none _
      | refine LeO.ite ?_ ?_
      | refine LeO.bind ?_ (fun _ => ?_)
set_option maxHeartbeats 8000000 in
set_option maxRecDepth 100000 in
theorem postbagref13_plain.calls (k : Nat) (a0 : Int) (a1 : Bool) (r : Bool) (w : World) (h : postbagref13_plain.f k a0 a1 = some r) :
    Calls Tryd.prog 20 #[.int .u8 a0, .bool a1] w fun e w' => e = .returned (.bool r) ∧ Drawn0 w w' := by
  have H : (if a0 < 33 then (postbagref13_plain.j0 k a0 a1 true) else (postbagref13_plain.j0 k a0 a1 (decide (a0 > 126)))) = some r := h
  clear h
  have HC3 := Aside0.mk H
  clear H
  go_enter Tryd.func20, Tryd.ntmps20
  go_upto_region 1 with (fail)
  go_cut [10] (fun v10 wc => ∃ (kq : Nat) (x10_2 : Bool), v10 = .bool x10_2 ∧ Aside0 (postbagref13_plain.j0 kq a0 a1 x10_2 = some r) ∧ Aside0 (kq ≤ k) ∧ Drawn0 w wc)
  case first =>
    have H := HC3.out
    clear HC3
    by_cases c4 : a0 < 33
    · rw [if_pos c4] at H
      have c4b0 : decide (a0 < 33) = true := decide_eq_true c4
      clear c4
      (first | rw [c4b0] | (simp only [i64_w, i32_w]; rw [c4b0]) | skip)
      have H' := Aside0.mk H
      clear H
      go_wp2
      go_meet
      case rel => exact ⟨_, (true), (by first | rfl | (simp; done) | (simp [*]; done)), H', ⟨by first | omega | exact Nat.le_refl _⟩, by repeat (first | exact Drawn0.refl _ | apply Drawn0.step)⟩
    · rw [if_neg c4] at H
      have c4b0 : decide (a0 < 33) = false := decide_eq_false c4
      clear c4
      (first | rw [c4b0] | (simp only [i64_w, i32_w]; rw [c4b0]) | skip)
      have H' := Aside0.mk H
      clear H
      go_wp2
      go_meet
      case rel => exact ⟨_, (decide (a0 > 126)), (by first | rfl | (simp; done) | (simp [*]; done)), H', ⟨by first | omega | exact Nat.le_refl _⟩, by repeat (first | exact Drawn0.refl _ | apply Drawn0.step)⟩
  case rest =>
    clear HC3
    try clear c2
    try clear p2
    try clear c4
    try clear c4b0
    obtain ⟨kq, x10_2, rfl, HA, HJ2, ⟨mc2, rfl⟩⟩ := hcut
    cases kq with
    | zero => exact absurd HA.out (by simp [postbagref13_plain.j0])
    | succ kj2 =>
      have H := HA.out
      clear HA
      simp only [postbagref13_plain.j0] at H
      by_cases c5 : x10_2 = true
      · subst c5
        have H1 : (some false) = some r := by rw [if_pos rfl] at H; exact H
        clear H
        have H := H1
        clear H1
        obtain rfl := Option.some.inj H
        go_wp2
        go_ret
        exact ⟨by first | rfl | (simp; done) | (simp [*]; done) | (simp [Go.Proofs.YthlofokgbogndabDoorW.SRows.bne_nil_]; done), by repeat (first | exact Drawn0.refl _ | apply Drawn0.step)⟩
      · replace c5 := Bool.eq_false_iff.mpr c5
        subst c5
        have H1 : (if a0 = 40 then (postbagref13_plain.j1 kj2 a1 a0 (a0 == 40)) else (if a0 = 41 then (postbagref13_plain.j1 kj2 a1 a0 (a0 == 41)) else (if a0 = 123 then (postbagref13_plain.j1 kj2 a1 a0 (a0 == 123)) else (if a0 = 34 then (postbagref13_plain.j1 kj2 a1 a0 (a0 == 34)) else (postbagref13_plain.j1 kj2 a1 a0 (a0 == 92)))))) = some r := by rw [if_neg (show ¬ (false = true) by decide)] at H; exact H
        clear H
        have H := H1
        clear H1
        have HC6 := Aside0.mk H
        clear H
        go_upto_if 12 with (fail)
        go_cut [12] (fun v12 wc => ∃ (kq : Nat) (x12_5 : Bool), v12 = .bool x12_5 ∧ Aside0 (postbagref13_plain.j1 kq a1 a0 x12_5 = some r) ∧ Aside0 (kq ≤ kj2) ∧ Drawn0 w wc)
        case first =>
          have H := HC6.out
          clear HC6
          by_cases c7 : a0 = 40
          · rw [if_pos c7] at H
            have c7b0 : (a0 == 40) = true := beq_iff_eq.mpr c7
            have c7b1 : (a0 != 40) = false := bne_eq_false_iff_eq.mpr c7
            clear c7
            (first | rw [c7b0] | (simp only [i64_w, i32_w]; rw [c7b0]) | skip)
            have H' := Aside0.mk H
            clear H
            go_wp2
            go_meet
            case rel => exact ⟨_, ((a0 == 40)), (by first | rfl | (simp; done) | (simp [*]; done)), H', ⟨by have := HJ2.out; first | omega | exact Nat.le_refl _⟩, by repeat (first | exact Drawn0.refl _ | apply Drawn0.step)⟩
          · rw [if_neg c7] at H
            have c7b0 : (a0 == 40) = false := beq_eq_false_iff_ne.mpr c7
            have c7b1 : (a0 != 40) = true := bne_iff_ne.mpr c7
            (first | rw [c7b0] | (simp only [i64_w, i32_w]; rw [c7b0]) | skip)
            by_cases c8 : a0 = 41
            · rw [if_pos c8] at H
              have c8b0 : (a0 == 41) = true := beq_iff_eq.mpr c8
              have c8b1 : (a0 != 41) = false := bne_eq_false_iff_eq.mpr c8
              clear c8
              have H' := Aside0.mk H
              clear H
              go_wp2
              go_meet
              case rel => exact ⟨_, ((a0 == 41)), (by first | rfl | (simp; done) | (simp [*]; done)), H', ⟨by have := HJ2.out; first | omega | exact Nat.le_refl _⟩, by repeat (first | exact Drawn0.refl _ | apply Drawn0.step)⟩
            · rw [if_neg c8] at H
              have c8b0 : (a0 == 41) = false := beq_eq_false_iff_ne.mpr c8
              have c8b1 : (a0 != 41) = true := bne_iff_ne.mpr c8
              by_cases c9 : a0 = 123
              · rw [if_pos c9] at H
                have c9b0 : (a0 == 123) = true := beq_iff_eq.mpr c9
                have c9b1 : (a0 != 123) = false := bne_eq_false_iff_eq.mpr c9
                clear c9
                have H' := Aside0.mk H
                clear H
                go_wp2
                go_meet
                case rel => exact ⟨_, ((a0 == 123)), (by first | rfl | (simp; done) | (simp [*]; done)), H', ⟨by have := HJ2.out; first | omega | exact Nat.le_refl _⟩, by repeat (first | exact Drawn0.refl _ | apply Drawn0.step)⟩
              · rw [if_neg c9] at H
                have c9b0 : (a0 == 123) = false := beq_eq_false_iff_ne.mpr c9
                have c9b1 : (a0 != 123) = true := bne_iff_ne.mpr c9
                by_cases c10 : a0 = 34
                · rw [if_pos c10] at H
                  have c10b0 : (a0 == 34) = true := beq_iff_eq.mpr c10
                  have c10b1 : (a0 != 34) = false := bne_eq_false_iff_eq.mpr c10
                  clear c10
                  have H' := Aside0.mk H
                  clear H
                  go_wp2
                  go_meet
                  case rel => exact ⟨_, ((a0 == 34)), (by first | rfl | (simp; done) | (simp [*]; done)), H', ⟨by have := HJ2.out; first | omega | exact Nat.le_refl _⟩, by repeat (first | exact Drawn0.refl _ | apply Drawn0.step)⟩
                · rw [if_neg c10] at H
                  have c10b0 : (a0 == 34) = false := beq_eq_false_iff_ne.mpr c10
                  have c10b1 : (a0 != 34) = true := bne_iff_ne.mpr c10
                  have H' := Aside0.mk H
                  clear H
                  go_wp2
                  go_meet
                  case rel => exact ⟨_, ((a0 == 92)), (by first | rfl | (simp; done) | (simp [*]; done)), H', ⟨by have := HJ2.out; first | omega | exact Nat.le_refl _⟩, by repeat (first | exact Drawn0.refl _ | apply Drawn0.step)⟩
        case rest =>
          clear HC6
          try clear c1
          try clear c2
          try clear p2
          try clear c4
          try clear c4b0
          try clear c5
          try clear c7
          try clear c7b0
          try clear c7b1
          try clear c8
          try clear c8b0
          try clear c8b1
          try clear c9
          try clear c9b0
          try clear c9b1
          try clear c10
          try clear c10b0
          try clear c10b1
          try clear p2
          obtain ⟨kq, x12_5, rfl, HA, HJ5, ⟨mc5, rfl⟩⟩ := hcut
          cases kq with
          | zero => exact absurd HA.out (by simp [postbagref13_plain.j1])
          | succ kj5 =>
            have H := HA.out
            clear HA
            simp only [postbagref13_plain.j1] at H
            by_cases c11 : x12_5 = true
            · subst c11
              have H1 : (some false) = some r := by rw [if_pos rfl] at H; exact H
              clear H
              have H := H1
              clear H1
              obtain rfl := Option.some.inj H
              go_wp2
              go_ret
              exact ⟨by first | rfl | (simp; done) | (simp [*]; done) | (simp [Go.Proofs.YthlofokgbogndabDoorW.SRows.bne_nil_]; done), by repeat (first | exact Drawn0.refl _ | apply Drawn0.step)⟩
            · replace c11 := Bool.eq_false_iff.mpr c11
              subst c11
              have H1 : (if a0 = 37 then (some a1) else (if a0 = 42 then (some a1) else (some true))) = some r := by rw [if_neg (show ¬ (false = true) by decide)] at H; exact H
              clear H
              have H := H1
              clear H1
              by_cases c12 : a0 = 37
              · rw [if_pos c12] at H
                have c12b0 : (a0 == 37) = true := beq_iff_eq.mpr c12
                have c12b1 : (a0 != 37) = false := bne_eq_false_iff_eq.mpr c12
                clear c12
                obtain rfl := Option.some.inj H
                go_wp2
                go_ret
                exact ⟨by first | rfl | (simp; done) | (simp [*]; done) | (simp [Go.Proofs.YthlofokgbogndabDoorW.SRows.bne_nil_]; done), by repeat (first | exact Drawn0.refl _ | apply Drawn0.step)⟩
              · rw [if_neg c12] at H
                have c12b0 : (a0 == 37) = false := beq_eq_false_iff_ne.mpr c12
                have c12b1 : (a0 != 37) = true := bne_iff_ne.mpr c12
                by_cases c13 : a0 = 42
                · rw [if_pos c13] at H
                  have c13b0 : (a0 == 42) = true := beq_iff_eq.mpr c13
                  have c13b1 : (a0 != 42) = false := bne_eq_false_iff_eq.mpr c13
                  clear c13
                  obtain rfl := Option.some.inj H
                  go_wp2
                  go_ret
                  exact ⟨by first | rfl | (simp; done) | (simp [*]; done) | (simp [Go.Proofs.YthlofokgbogndabDoorW.SRows.bne_nil_]; done), by repeat (first | exact Drawn0.refl _ | apply Drawn0.step)⟩
                · rw [if_neg c13] at H
                  have c13b0 : (a0 == 42) = false := beq_eq_false_iff_ne.mpr c13
                  have c13b1 : (a0 != 42) = true := bne_iff_ne.mpr c13
                  obtain rfl := Option.some.inj H
                  go_wp2
                  go_ret
                  exact ⟨by first | rfl | (simp; done) | (simp [*]; done) | (simp [Go.Proofs.YthlofokgbogndabDoorW.SRows.bne_nil_]; done), by repeat (first | exact Drawn0.refl _ | apply Drawn0.step)⟩

/-! ### postbagref08_Small: function 21 -/
section
open Go.Maps Go.Shelf Go.Proofs.YthlofokgbogndabDoorW.SRows
def postbagref08_Small.f (s : ByteArray) : Option ByteArray := if s.size ≤ 1000000 then some (strOfNums (smallL s)) else none
theorem sm_step (xs : List Int) (k : Nat) (hk : k < xs.length) : ((xs.take k).map lowI ++ xs.drop k).set k (lowI (xs.getD k 0)) = (xs.take (k + 1)).map lowI ++ xs.drop (k + 1) := by
  rw [List.take_add_one, List.getElem?_eq_getElem hk, List.drop_eq_getElem_cons hk, List.getD_eq_getElem?_getD, List.getElem?_eq_getElem hk]
  have : ((xs.take k).map lowI).length = k := by simp; omega
  rw [List.set_append_right _ _ (by omega), this]
  simp only [Nat.sub_self, List.set_cons_zero, List.map_append, Option.toList_some, List.map_cons, List.map_nil, List.append_assoc, List.singleton_append, Option.getD_some]
theorem sm_at (xs : List Int) (k : Nat) (hk : k < xs.length) : ((xs.take k).map lowI ++ xs.drop k).getD k 0 = xs.getD k 0 := by
  have : ((xs.take k).map lowI).length = k := by simp; omega
  rw [List.getD_eq_getElem?_getD, List.getD_eq_getElem?_getD, List.getElem?_append_right (by omega), this, Nat.sub_self, List.getElem?_drop, Nat.add_zero]
theorem sm_len (xs : List Int) (k : Nat) : ((xs.take k).map lowI ++ xs.drop k).length = xs.length := by simp; omega
set_option maxHeartbeats 2000000 in
theorem postbagref08_Small.calls (a0 : ByteArray) (r : ByteArray) (w : World) (h : postbagref08_Small.f a0 = some r) :
    Calls Tryd.prog 21 #[.string a0] w fun e w' => e = .returned (.string r) ∧ Below w.heap.size w w' := by
  unfold postbagref08_Small.f at h
  by_cases hs : a0.size ≤ 1000000
  case neg =>
    rw [if_neg hs] at h
    exact absurd h (by simp)
  rw [if_pos hs] at h
  have HR := Aside0.mk (Option.some.inj h)
  clear h
  have hcv := Lib.run_convert_string_bytes (P := Tryd.prog) w 9 43 5 a0 Tryd.underlying9 Tryd.underlying43 Tryd.underlying5
  obtain ⟨cap, hcap⟩ : ∃ c, c = grownCap w a0.size 0 5 := ⟨_, rfl⟩
  have hcs : a0.size ≤ cap := by rw [hcap]; exact grownCap_ge w _ _ _
  rw [← hcap] at hcv
  clear hcap
  have hrow := SRow.new w 5 a0 (by omega)
  have hbel : Below w.heap.size w (Lib.bytesWorld w 5 a0) := (Below.refl _ w).grown (bytes_grown w _ a0) (Nat.le_refl _) (fun k e => by cases e)
  obtain ⟨W1, hW1⟩ : ∃ x, x = Lib.bytesWorld w 5 a0 := ⟨_, rfl⟩
  rw [← hW1] at hcv hrow hbel
  clear hW1
  obtain ⟨xs, hxs⟩ : ∃ x, x = bytesOf a0 := ⟨_, rfl⟩
  have hlen : xs.length = a0.size := by rw [hxs, bytesOf_length]
  have hrange : ∀ k, k < xs.length → 0 ≤ xs.getD k 0 ∧ xs.getD k 0 ≤ 255 := fun k hk => by
    rw [List.getD_eq_getElem?_getD, List.getElem?_eq_getElem hk, Option.getD_some]
    exact bytesOf_range a0 _ (by rw [← hxs]; exact List.getElem_mem hk)
  have hfin : strOfNums (smallL a0) = strOfNums (xs.map lowI) := by rw [smallL_eq, ← hxs]
  rw [← hxs] at hrow
  have HX := Aside0.mk hfin
  have HN := Aside0.mk hrange
  have HW := Aside0.mk hrow
  have HB := Aside0.mk hbel
  have HL := Aside0.mk hlen
  have hle : (a0.size : Int) ≤ 1000000 := by omega
  clear hfin hrange hrow hbel hlen hxs hs
  go_enter Tryd.func21, Tryd.ntmps21
  go_wp2
  go_loopw [9] (fun i wr => ∃ k : Nat, k ≤ a0.size ∧ i = .int .i64 k ∧ Aside0 (SRow (Value.int .u8) 0 wr 5 w.heap.size ((xs.take k).map lowI ++ xs.drop k)) ∧ Aside0 (Below w.heap.size w wr)) (fun i _ => a0.size - (intOf i).toNat)
  case atStart => exact ⟨0, Nat.zero_le _, rfl, ⟨by simpa using HW.out⟩, HB⟩
  case round =>
    clear HW HB
    obtain ⟨k, hk, rfl, HW, HB⟩ := hrel
    by_cases hlt : k < a0.size
    · have hx : k < xs.length := by rw [HL.out]; exact hlt
      have hcell := HW.out.cell k (by rw [sm_len]; exact hx)
      have hfree := HW.out.free k (by rw [sm_len]; exact hx)
      have hb0 := HN.out k hx
      have hset := HW.out.set k (by rw [sm_len]; exact hx) (lowI (xs.getD k 0))
      rw [sm_at xs k hx] at hcell
      rw [sm_step xs k hx] at hset
      have HS := Aside0.mk hset
      have HBS := Aside0.mk (show Below w.heap.size w (wr.setCell ⟨w.heap.size, k, none⟩ (.int .u8 (lowI (xs.getD k 0)))) from HB.out.setCell (Nat.le_refl _) _)
      have hsame : ¬ (65 ≤ xs.getD k 0 ∧ xs.getD k 0 ≤ 90) → (xs.take k).map lowI ++ xs.drop k = (xs.take (k + 1)).map lowI ++ xs.drop (k + 1) := fun hn => by
        rw [← sm_step xs k hx, lowI, if_neg hn, ← sm_at xs k hx]
        have hl : k < ((xs.take k).map lowI ++ xs.drop k).length := by rw [sm_len]; exact hx
        rw [List.getD_eq_getElem?_getD, List.getElem?_eq_getElem hl, Option.getD_some, List.set_getElem_self]
      have HE := Aside0.mk hsame
      have t1 : decide (k < a0.size) = true := decide_eq_true hlt
      have t2 : decide ((k : Int) < (a0.size : Int)) = true := decide_eq_true (by omega)
      clear hset hx hsame
      obtain ⟨c, hc⟩ : ∃ c, c = xs.getD k 0 := ⟨_, rfl⟩
      rw [← hc] at hcell hb0 HS HBS HE
      clear hc
      by_cases hu1 : 65 ≤ c
      · by_cases hu2 : c ≤ 90
        · have el : lowI c = c + 32 := if_pos ⟨hu1, hu2⟩
          rw [el] at HS HBS
          clear el HE
          go_wp2
          go_roundw
          case rel => exact ⟨k + 1, by omega, by go_num, HS, HBS⟩
          case measure => simp [intOf]; omega
        · go_wp2
          go_roundw
          case rel => exact ⟨k + 1, by omega, by go_num, by rw [← HE.out (fun h => hu2 h.2)]; exact HW, HB⟩
          case measure => simp [intOf]; omega
      · go_wp2
        go_roundw
        case rel => exact ⟨k + 1, by omega, by go_num, by rw [← HE.out (fun h => hu1 h.1)]; exact HW, HB⟩
        case measure => simp [intOf]; omega
    · have hks : k = a0.size := by omega
      subst hks
      have t1 : decide (a0.size < a0.size) = false := decide_eq_false (Nat.lt_irrefl _)
      have hC := HW.out.C (h1 := fun _ => rfl)
      rw [List.take_of_length_le (by rw [HL.out]; exact Nat.le_refl _), List.drop_of_length_le (by rw [HL.out]; exact Nat.le_refl _), List.append_nil, List.length_map, HL.out] at hC
      have hcv2 := Kd.C_string (P := Tryd.prog) (c := cap) Tryd.underlying43 Tryd.underlying5 Tryd.underlying9 hC
      have HB2 := HB
      clear hC HW hlt
      go_wp2
      go_ret
      exact ⟨by rw [← HR.out, HX.out]; rfl, HB2.out⟩
end

/-! ### postbagref13_Name: function 10 -/
mutual
def postbagref13_Name.j0 : Nat → ByteArray → Bool → Option (ByteArray × Bool)
  | 0, _, _ => none
  | k + 1, x0, x25 => if x25 = true then (some ((⟨#[]⟩ : ByteArray), false)) else (postbagref13_Name.l0 k x0 0)
def postbagref13_Name.l0 : Nat → ByteArray → Int → Option (ByteArray × Bool)
  | 0, _, _ => none
  | k + 1, x0, x4 => if x4 < (x0.size : Int) then (if 0 ≤ x4 then ((postbagref13_plain.f k (bt x0 x4) false).bind fun t133 => (if t133 = true then (if (bt x0 x4) = 47 then (if 0 ≤ (wrap64 (x4 - 1)) then (if (wrap64 (x4 - 1)) < (x0.size : Int) then (if (bt x0 (wrap64 (x4 - 1))) = 47 then (some ((⟨#[]⟩ : ByteArray), false)) else (postbagref13_Name.l0 k x0 (wrap64 (x4 + 1)))) else (none)) else (none)) else (postbagref13_Name.l0 k x0 (wrap64 (x4 + 1)))) else (some ((⟨#[]⟩ : ByteArray), false)))) else (none)) else ((postbagref08_Small.f x0).bind fun t134 => (if t134.toList = ([105, 110, 98, 111, 120] : List UInt8) then (some ((⟨#[73, 78, 66, 79, 88]⟩ : ByteArray), true)) else (some (x0, true))))
end
def postbagref13_Name.f (k : Nat) (a0 : ByteArray) : Option (ByteArray × Bool) := if (a0.size : Int) < 1 then (postbagref13_Name.j0 k a0 true) else (if (a0.size : Int) > 60 then (postbagref13_Name.j0 k a0 true) else (if 0 < (a0.size : Int) then (if (bt a0 0) = 47 then (postbagref13_Name.j0 k a0 true) else (if 0 ≤ (wrap64 ((a0.size : Int) - 1)) then (if (wrap64 ((a0.size : Int) - 1)) < (a0.size : Int) then (postbagref13_Name.j0 k a0 ((bt a0 (wrap64 ((a0.size : Int) - 1))) == 47)) else (none)) else (none))) else (none)))
theorem postbagref13_Name.mono_l : ∀ k, (∀ y0 y1, LeO (postbagref13_Name.j0 k y0 y1) (postbagref13_Name.j0 (k + 1) y0 y1)) ∧ (∀ y0 y1, LeO (postbagref13_Name.l0 k y0 y1) (postbagref13_Name.l0 (k + 1) y0 y1))
  | 0 => ⟨fun _ _ r h => by simp [postbagref13_Name.j0] at h, fun _ _ r h => by simp [postbagref13_Name.l0] at h⟩
  | k + 1 => by
    obtain ⟨ih0, ih1⟩ := postbagref13_Name.mono_l k
    refine ⟨?_, ?_⟩
    · intro y0 y1
      unfold postbagref13_Name.j0
      repeat' first
      | (with_reducible exact ih0 _ _)
      | (with_reducible exact ih1 _ _)
      | (with_reducible exact postbagref13_plain.mono _ _ _)
      | (with_reducible exact LeO.refl _)
      | (with_reducible exact LeO.none _)
      | (with_reducible refine LeO.ite ?_ ?_)
      | (with_reducible refine LeO.bind ?_ (fun _ => ?_))
      | exact ih0 _ _
      | exact ih1 _ _
      | exact postbagref13_plain.mono _ _ _
      | exact LeO.none _
      | refine LeO.ite ?_ ?_
      | refine LeO.bind ?_ (fun _ => ?_)
    · intro y0 y1
      unfold postbagref13_Name.l0
      repeat' first
      | (with_reducible exact ih0 _ _)
      | (with_reducible exact ih1 _ _)
      | (with_reducible exact postbagref13_plain.mono _ _ _)
      | (with_reducible exact LeO.refl _)
      | (with_reducible exact LeO.none _)
      | (with_reducible refine LeO.ite ?_ ?_)
      | (with_reducible refine LeO.bind ?_ (fun _ => ?_))
      | exact ih0 _ _
      | exact ih1 _ _
      | exact postbagref13_plain.mono _ _ _
      | exact LeO.none _
      | refine LeO.ite ?_ ?_
      | refine LeO.bind ?_ (fun _ => ?_)
theorem postbagref13_Name.mono : ∀ a0 k, LeO (postbagref13_Name.f k a0) (postbagref13_Name.f (k + 1) a0) := by
  intro a0 k
  obtain ⟨ih0, ih1⟩ := postbagref13_Name.mono_l k
  unfold postbagref13_Name.f
  repeat' first
      | (with_reducible exact ih0 _ _)
      | (with_reducible exact ih1 _ _)
      | (with_reducible exact postbagref13_plain.mono _ _ _)
      | (with_reducible exact LeO.refl _)
      | (with_reducible exact LeO.none _)
      | (with_reducible refine LeO.ite ?_ ?_)
      | (with_reducible refine LeO.bind ?_ (fun _ => ?_))
      | exact ih0 _ _
      | exact ih1 _ _
      | exact postbagref13_plain.mono _ _ _
      | exact LeO.none _
      | refine LeO.ite ?_ ?_
      | refine LeO.bind ?_ (fun _ => ?_)
set_option maxHeartbeats 8000000 in
set_option maxRecDepth 100000 in
theorem postbagref13_Name.calls (k : Nat) (a0 : ByteArray) (r1 : ByteArray) (r2 : Bool) (w : World) (h : postbagref13_Name.f k a0 = some (r1, r2)) :
    Calls Tryd.prog 10 #[.string a0] w fun e w' => e = .returned (.tuple #[.string r1, .bool r2]) ∧ Below w.heap.size w w' := by
  have HB := Aside0.mk (Below.refl w.heap.size w)
  have H : (if (a0.size : Int) < 1 then (postbagref13_Name.j0 k a0 true) else (if (a0.size : Int) > 60 then (postbagref13_Name.j0 k a0 true) else (if 0 < (a0.size : Int) then (if (bt a0 0) = 47 then (postbagref13_Name.j0 k a0 true) else (if 0 ≤ (wrap64 ((a0.size : Int) - 1)) then (if (wrap64 ((a0.size : Int) - 1)) < (a0.size : Int) then (postbagref13_Name.j0 k a0 ((bt a0 (wrap64 ((a0.size : Int) - 1))) == 47)) else (none)) else (none))) else (none)))) = some (r1, r2) := h
  clear h
  have HC2 := Aside0.mk H
  clear H
  go_enter Tryd.func10, Tryd.ntmps10
  go_upto_region 1 with (fail)
  go_cut [25] (fun v25 wc => ∃ (kq : Nat) (x25_1 : Bool), v25 = .bool x25_1 ∧ Aside0 (postbagref13_Name.j0 kq a0 x25_1 = some (r1, r2)) ∧ Aside0 (kq ≤ k) ∧ Aside0 (Below w.heap.size w wc))
  case first =>
    have H := HC2.out
    clear HC2
    by_cases c3 : (a0.size : Int) < 1
    · rw [if_pos c3] at H
      have c3b0 : decide ((a0.size : Int) < 1) = true := decide_eq_true c3
      have c3b1 : decide (a0.size < 1) = true := decide_eq_true (by omega)
      clear c3
      (first | rw [c3b0] | (simp only [i64_w, i32_w]; rw [c3b0]) | skip)
      have H' := Aside0.mk H
      clear H
      go_wp2
      go_meet
      case rel => exact ⟨_, (true), (by first | rfl | (simp; done) | (simp [*]; done)), H', ⟨by first | omega | exact Nat.le_refl _⟩, ⟨by repeat (first | (with_reducible first | exact HB.out | apply below_alloc | apply pw_below_drewN | apply below_drew1) | exact HB.out | exact Below.refl _ _)⟩⟩
    · rw [if_neg c3] at H
      have c3b0 : decide ((a0.size : Int) < 1) = false := decide_eq_false c3
      have c3b1 : decide (a0.size < 1) = false := decide_eq_false (by omega)
      clear c3
      (first | rw [c3b0] | (simp only [i64_w, i32_w]; rw [c3b0]) | skip)
      by_cases c4 : (a0.size : Int) > 60
      · rw [if_pos c4] at H
        have c4b0 : decide (60 < (a0.size : Int)) = true := decide_eq_true c4
        have c4b1 : decide (60 < a0.size) = true := decide_eq_true (by omega)
        clear c4
        have H' := Aside0.mk H
        clear H
        go_wp2
        go_meet
        case rel => exact ⟨_, (true), (by first | rfl | (simp; done) | (simp [*]; done)), H', ⟨by first | omega | exact Nat.le_refl _⟩, ⟨by repeat (first | (with_reducible first | exact HB.out | apply below_alloc | apply pw_below_drewN | apply below_drew1) | exact HB.out | exact Below.refl _ _)⟩⟩
      · rw [if_neg c4] at H
        have c4b0 : decide (60 < (a0.size : Int)) = false := decide_eq_false c4
        have c4b1 : decide (60 < a0.size) = false := decide_eq_false (by omega)
        clear c4
        by_cases c5 : 0 < (a0.size : Int)
        · rw [if_pos c5] at H
          have c5b0 : decide (0 < (a0.size : Int)) = true := decide_eq_true c5
          have c5b1 : decide (0 < a0.size) = true := decide_eq_true (by omega)
          clear c5
          by_cases c7 : (bt a0 0) = 47
          · rw [if_pos c7] at H
            have c7b0 : ((bt a0 0) == 47) = true := beq_iff_eq.mpr c7
            have c7b1 : ((bt a0 0) != 47) = false := bne_eq_false_iff_eq.mpr c7
            clear c7
            have H' := Aside0.mk H
            clear H
            have p6 : 0 ≤ (0 : Int) := (by omega)
            have q6 : 0 < a0.size := (by have : (0 : Int) < (a0.size : Int) := of_decide_eq_true (by first | (with_reducible assumption) | assumption); omega)
            have hx6 : ∀ h : 0 < a0.size, ((a0[0]'h).toNat : Int) = bt a0 0 := bt_at a0 0
            clear p6
            have qi6 : (0 < (a0.size : Int)) = True := eq_true (of_decide_eq_true (by first | (with_reducible assumption) | assumption))
            replace q6 := eq_true q6
            go_wp2
            go_meet
            case rel => exact ⟨_, (true), (by first | rfl | (simp; done) | (simp [*]; done)), H', ⟨by first | omega | exact Nat.le_refl _⟩, ⟨by repeat (first | (with_reducible first | exact HB.out | apply below_alloc | apply pw_below_drewN | apply below_drew1) | exact HB.out | exact Below.refl _ _)⟩⟩
          · rw [if_neg c7] at H
            have c7b0 : ((bt a0 0) == 47) = false := beq_eq_false_iff_ne.mpr c7
            have c7b1 : ((bt a0 0) != 47) = true := bne_iff_ne.mpr c7
            obtain ⟨ji8, hji8⟩ : ∃ j_ : Int, (wrap64 ((a0.size : Int) - 1)) = j_ := ⟨_, rfl⟩
            replace H : (if 0 ≤ (ji8) then (if (ji8) < (a0.size : Int) then (postbagref13_Name.j0 k a0 ((bt a0 (ji8)) == 47)) else (none)) else (none)) = some (r1, r2) := by first | (rw [hji8] at H; exact H) | (simp only [hji8] at H ⊢; exact H)
            have hji8w : (IntKind.i64.wrap ((a0.size : Int) - 1)) = ji8 := (i64_w _).trans hji8
            by_cases c9 : 0 ≤ (ji8)
            · rw [if_pos c9] at H
              have c9b0 : decide (0 ≤ (ji8)) = true := decide_eq_true c9
              clear c9
              by_cases c10 : (ji8) < (a0.size : Int)
              · rw [if_pos c10] at H
                have c10b0 : decide ((ji8) < (a0.size : Int)) = true := decide_eq_true c10
                clear c10
                have H' := Aside0.mk H
                clear H
                have p6 : 0 ≤ (0 : Int) := (by omega)
                have q6 : 0 < a0.size := (by have : (0 : Int) < (a0.size : Int) := of_decide_eq_true (by first | (with_reducible assumption) | assumption); omega)
                have hx6 : ∀ h : 0 < a0.size, ((a0[0]'h).toNat : Int) = bt a0 0 := bt_at a0 0
                clear p6
                have qi6 : (0 < (a0.size : Int)) = True := eq_true (of_decide_eq_true (by first | (with_reducible assumption) | assumption))
                replace q6 := eq_true q6
                have p11 : 0 ≤ ((ji8) : Int) := of_decide_eq_true (by first | (with_reducible assumption) | assumption)
                have q11 : (ji8) < (a0.size : Int) := of_decide_eq_true (by first | (with_reducible assumption) | assumption)
                have hx11 := bt_at a0 (ji8)
                replace p11 := eq_true p11
                replace q11 := eq_true q11
                go_wp2
                go_meet
                case rel => exact ⟨_, (((bt a0 (ji8)) == 47)), (by first | rfl | (simp; done) | (simp only [← hji8] <;> (first | rfl | simp)) | (simp [*]; done)), H', ⟨by first | omega | exact Nat.le_refl _⟩, ⟨by repeat (first | (with_reducible first | exact HB.out | apply below_alloc | apply pw_below_drewN | apply below_drew1) | exact HB.out | exact Below.refl _ _)⟩⟩
              · rw [if_neg c10] at H
                exact absurd H (by simp)
            · rw [if_neg c9] at H
              exact absurd H (by simp)
        · rw [if_neg c5] at H
          exact absurd H (by simp)
  case rest =>
    clear HC2
    try clear c1
    try clear p1
    try clear q1
    try clear hx1
    try clear p2
    try clear c3
    try clear c3b0
    try clear c3b1
    try clear c4
    try clear c4b0
    try clear c4b1
    try clear c5
    try clear c5b0
    try clear c5b1
    try clear p6
    try clear q6
    try clear hx6
    try clear qi6
    try clear c7
    try clear c7b0
    try clear c7b1
    try clear c9
    try clear c9b0
    try clear c10
    try clear c10b0
    try clear p11
    try clear q11
    try clear hx11
    try clear p11
    try clear p6
    try clear q11
    try clear q6
    obtain ⟨kq, x25_1, rfl, HA, HJ1, HB⟩ := hcut
    cases kq with
    | zero => exact absurd HA.out (by simp [postbagref13_Name.j0])
    | succ kj1 =>
      have H := HA.out
      clear HA
      simp only [postbagref13_Name.j0] at H
      by_cases c12 : x25_1 = true
      · subst c12
        have H1 : (some ((⟨#[]⟩ : ByteArray), false)) = some (r1, r2) := by rw [if_pos rfl] at H; exact H
        clear H
        have H := H1
        clear H1
        simp only [Option.some.injEq, Prod.mk.injEq] at H
        obtain ⟨rfl, rfl⟩ := H
        go_wp2
        go_ret2
        exact ⟨by first | rfl | (simp [errW_none, errW_some] <;> rfl) | (simp [*, errW_none, errW_some] <;> rfl), by repeat (first | (with_reducible first | exact HB.out | apply below_alloc | apply pw_below_drewN | apply below_drew1) | exact HB.out | exact Below.refl _ _)⟩
      · replace c12 := Bool.eq_false_iff.mpr c12
        subst c12
        have H1 : (postbagref13_Name.l0 kj1 a0 0) = some (r1, r2) := by rw [if_neg (show ¬ (false = true) by decide)] at H; exact H
        clear H
        have H := H1
        clear H1
        have H' := Aside0.mk H
        clear H
        go_wp2
        go_loopg [4] kj1 (fun kq v4 w' => ∃ (x4_2 : Int), v4 = .int .i64 x4_2 ∧ Aside0 (postbagref13_Name.l0 kq a0 x4_2 = some (r1, r2)) ∧ Aside0 (kq ≤ kj1) ∧ Aside0 (Below w.heap.size w w'))
        case atStart => exact ⟨(0), (by first | rfl | (simp; done) | (simp [*]; done)), H', ⟨Nat.le_refl _⟩, ⟨by repeat (first | (with_reducible first | exact HB.out | apply below_alloc | apply pw_below_drewN | apply below_drew1) | exact HB.out | exact Below.refl _ _)⟩⟩
        case round =>
          clear H'
          try clear c1
          try clear p1
          try clear q1
          try clear hx1
          try clear p2
          try clear c3
          try clear c3b0
          try clear c3b1
          try clear c4
          try clear c4b0
          try clear c4b1
          try clear c5
          try clear c5b0
          try clear c5b1
          try clear p6
          try clear q6
          try clear hx6
          try clear qi6
          try clear c7
          try clear c7b0
          try clear c7b1
          try clear c9
          try clear c9b0
          try clear c10
          try clear c10b0
          try clear p11
          try clear q11
          try clear hx11
          try clear c12
          try clear p1
          try clear p11
          try clear p2
          try clear p6
          try clear q1
          try clear q11
          try clear q6
          obtain ⟨x4_2, rfl, HA, HK2, HB⟩ := hrel
          cases gk with
          | zero => exact absurd HA.out (by simp [postbagref13_Name.l0])
          | succ k2 =>
            have H := HA.out
            clear HA
            simp only [postbagref13_Name.l0] at H
            by_cases c13 : x4_2 < (a0.size : Int)
            · rw [if_pos c13] at H
              have c13b0 : decide (x4_2 < (a0.size : Int)) = true := decide_eq_true c13
              clear c13
              by_cases c14 : 0 ≤ x4_2
              · rw [if_pos c14] at H
                have c14b0 : decide (0 ≤ x4_2) = true := decide_eq_true c14
                clear c14
                replace H := Option.bind_eq_some_iff.mp H
                obtain ⟨t133, A160, H⟩ := H
                replace H : (if t133 = true then (if (bt a0 x4_2) = 47 then (if 0 ≤ (wrap64 (x4_2 - 1)) then (if (wrap64 (x4_2 - 1)) < (a0.size : Int) then (if (bt a0 (wrap64 (x4_2 - 1))) = 47 then (some ((⟨#[]⟩ : ByteArray), false)) else (postbagref13_Name.l0 k2 a0 (wrap64 (x4_2 + 1)))) else (none)) else (none)) else (postbagref13_Name.l0 k2 a0 (wrap64 (x4_2 + 1)))) else (some ((⟨#[]⟩ : ByteArray), false))) = some (r1, r2) := H
                have A16 := Aside0.mk A160
                clear A160
                by_cases c17 : t133 = true
                · subst c17
                  have H1 : (if (bt a0 x4_2) = 47 then (if 0 ≤ (wrap64 (x4_2 - 1)) then (if (wrap64 (x4_2 - 1)) < (a0.size : Int) then (if (bt a0 (wrap64 (x4_2 - 1))) = 47 then (some ((⟨#[]⟩ : ByteArray), false)) else (postbagref13_Name.l0 k2 a0 (wrap64 (x4_2 + 1)))) else (none)) else (none)) else (postbagref13_Name.l0 k2 a0 (wrap64 (x4_2 + 1)))) = some (r1, r2) := by rw [if_pos rfl] at H; exact H
                  clear H
                  have H := H1
                  clear H1
                  by_cases c19 : (bt a0 x4_2) = 47
                  · rw [if_pos c19] at H
                    have c19b0 : ((bt a0 x4_2) == 47) = true := beq_iff_eq.mpr c19
                    have c19b1 : ((bt a0 x4_2) != 47) = false := bne_eq_false_iff_eq.mpr c19
                    clear c19
                    obtain ⟨ji20, hji20⟩ : ∃ j_ : Int, (wrap64 (x4_2 - 1)) = j_ := ⟨_, rfl⟩
                    replace H : (if 0 ≤ (ji20) then (if (ji20) < (a0.size : Int) then (if (bt a0 (ji20)) = 47 then (some ((⟨#[]⟩ : ByteArray), false)) else (postbagref13_Name.l0 k2 a0 (wrap64 (x4_2 + 1)))) else (none)) else (none)) = some (r1, r2) := by first | (rw [hji20] at H; exact H) | (simp only [hji20] at H ⊢; exact H)
                    (try rw [hji20] at A16)
                    have hji20w : (IntKind.i64.wrap (x4_2 - 1)) = ji20 := (i64_w _).trans hji20
                    by_cases c21 : 0 ≤ (ji20)
                    · rw [if_pos c21] at H
                      have c21b0 : decide (0 ≤ (ji20)) = true := decide_eq_true c21
                      clear c21
                      by_cases c22 : (ji20) < (a0.size : Int)
                      · rw [if_pos c22] at H
                        have c22b0 : decide ((ji20) < (a0.size : Int)) = true := decide_eq_true c22
                        clear c22
                        by_cases c24 : (bt a0 (ji20)) = 47
                        · rw [if_pos c24] at H
                          have c24b0 : ((bt a0 (ji20)) == 47) = true := beq_iff_eq.mpr c24
                          have c24b1 : ((bt a0 (ji20)) != 47) = false := bne_eq_false_iff_eq.mpr c24
                          clear c24
                          simp only [Option.some.injEq, Prod.mk.injEq] at H
                          obtain ⟨rfl, rfl⟩ := H
                          have p15 : 0 ≤ (x4_2 : Int) := of_decide_eq_true (by first | (with_reducible assumption) | assumption)
                          have q15 : x4_2 < (a0.size : Int) := of_decide_eq_true (by first | (with_reducible assumption) | assumption)
                          have hx15 := bt_at a0 x4_2
                          replace p15 := eq_true p15
                          replace q15 := eq_true q15
                          go_wp2_with (first | ((with_reducible refine gate_callee (f := 20) rfl ?_); refine goesL_ (some 35) rfl rfl Tryd.func20 (by kernel_rfl) rfl #[.int .u8 (bt a0 x4_2), .bool false] rfl (by (try simp only [List.map_toArray, List.map_cons, List.map_nil]); first | done | rfl | (simp only [List.length_drop, List.length_take]; rfl)) ?_; (with_reducible refine (postbagref13_plain.calls k2 (bt a0 x4_2) false true _ A16.out).mono ?_); rintro e w' ⟨rfl, ⟨nd, rfl⟩⟩; refine ⟨_, rfl, ?_⟩; have p18 : 0 ≤ (x4_2 : Int) := of_decide_eq_true (by first | (with_reducible assumption) | assumption); have q18 : x4_2 < (a0.size : Int) := of_decide_eq_true (by first | (with_reducible assumption) | assumption); have hx18 := bt_at a0 x4_2; replace p18 := eq_true p18; replace q18 := eq_true q18; have p23 : 0 ≤ ((ji20) : Int) := of_decide_eq_true (by first | (with_reducible assumption) | assumption); have q23 : (ji20) < (a0.size : Int) := of_decide_eq_true (by first | (with_reducible assumption) | assumption); have hx23 := bt_at a0 (ji20); replace p23 := eq_true p23; replace q23 := eq_true q23))
                          go_ret2
                          exact ⟨by first | rfl | (simp [errW_none, errW_some] <;> rfl) | (simp only [← hji20]; first | rfl | (simp [errW_none, errW_some] <;> rfl)) | (simp [*, errW_none, errW_some] <;> rfl), by repeat (first | (with_reducible first | exact HB.out | apply below_alloc | apply pw_below_drewN | apply below_drew1) | exact HB.out | exact Below.refl _ _)⟩
                        · rw [if_neg c24] at H
                          have c24b0 : ((bt a0 (ji20)) == 47) = false := beq_eq_false_iff_ne.mpr c24
                          have c24b1 : ((bt a0 (ji20)) != 47) = true := bne_iff_ne.mpr c24
                          have H' := Aside0.mk H
                          clear H
                          have p15 : 0 ≤ (x4_2 : Int) := of_decide_eq_true (by first | (with_reducible assumption) | assumption)
                          have q15 : x4_2 < (a0.size : Int) := of_decide_eq_true (by first | (with_reducible assumption) | assumption)
                          have hx15 := bt_at a0 x4_2
                          replace p15 := eq_true p15
                          replace q15 := eq_true q15
                          go_wp2_with (first | ((with_reducible refine gate_callee (f := 20) rfl ?_); refine goesL_ (some 35) rfl rfl Tryd.func20 (by kernel_rfl) rfl #[.int .u8 (bt a0 x4_2), .bool false] rfl (by (try simp only [List.map_toArray, List.map_cons, List.map_nil]); first | done | rfl | (simp only [List.length_drop, List.length_take]; rfl)) ?_; (with_reducible refine (postbagref13_plain.calls k2 (bt a0 x4_2) false true _ A16.out).mono ?_); rintro e w' ⟨rfl, ⟨nd, rfl⟩⟩; refine ⟨_, rfl, ?_⟩; have p18 : 0 ≤ (x4_2 : Int) := of_decide_eq_true (by first | (with_reducible assumption) | assumption); have q18 : x4_2 < (a0.size : Int) := of_decide_eq_true (by first | (with_reducible assumption) | assumption); have hx18 := bt_at a0 x4_2; replace p18 := eq_true p18; replace q18 := eq_true q18; have p23 : 0 ≤ ((ji20) : Int) := of_decide_eq_true (by first | (with_reducible assumption) | assumption); have q23 : (ji20) < (a0.size : Int) := of_decide_eq_true (by first | (with_reducible assumption) | assumption); have hx23 := bt_at a0 (ji20); replace p23 := eq_true p23; replace q23 := eq_true q23))
                          go_roundg k2
                          case measure => have := HJ1.out; have := HK2.out; omega
                          case rel => exact ⟨(wrap64 (x4_2 + 1)), (by first | rfl | (simp; done) | (simp [*]; done)), H', ⟨by have := HJ1.out; have := HK2.out; omega⟩, ⟨by repeat (first | (with_reducible first | exact HB.out | apply below_alloc | apply pw_below_drewN | apply below_drew1) | exact HB.out | exact Below.refl _ _)⟩⟩
                      · rw [if_neg c22] at H
                        exact absurd H (by simp)
                    · rw [if_neg c21] at H
                      exact absurd H (by simp)
                  · rw [if_neg c19] at H
                    have c19b0 : ((bt a0 x4_2) == 47) = false := beq_eq_false_iff_ne.mpr c19
                    have c19b1 : ((bt a0 x4_2) != 47) = true := bne_iff_ne.mpr c19
                    have H' := Aside0.mk H
                    clear H
                    have p15 : 0 ≤ (x4_2 : Int) := of_decide_eq_true (by first | (with_reducible assumption) | assumption)
                    have q15 : x4_2 < (a0.size : Int) := of_decide_eq_true (by first | (with_reducible assumption) | assumption)
                    have hx15 := bt_at a0 x4_2
                    replace p15 := eq_true p15
                    replace q15 := eq_true q15
                    go_wp2_with (first | ((with_reducible refine gate_callee (f := 20) rfl ?_); refine goesL_ (some 35) rfl rfl Tryd.func20 (by kernel_rfl) rfl #[.int .u8 (bt a0 x4_2), .bool false] rfl (by (try simp only [List.map_toArray, List.map_cons, List.map_nil]); first | done | rfl | (simp only [List.length_drop, List.length_take]; rfl)) ?_; (with_reducible refine (postbagref13_plain.calls k2 (bt a0 x4_2) false true _ A16.out).mono ?_); rintro e w' ⟨rfl, ⟨nd, rfl⟩⟩; refine ⟨_, rfl, ?_⟩; have p18 : 0 ≤ (x4_2 : Int) := of_decide_eq_true (by first | (with_reducible assumption) | assumption); have q18 : x4_2 < (a0.size : Int) := of_decide_eq_true (by first | (with_reducible assumption) | assumption); have hx18 := bt_at a0 x4_2; replace p18 := eq_true p18; replace q18 := eq_true q18))
                    go_roundg k2
                    case measure => have := HJ1.out; have := HK2.out; omega
                    case rel => exact ⟨(wrap64 (x4_2 + 1)), (by first | rfl | (simp; done) | (simp [*]; done)), H', ⟨by have := HJ1.out; have := HK2.out; omega⟩, ⟨by repeat (first | (with_reducible first | exact HB.out | apply below_alloc | apply pw_below_drewN | apply below_drew1) | exact HB.out | exact Below.refl _ _)⟩⟩
                · replace c17 := Bool.eq_false_iff.mpr c17
                  subst c17
                  have H1 : (some ((⟨#[]⟩ : ByteArray), false)) = some (r1, r2) := by rw [if_neg (show ¬ (false = true) by decide)] at H; exact H
                  clear H
                  have H := H1
                  clear H1
                  simp only [Option.some.injEq, Prod.mk.injEq] at H
                  obtain ⟨rfl, rfl⟩ := H
                  have p15 : 0 ≤ (x4_2 : Int) := of_decide_eq_true (by first | (with_reducible assumption) | assumption)
                  have q15 : x4_2 < (a0.size : Int) := of_decide_eq_true (by first | (with_reducible assumption) | assumption)
                  have hx15 := bt_at a0 x4_2
                  replace p15 := eq_true p15
                  replace q15 := eq_true q15
                  go_wp2_with (first | ((with_reducible refine gate_callee (f := 20) rfl ?_); refine goesL_ (some 35) rfl rfl Tryd.func20 (by kernel_rfl) rfl #[.int .u8 (bt a0 x4_2), .bool false] rfl (by (try simp only [List.map_toArray, List.map_cons, List.map_nil]); first | done | rfl | (simp only [List.length_drop, List.length_take]; rfl)) ?_; (with_reducible refine (postbagref13_plain.calls k2 (bt a0 x4_2) false false _ A16.out).mono ?_); rintro e w' ⟨rfl, ⟨nd, rfl⟩⟩; refine ⟨_, rfl, ?_⟩))
                  go_ret2
                  exact ⟨by first | rfl | (simp [errW_none, errW_some] <;> rfl) | (simp [*, errW_none, errW_some] <;> rfl), by repeat (first | (with_reducible first | exact HB.out | apply below_alloc | apply pw_below_drewN | apply below_drew1) | exact HB.out | exact Below.refl _ _)⟩
              · rw [if_neg c14] at H
                exact absurd H (by simp)
            · rw [if_neg c13] at H
              have c13b0 : decide (x4_2 < (a0.size : Int)) = false := decide_eq_false c13
              clear c13
              replace H := Option.bind_eq_some_iff.mp H
              obtain ⟨t134, A250, H⟩ := H
              replace H : (if t134.toList = ([105, 110, 98, 111, 120] : List UInt8) then (some ((⟨#[73, 78, 66, 79, 88]⟩ : ByteArray), true)) else (some (a0, true))) = some (r1, r2) := H
              have A25 := Aside0.mk A250
              clear A250
              by_cases c26 : t134.toList = ([105, 110, 98, 111, 120] : List UInt8)
              · rw [if_pos c26] at H
                have c26b0 : (t134.toList == ([105, 110, 98, 111, 120] : List UInt8)) = true := beq_iff_eq.mpr c26
                have c26b1 : (t134.toList != ([105, 110, 98, 111, 120] : List UInt8)) = false := bne_eq_false_iff_eq.mpr c26
                clear c26
                simp only [Option.some.injEq, Prod.mk.injEq] at H
                obtain ⟨rfl, rfl⟩ := H
                go_wp2_with (first | ((with_reducible refine gate_callee (f := 21) rfl ?_); refine goesL_ (some 51) rfl rfl Tryd.func21 (by kernel_rfl) rfl #[.string a0] rfl (by (try simp only [List.map_toArray, List.map_cons, List.map_nil]); first | done | rfl | (simp only [List.length_drop, List.length_take]; rfl)) ?_; (with_reducible refine (postbagref08_Small.calls a0 t134 _ A25.out).mono ?_); rintro e w27 ⟨rfl, hb⟩; refine ⟨_, rfl, ?_⟩; have n0_ := Aside0.mk (below_step (by repeat (first | (with_reducible first | exact HB.out | apply below_alloc | apply pw_below_drewN | apply below_drew1) | exact HB.out | exact Below.refl _ _)) hb); clear HB; have HB := n0_; clear n0_; (try clear hb); (try clear hb2); (try clear hk); (try clear hi)))
                go_ret2
                exact ⟨by first | rfl | (simp [errW_none, errW_some] <;> rfl) | (simp [*, errW_none, errW_some] <;> rfl), by repeat (first | (with_reducible first | exact HB.out | apply below_alloc | apply pw_below_drewN | apply below_drew1) | exact HB.out | exact Below.refl _ _)⟩
              · rw [if_neg c26] at H
                have c26b0 : (t134.toList == ([105, 110, 98, 111, 120] : List UInt8)) = false := beq_eq_false_iff_ne.mpr c26
                have c26b1 : (t134.toList != ([105, 110, 98, 111, 120] : List UInt8)) = true := bne_iff_ne.mpr c26
                simp only [Option.some.injEq, Prod.mk.injEq] at H
                obtain ⟨rfl, rfl⟩ := H
                go_wp2_with (first | ((with_reducible refine gate_callee (f := 21) rfl ?_); refine goesL_ (some 51) rfl rfl Tryd.func21 (by kernel_rfl) rfl #[.string a0] rfl (by (try simp only [List.map_toArray, List.map_cons, List.map_nil]); first | done | rfl | (simp only [List.length_drop, List.length_take]; rfl)) ?_; (with_reducible refine (postbagref08_Small.calls a0 t134 _ A25.out).mono ?_); rintro e w28 ⟨rfl, hb⟩; refine ⟨_, rfl, ?_⟩; have n0_ := Aside0.mk (below_step (by repeat (first | (with_reducible first | exact HB.out | apply below_alloc | apply pw_below_drewN | apply below_drew1) | exact HB.out | exact Below.refl _ _)) hb); clear HB; have HB := n0_; clear n0_; (try clear hb); (try clear hb2); (try clear hk); (try clear hi)))
                go_ret2
                exact ⟨by first | rfl | (simp [errW_none, errW_some] <;> rfl) | (simp [*, errW_none, errW_some] <;> rfl), by repeat (first | (with_reducible first | exact HB.out | apply below_alloc | apply pw_below_drewN | apply below_drew1) | exact HB.out | exact Below.refl _ _)⟩

-- NOT PRINTED: function 28 (reflectlite_TypeOf)

-- NOT PRINTED: function 29 (errors_is)

-- NOT PRINTED: function 22 (errors_Is)

/-! ### postbagnum_Num: function 11 -/
def postbagnum_Num.f (r : Option Int) : Option Int := Is.numF r
theorem postbagnum_Num.calls (E : Int → Addr) (a0 : Option Int) (r : Int) (w : World) (hE : Is.Errs Is.All w E) (h : postbagnum_Num.f a0 = some r) :
    Calls Tryd.prog 11 #[Is.errV E a0] w fun e w' => e = .returned (.int .i64 r) ∧ Below w.heap.size w w' := Is.num_calls a0 r E w hE h

/-! ### boxes_Pattern: function 12 -/
def boxes_Pattern.f (a0 : ByteArray) : Option (Bool) := if (a0.size : Int) ≤ 100 then ((boxes_each.f a0 (⟨#[40, 41, 123, 34, 92]⟩ : ByteArray)).bind fun t137 => (some t137)) else (some false)
set_option maxHeartbeats 8000000 in
set_option maxRecDepth 100000 in
theorem boxes_Pattern.calls (a0 : ByteArray) (r : Bool) (w : World) (h : boxes_Pattern.f a0 = some r) :
    Calls Tryd.prog 12 #[.string a0] w fun e w' => e = .returned (.bool r) ∧ Below w.heap.size w w' := by
  have HB := Aside0.mk (Below.refl w.heap.size w)
  have H : (if (a0.size : Int) ≤ 100 then ((boxes_each.f a0 (⟨#[40, 41, 123, 34, 92]⟩ : ByteArray)).bind fun t137 => (some t137)) else (some false)) = some r := h
  clear h
  by_cases c2 : (a0.size : Int) ≤ 100
  · rw [if_pos c2] at H
    have c2b0 : decide ((a0.size : Int) ≤ 100) = true := decide_eq_true c2
    have c2b1 : decide (a0.size ≤ 100) = true := decide_eq_true (by omega)
    clear c2
    replace H := Option.bind_eq_some_iff.mp H
    obtain ⟨t137, A30, H⟩ := H
    replace H : (some t137) = some r := H
    have A3 := Aside0.mk A30
    clear A30
    obtain rfl := Option.some.inj H
    go_enter Tryd.func12, Tryd.ntmps12
    go_wp2_with (first | (go_at_call 15; (with_reducible refine (boxes_each.calls a0 (⟨#[40, 41, 123, 34, 92]⟩ : ByteArray) t137 _ A3.out).mono ?_); rintro e w4 ⟨rfl, hb⟩; have n0_ := Aside0.mk (below_step (by repeat (first | (with_reducible first | exact HB.out | apply below_alloc | apply pw_below_drewN | apply below_drew1) | exact HB.out | exact Below.refl _ _)) hb); clear HB; have HB := n0_; clear n0_; (try clear hb); (try clear hb2); (try clear hk); (try clear hi)))
    go_ret
    exact ⟨by first | rfl | (simp [errW_none, errW_some] <;> rfl) | (simp [*, errW_none, errW_some] <;> rfl), by repeat (first | (with_reducible first | exact HB.out | apply below_alloc | apply pw_below_drewN | apply below_drew1) | exact HB.out | exact Below.refl _ _)⟩
  · rw [if_neg c2] at H
    have c2b0 : decide ((a0.size : Int) ≤ 100) = false := decide_eq_false c2
    have c2b1 : decide (a0.size ≤ 100) = false := decide_eq_false (by omega)
    clear c2
    obtain rfl := Option.some.inj H
    go_enter Tryd.func12, Tryd.ntmps12
    go_wp2
    go_ret
    exact ⟨by first | rfl | (simp [errW_none, errW_some] <;> rfl) | (simp [*, errW_none, errW_some] <;> rfl), by repeat (first | (with_reducible first | exact HB.out | apply below_alloc | apply pw_below_drewN | apply below_drew1) | exact HB.out | exact Below.refl _ _)⟩

end Go.Proofs.YthlofokgbogndabDoor.GBoxes
