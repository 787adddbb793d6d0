import Derived.Lib.SlBytesConst
import Derived.Test.YthlofokgbogndaaPCheckSumsx0
namespace Go.Proofs.Ythlofokgbogndaa.PCheckSums
open Go.RowKit Go.Proofs.YthlofokgbogndaaW.PrintWords Go.Proofs.YthlofokgbogndaaW.PrintLast Go.Proofs.YthlofokgbogndaaW.PrintMore
attribute [local go_sem] max2_int min2_int max_two min_two max_three min_three max_four min_four   -- for this text's walks alone
set_option linter.unusedVariables false
set_option linter.unusedSimpArgs false

/-! ### check_More: function 8 -/
def check_More.l0 : Nat → Int → Int → List Int → Int → Int → Option (Int)
  | 0, _, _, _, _, _ => none
  | k + 1, x5, x6, x15, x16, x17 => if x17 < x16 then (if 0 ≤ x17 then (if x17 < (x15.length : Int) then (check_More.l0 k (((x5 + ((rd x15 x17) % 4294967296)) % 4294967296) % 65521) (((x6 + (((x5 + ((rd x15 x17) % 4294967296)) % 4294967296) % 65521)) % 4294967296) % 65521) x15 x16 (wrap64 (x17 + 1))) else (none)) else (none)) else (some ((((x6 * 65536) % 4294967296) + x5) % 4294967296))
def check_More.f (k : Nat) (a0 : Int) (l1 : List Int) : Option (Int) := check_More.l0 k (Int.tmod (Int.tmod a0 65536) 65521) (((Int.tdiv a0 65536) % 4294967296) % 65521) l1 (l1.length : Int) 0
theorem check_More.mono_l : ∀ k, (∀ y0 y1 y2 y3 y4, LeO (check_More.l0 k y0 y1 y2 y3 y4) (check_More.l0 (k + 1) y0 y1 y2 y3 y4))
  | 0 => fun _ _ _ _ _ r h => by simp [check_More.l0] at h
  | k + 1 => by
    have ih0 := check_More.mono_l k
    · intro y0 y1 y2 y3 y4
      unfold check_More.l0
      repeat' first
      | (with_reducible exact ih0 _ _ _ _ _)
      | (with_reducible exact LeO.refl _)
      | (with_reducible exact LeO.none _)
      | (with_reducible refine LeO.ite ?_ ?_)
      | (with_reducible refine LeO.bind ?_ (fun _ => ?_))
      | exact ih0 _ _ _ _ _
      | exact LeO.none _
      | refine LeO.ite ?_ ?_
      | refine LeO.bind ?_ (fun _ => ?_)
theorem check_More.mono : ∀ a0 a1 k, LeO (check_More.f k a0 a1) (check_More.f (k + 1) a0 a1) := by
  intro a0 a1 k
  have ih0 := check_More.mono_l k
  unfold check_More.f
  repeat' first
      | (with_reducible exact ih0 _ _ _ _ _)
      | (with_reducible exact LeO.refl _)
      | (with_reducible exact LeO.none _)
      | (with_reducible refine LeO.ite ?_ ?_)
      | (with_reducible refine LeO.bind ?_ (fun _ => ?_))
      | exact ih0 _ _ _ _ _
      | exact LeO.none _
      | refine LeO.ite ?_ ?_
      | refine LeO.bind ?_ (fun _ => ?_)
set_option maxHeartbeats 8000000 in
set_option maxRecDepth 100000 in
theorem check_More.calls (k : Nat) (a0 : Int) (A1 : Option Addr) (c1 : Nat) (l1 : List Int) (r : Int) (w : World) (hr1 : Kd.C (Kd.int .u8) w A1 l1.length l1) (hc1 : l1.length ≤ c1) (h : check_More.f k a0 l1 = some r) :
    Calls Try.prog 8 #[.int .u32 a0, .slice A1 l1.length c1] w fun e w' => e = .returned (.int .u32 r) ∧ Drawn0 w w' := by
  have HR1 := Aside0.mk hr1
  have HC1 := Aside0.mk hc1
  clear hr1 hc1
  have H : (check_More.l0 k (Int.tmod (Int.tmod a0 65536) 65521) (((Int.tdiv a0 65536) % 4294967296) % 65521) l1 (l1.length : Int) 0) = some r := h
  clear h
  have H' := Aside0.mk H
  clear H
  go_enter Try.func8, Try.ntmps8
  go_wp2
  go_loopg [5, 6, 17] k (fun kq v5 v6 v17 w' => ∃ (x5_1 : Int) (x6_1 : Int) (x17_1 : Int), v5 = .int .u32 x5_1 ∧ v6 = .int .u32 x6_1 ∧ v17 = .int .i64 x17_1 ∧ Aside0 (check_More.l0 kq x5_1 x6_1 l1 (l1.length : Int) x17_1 = some r) ∧ Aside0 (kq ≤ k) ∧ Drawn0 w w')
  case atStart => exact ⟨(Int.tmod (Int.tmod a0 65536) 65521), (((Int.tdiv a0 65536) % 4294967296) % 65521), (0), (by first | rfl | (simp; done) | (simp [*]; done)), (by first | rfl | (simp; done) | (simp [*]; done)), (by first | rfl | (simp; done) | (simp [*]; done)), H', ⟨Nat.le_refl _⟩, by repeat (first | exact Drawn0.refl _ | apply Drawn0.step)⟩
  case round =>
    clear H'
    try clear c1
    try clear p2
    obtain ⟨x5_1, x6_1, x17_1, rfl, rfl, rfl, HA, HK1, ⟨m1, rfl⟩⟩ := hrel
    cases gk with
    | zero => exact absurd HA.out (by simp [check_More.l0])
    | succ k1 =>
      have H := HA.out
      clear HA
      simp only [check_More.l0] at H
      by_cases c3 : x17_1 < (l1.length : Int)
      · rw [if_pos c3] at H
        have c3b0 : decide (x17_1 < (l1.length : Int)) = true := decide_eq_true c3
        clear c3
        by_cases c4 : 0 ≤ x17_1
        · rw [if_pos c4] at H
          have c4b0 : decide (0 ≤ x17_1) = true := decide_eq_true c4
          clear c4
          by_cases c5 : x17_1 < (l1.length : Int)
          · rw [if_pos c5] at H
            have c5b0 : decide (x17_1 < (l1.length : Int)) = true := decide_eq_true c5
            clear c5
            have H' := Aside0.mk H
            clear H
            have p101 : 0 ≤ (x17_1 : Int) := of_decide_eq_true (by first | (with_reducible assumption) | assumption)
            have q101 : x17_1 < (l1.length : Int) := of_decide_eq_true (by first | (with_reducible assumption) | assumption)
            obtain ⟨ad101, e101, hx101_0⟩ := Kd.at_int HR1.out x17_1 p101 q101
            cases e101
            replace p101 := eq_true p101
            replace q101 := eq_true q101
            go_wp2
            go_roundg k1
            case measure => have := HK1.out; omega
            case rel => exact ⟨(((x5_1 + ((rd l1 x17_1) % 4294967296)) % 4294967296) % 65521), (((x6_1 + (((x5_1 + ((rd l1 x17_1) % 4294967296)) % 4294967296) % 65521)) % 4294967296) % 65521), (wrap64 (x17_1 + 1)), (by first | rfl | (simp; done) | (simp [*]; done)), (by first | rfl | (simp; done) | (simp [*]; done)), (by first | rfl | (simp; done) | (simp [*]; done)), H', ⟨by have := HK1.out; omega⟩, by repeat (first | exact Drawn0.refl _ | apply Drawn0.step)⟩
          · rw [if_neg c5] at H
            exact absurd H (by simp)
        · rw [if_neg c4] at H
          exact absurd H (by simp)
      · rw [if_neg c3] at H
        have c3b0 : decide (x17_1 < (l1.length : Int)) = false := decide_eq_false c3
        clear c3
        obtain rfl := Option.some.inj H
        go_wp2
        go_ret
        exact ⟨by first | rfl | (simp; done) | (simp [*]; done), by repeat (first | exact Drawn0.refl _ | apply Drawn0.step)⟩

/-! ### check_Start: function 11 -/
def check_Start.f  : Option (Int) := some 1
set_option maxHeartbeats 8000000 in
set_option maxRecDepth 100000 in
theorem check_Start.calls  (r : Int) (w : World) (h : check_Start.f  = some r) :
    Calls Try.prog 11 #[] w fun e w' => e = .returned (.int .u32 r) ∧ Drawn0 w w' := by
  have H : (some 1) = some r := h
  clear h
  obtain rfl := Option.some.inj H
  go_enter Try.func11, Try.ntmps11
  go_wp2
  go_ret
  exact ⟨by first | rfl | (simp; done) | (simp [*]; done), by repeat (first | exact Drawn0.refl _ | apply Drawn0.step)⟩

/-! ### check_Sum: function 10 -/
def check_Sum.f (k : Nat) (l0 : List Int) : Option (Int) := (check_Start.f).bind fun t102 => ((check_More.f k t102 l0).bind fun t103 => (some t103))
theorem check_Sum.mono : ∀ a0 k, LeO (check_Sum.f k a0) (check_Sum.f (k + 1) a0) := by
  intro a0 k
  unfold check_Sum.f
  repeat' first
      | (with_reducible exact check_More.mono _ _ _)
      | (with_reducible exact LeO.refl _)
      | (with_reducible exact LeO.none _)
      | (with_reducible refine LeO.ite ?_ ?_)
      | (with_reducible refine LeO.bind ?_ (fun _ => ?_))
      | exact check_More.mono _ _ _
      | exact LeO.none _
      | refine LeO.ite ?_ ?_
      | refine LeO.bind ?_ (fun _ => ?_)
set_option maxHeartbeats 8000000 in
set_option maxRecDepth 100000 in
theorem check_Sum.calls (k : Nat) (A0 : Option Addr) (c0 : Nat) (l0 : List Int) (r : Int) (w : World) (hr0 : Kd.C (Kd.int .u8) w A0 l0.length l0) (hc0 : l0.length ≤ c0) (h : check_Sum.f k l0 = some r) :
    Calls Try.prog 10 #[.slice A0 l0.length c0] w fun e w' => e = .returned (.int .u32 r) ∧ Drawn0 w w' := by
  have HR0 := Aside0.mk hr0
  have HC0 := Aside0.mk hc0
  clear hr0 hc0
  have H : ((check_Start.f).bind fun t102 => ((check_More.f k t102 l0).bind fun t103 => (some t103))) = some r := h
  clear h
  replace H := Option.bind_eq_some_iff.mp H
  obtain ⟨t102, A20, H⟩ := H
  replace H : ((check_More.f k t102 l0).bind fun t103 => (some t103)) = some r := H
  have A2 := Aside0.mk A20
  clear A20
  replace H := Option.bind_eq_some_iff.mp H
  obtain ⟨t103, A30, H⟩ := H
  replace H : (some t103) = some r := H
  have A3 := Aside0.mk A30
  clear A30
  obtain rfl := Option.some.inj H
  go_enter Try.func10, Try.ntmps10
  go_wp2_with (first | ((with_reducible refine gate_callee (f := 11) rfl ?_); refine goesL_ (some 3) rfl rfl Try.func11 (by kernel_rfl) rfl #[] rfl (by (try simp only [List.map_toArray, List.map_cons, List.map_nil]); first | done | rfl | (simp only [List.length_drop, List.length_take]; rfl)) ?_; (with_reducible refine (check_Start.calls  t102 _ A2.out).mono ?_); rintro e w' ⟨rfl, ⟨nd, rfl⟩⟩; refine ⟨_, rfl, ?_⟩) | ((with_reducible refine gate_callee (f := 8) rfl ?_); refine goesL_ (some 5) rfl rfl Try.func8 (by kernel_rfl) rfl #[.int .u32 t102, .slice A0 l0.length c0] rfl (by (try simp only [List.map_toArray, List.map_cons, List.map_nil]); first | done | rfl | (simp only [List.length_drop, List.length_take]; rfl)) ?_; (with_reducible refine (check_More.calls k t102 _ _ l0 t103 _ ?side1 ?side2 A3.out).mono ?_); (case side1 => repeat (first | exact HR0.out | (with_reducible refine Kd.C_alloc ?_ _) | (with_reducible refine Kd.C_drewN ?_ _) | (with_reducible refine Kd.C_drew ?_))); (case side2 => exact HC0.out); rintro e w' ⟨rfl, ⟨nd, rfl⟩⟩; refine ⟨_, rfl, ?_⟩))
  go_ret
  exact ⟨by first | rfl | (simp; done) | (simp [*]; done), by repeat (first | exact Drawn0.refl _ | apply Drawn0.step)⟩

/-! ### postbaglaw04_alive: function 7 -/
def postbaglaw04_alive.f (k : Nat)  : Option (Bool) := (check_Sum.f k (([97, 98, 99] : List Int))).bind fun t107 => (if t107 = 38600999 then ((check_Start.f).bind fun t108 => (some (t108 == 1))) else (some false))
theorem postbaglaw04_alive.mono : ∀ k, LeO (postbaglaw04_alive.f k ) (postbaglaw04_alive.f (k + 1) ) := by
  intro  k
  unfold postbaglaw04_alive.f
  repeat' first
      | (with_reducible exact check_Sum.mono _ _)
      | (with_reducible exact LeO.refl _)
      | (with_reducible exact LeO.none _)
      | (with_reducible refine LeO.ite ?_ ?_)
      | (with_reducible refine LeO.bind ?_ (fun _ => ?_))
      | exact check_Sum.mono _ _
      | exact LeO.none _
      | refine LeO.ite ?_ ?_
      | refine LeO.bind ?_ (fun _ => ?_)
/-- A row of bytes that has been laid as a literal, with the run-time's mark behind its cells, reads as its bytes. -/
theorem lit_reads (w : World) (xs : List Int) (fr : Nat × Nat) (e : TypeId) (hn : xs.length ≤ 9223372036854775807) : Kd.C (Kd.int .u8) (w.alloc (.cells (nums .u8 xs).toArray e fr)) (some ⟨w.heap.size, 0, none⟩) xs.length xs := by
  refine ⟨rfl, hn, fun _ => ⟨_, rfl, fun j p hj => ⟨[.int .u8 p], rfl, rfl, fun i u hi => ?_⟩⟩⟩
  obtain rfl : i = 0 := by
    have := (List.getElem?_eq_some_iff.1 hi).1
    simpa using this
  have hu : u = .int .u8 p := by simpa using hi.symm
  subst hu
  rw [add_plain, World.cell?_alloc_mark]
  simp [nums, Kd.int, Kd.scalar, hj]
theorem lit_world (w : World) (o : Obj) : Below w.heap.size w (w.alloc o) := (Below.refl _ _).alloc (Nat.le_refl _) _
set_option maxHeartbeats 8000000 in
set_option maxRecDepth 100000 in
theorem postbaglaw04_alive.calls (k : Nat) (r : Bool) (w : World) (h : postbaglaw04_alive.f k  = some r) :
    Calls Try.prog 7 #[] w fun e w' => e = .returned (.bool r) ∧ Below w.heap.size w w' := by
  have kc := fun (w : World) (C : Array Value) (n c : Nat) => Lib.run_convert_bytes_const (P := Try.prog) w 23 5 C n c Try.underlying23 Try.underlying5
  obtain ⟨t107, A10, H⟩ := Option.bind_eq_some_iff.mp h
  have A1 := Aside0.mk A10
  clear A10
  replace H : (if t107 = 38600999 then ((check_Start.f).bind fun t108 => (some (t108 == 1))) else (some false)) = some r := H
  have HW := Aside0.mk (lit_world w (.cells #[.int .u8 97, .int .u8 98, .int .u8 99] 5 (3, 4)))
  have HR := Aside0.mk (lit_reads w [97, 98, 99] (3, 4) 5 (by decide))
  by_cases c2 : t107 = 38600999
  · rw [if_pos c2] at H
    have c2b0 : (t107 == 38600999) = true := beq_iff_eq.mpr c2
    have c2b1 : (t107 != 38600999) = false := bne_eq_false_iff_eq.mpr c2
    clear c2
    obtain ⟨t108, A30, H⟩ := Option.bind_eq_some_iff.mp H
    replace H : (some (t108 == 1)) = some r := H
    have A3 := Aside0.mk A30
    clear A30
    obtain rfl := Option.some.inj H
    clear h
    go_enter Try.func7, Try.ntmps7
    go_wp2_with (first | (go_at_call 10; refine (check_Sum.calls k _ _ [97, 98, 99] t107 _ HR.out (by decide) A1.out).mono ?_; rintro e w' ⟨rfl, ⟨nd, rfl⟩⟩) | (go_at_call 11; refine (check_Start.calls t108 _ A3.out).mono ?_; rintro e w' ⟨rfl, ⟨nd2, rfl⟩⟩))
    go_ret
    exact ⟨rfl, by repeat (first | exact HW.out | apply pw_below_drewN)⟩
  · rw [if_neg c2] at H
    have c2b0 : (t107 == 38600999) = false := beq_eq_false_iff_ne.mpr c2
    have c2b1 : (t107 != 38600999) = true := bne_iff_ne.mpr c2
    obtain rfl := Option.some.inj H
    clear c2
    clear h
    go_enter Try.func7, Try.ntmps7
    go_wp2_with (first | (go_at_call 10; refine (check_Sum.calls k _ _ [97, 98, 99] t107 _ HR.out (by decide) A1.out).mono ?_; rintro e w' ⟨rfl, ⟨nd, rfl⟩⟩))
    go_ret
    exact ⟨rfl, by repeat (first | exact HW.out | apply pw_below_drewN)⟩

/-! ### postbagref04_More: function 9 -/
def postbagref04_More.l0 : Nat → Int → Int → Int → List Int → Int → Int → Option (Int)
  | 0, _, _, _, _, _, _ => none
  | k + 1, x5, x6, x7, x27, x28, x29 => if x29 < x28 then (if 0 ≤ x29 then (if x29 < (x27.length : Int) then (postbagref04_More.l0 k (Int.tmod (wrap64 (x5 + (wrap64 (rd x27 x29)))) 65521) (Int.tmod (wrap64 (x6 + (wrap64 ((wrap64 (rd x27 x29)) * (Int.tmod (wrap64 (x7 - x29)) 65521))))) 65521) x7 x27 x28 (wrap64 (x29 + 1))) else (none)) else (none)) else (some ((((((x6) % 4294967296) * 65536) % 4294967296) + ((x5) % 4294967296)) % 4294967296))
def postbagref04_More.f (k : Nat) (a0 : Int) (l1 : List Int) : Option (Int) := postbagref04_More.l0 k (Int.tmod (wrap64 (Go.bits .and .u32 a0 65535)) 65521) (Int.tmod (wrap64 ((Int.tmod (wrap64 (a0 / 65536)) 65521) + (wrap64 ((Int.tmod (wrap64 (Go.bits .and .u32 a0 65535)) 65521) * ((l1.length : Int) % 65521))))) 65521) (l1.length : Int) l1 (l1.length : Int) 0
theorem postbagref04_More.mono_l : ∀ k, (∀ y0 y1 y2 y3 y4 y5, LeO (postbagref04_More.l0 k y0 y1 y2 y3 y4 y5) (postbagref04_More.l0 (k + 1) y0 y1 y2 y3 y4 y5))
  | 0 => fun _ _ _ _ _ _ r h => by simp [postbagref04_More.l0] at h
  | k + 1 => by
    have ih0 := postbagref04_More.mono_l k
    · intro y0 y1 y2 y3 y4 y5
      unfold postbagref04_More.l0
      repeat' first
      | (with_reducible exact ih0 _ _ _ _ _ _)
      | (with_reducible exact LeO.refl _)
      | (with_reducible exact LeO.none _)
      | (with_reducible refine LeO.ite ?_ ?_)
      | (with_reducible refine LeO.bind ?_ (fun _ => ?_))
      | exact ih0 _ _ _ _ _ _
      | exact LeO.none _
      | refine LeO.ite ?_ ?_
      | refine LeO.bind ?_ (fun _ => ?_)
theorem postbagref04_More.mono : ∀ a0 a1 k, LeO (postbagref04_More.f k a0 a1) (postbagref04_More.f (k + 1) a0 a1) := by
  intro a0 a1 k
  have ih0 := postbagref04_More.mono_l k
  unfold postbagref04_More.f
  repeat' first
      | (with_reducible exact ih0 _ _ _ _ _ _)
      | (with_reducible exact LeO.refl _)
      | (with_reducible exact LeO.none _)
      | (with_reducible refine LeO.ite ?_ ?_)
      | (with_reducible refine LeO.bind ?_ (fun _ => ?_))
      | exact ih0 _ _ _ _ _ _
      | exact LeO.none _
      | refine LeO.ite ?_ ?_
      | refine LeO.bind ?_ (fun _ => ?_)
set_option maxHeartbeats 8000000 in
set_option maxRecDepth 100000 in
theorem postbagref04_More.calls (k : Nat) (a0 : Int) (A1 : Option Addr) (c1 : Nat) (l1 : List Int) (r : Int) (w : World) (hr1 : Kd.C (Kd.int .u8) w A1 l1.length l1) (hc1 : l1.length ≤ c1) (h : postbagref04_More.f k a0 l1 = some r) :
    Calls Try.prog 9 #[.int .u32 a0, .slice A1 l1.length c1] w fun e w' => e = .returned (.int .u32 r) ∧ Drawn0 w w' := by
  have HR1 := Aside0.mk hr1
  have HC1 := Aside0.mk hc1
  clear hr1 hc1
  have H : (postbagref04_More.l0 k (Int.tmod (wrap64 (Go.bits .and .u32 a0 65535)) 65521) (Int.tmod (wrap64 ((Int.tmod (wrap64 (a0 / 65536)) 65521) + (wrap64 ((Int.tmod (wrap64 (Go.bits .and .u32 a0 65535)) 65521) * ((l1.length : Int) % 65521))))) 65521) (l1.length : Int) l1 (l1.length : Int) 0) = some r := h
  clear h
  have H' := Aside0.mk H
  clear H
  go_enter Try.func9, Try.ntmps9
  go_wp2
  go_loopg [5, 6, 29] k (fun kq v5 v6 v29 w' => ∃ (x5_1 : Int) (x6_1 : Int) (x29_1 : Int), v5 = .int .i64 x5_1 ∧ v6 = .int .i64 x6_1 ∧ v29 = .int .i64 x29_1 ∧ Aside0 (postbagref04_More.l0 kq x5_1 x6_1 (l1.length : Int) l1 (l1.length : Int) x29_1 = some r) ∧ Aside0 (kq ≤ k) ∧ Drawn0 w w')
  case atStart => exact ⟨(Int.tmod (wrap64 (Go.bits .and .u32 a0 65535)) 65521), (Int.tmod (wrap64 ((Int.tmod (wrap64 (a0 / 65536)) 65521) + (wrap64 ((Int.tmod (wrap64 (Go.bits .and .u32 a0 65535)) 65521) * ((l1.length : Int) % 65521))))) 65521), (0), (by first | rfl | (simp; done) | (simp [*]; done)), (by first | rfl | (simp; done) | (simp [*]; done)), (by first | rfl | (simp; done) | (simp [*]; done)), H', ⟨Nat.le_refl _⟩, by repeat (first | exact Drawn0.refl _ | apply Drawn0.step)⟩
  case round =>
    clear H'
    try clear c1
    try clear p2
    obtain ⟨x5_1, x6_1, x29_1, rfl, rfl, rfl, HA, HK1, ⟨m1, rfl⟩⟩ := hrel
    cases gk with
    | zero => exact absurd HA.out (by simp [postbagref04_More.l0])
    | succ k1 =>
      have H := HA.out
      clear HA
      simp only [postbagref04_More.l0] at H
      by_cases c3 : x29_1 < (l1.length : Int)
      · rw [if_pos c3] at H
        have c3b0 : decide (x29_1 < (l1.length : Int)) = true := decide_eq_true c3
        clear c3
        by_cases c4 : 0 ≤ x29_1
        · rw [if_pos c4] at H
          have c4b0 : decide (0 ≤ x29_1) = true := decide_eq_true c4
          clear c4
          by_cases c5 : x29_1 < (l1.length : Int)
          · rw [if_pos c5] at H
            have c5b0 : decide (x29_1 < (l1.length : Int)) = true := decide_eq_true c5
            clear c5
            have H' := Aside0.mk H
            clear H
            have p109 : 0 ≤ (x29_1 : Int) := of_decide_eq_true (by first | (with_reducible assumption) | assumption)
            have q109 : x29_1 < (l1.length : Int) := of_decide_eq_true (by first | (with_reducible assumption) | assumption)
            obtain ⟨ad109, e109, hx109_0⟩ := Kd.at_int HR1.out x29_1 p109 q109
            cases e109
            replace p109 := eq_true p109
            replace q109 := eq_true q109
            go_wp2
            go_roundg k1
            case measure => have := HK1.out; omega
            case rel => exact ⟨(Int.tmod (wrap64 (x5_1 + (wrap64 (rd l1 x29_1)))) 65521), (Int.tmod (wrap64 (x6_1 + (wrap64 ((wrap64 (rd l1 x29_1)) * (Int.tmod (wrap64 ((l1.length : Int) - x29_1)) 65521))))) 65521), (wrap64 (x29_1 + 1)), (by first | rfl | (simp; done) | (simp [*]; done)), (by first | rfl | (simp; done) | (simp [*]; done)), (by first | rfl | (simp; done) | (simp [*]; done)), H', ⟨by have := HK1.out; omega⟩, by repeat (first | exact Drawn0.refl _ | apply Drawn0.step)⟩
          · rw [if_neg c5] at H
            exact absurd H (by simp)
        · rw [if_neg c4] at H
          exact absurd H (by simp)
      · rw [if_neg c3] at H
        have c3b0 : decide (x29_1 < (l1.length : Int)) = false := decide_eq_false c3
        clear c3
        obtain rfl := Option.some.inj H
        go_wp2
        go_ret
        exact ⟨by first | rfl | (simp; done) | (simp [*]; done), by repeat (first | exact Drawn0.refl _ | apply Drawn0.step)⟩

/-! ### postbaglaw04_CheckSums: function 3 -/
def postbaglaw04_CheckSums.f (k : Nat) (a0 : Int) (l1 : List Int) : Option (Bool) := (postbaglaw04_alive.f k).bind fun t110 => (if t110 = true then (if (l1.length : Int) > 20000 then (some true) else ((check_More.f k a0 l1).bind fun t111 => ((postbagref04_More.f k a0 l1).bind fun t112 => (if t111 = t112 then ((check_Sum.f k l1).bind fun t113 => ((postbagref04_More.f k 1 l1).bind fun t114 => (some (t113 == t114)))) else (some false))))) else (some false))
theorem postbaglaw04_CheckSums.mono : ∀ a0 a1 k, LeO (postbaglaw04_CheckSums.f k a0 a1) (postbaglaw04_CheckSums.f (k + 1) a0 a1) := by
  intro a0 a1 k
  unfold postbaglaw04_CheckSums.f
  repeat' first
      | (with_reducible exact check_More.mono _ _ _)
      | (with_reducible exact check_Sum.mono _ _)
      | (with_reducible exact postbaglaw04_alive.mono _)
      | (with_reducible exact postbagref04_More.mono _ _ _)
      | (with_reducible exact LeO.refl _)
      | (with_reducible exact LeO.none _)
      | (with_reducible refine LeO.ite ?_ ?_)
      | (with_reducible refine LeO.bind ?_ (fun _ => ?_))
      | exact check_More.mono _ _ _
      | exact check_Sum.mono _ _
      | exact postbaglaw04_alive.mono _
      | exact postbagref04_More.mono _ _ _
      | exact LeO.none _
      | refine LeO.ite ?_ ?_
      | refine LeO.bind ?_ (fun _ => ?_)
set_option maxHeartbeats 8000000 in
set_option maxRecDepth 100000 in
theorem postbaglaw04_CheckSums.calls (k : Nat) (a0 : Int) (A1 : Option Addr) (c1 : Nat) (l1 : List Int) (r : Bool) (w : World) (hr1 : Kd.C (Kd.int .u8) w A1 l1.length l1) (hc1 : l1.length ≤ c1) (h : postbaglaw04_CheckSums.f k a0 l1 = some r) :
    Calls Try.prog 3 #[.int .u32 a0, .slice A1 l1.length c1] w fun e w' => e = .returned (.bool r) ∧ Below w.heap.size w w' := by
  have HR1 := Aside0.mk hr1
  have HC1 := Aside0.mk hc1
  clear hr1 hc1
  have HB := Aside0.mk (Below.refl w.heap.size w)
  have H : ((postbaglaw04_alive.f k).bind fun t110 => (if t110 = true then (if (l1.length : Int) > 20000 then (some true) else ((check_More.f k a0 l1).bind fun t111 => ((postbagref04_More.f k a0 l1).bind fun t112 => (if t111 = t112 then ((check_Sum.f k l1).bind fun t113 => ((postbagref04_More.f k 1 l1).bind fun t114 => (some (t113 == t114)))) else (some false))))) else (some false))) = some r := h
  clear h
  replace H := Option.bind_eq_some_iff.mp H
  obtain ⟨t110, A30, H⟩ := H
  replace H : (if t110 = true then (if (l1.length : Int) > 20000 then (some true) else ((check_More.f k a0 l1).bind fun t111 => ((postbagref04_More.f k a0 l1).bind fun t112 => (if t111 = t112 then ((check_Sum.f k l1).bind fun t113 => ((postbagref04_More.f k 1 l1).bind fun t114 => (some (t113 == t114)))) else (some false))))) else (some false)) = some r := H
  have A3 := Aside0.mk A30
  clear A30
  by_cases c4 : t110 = true
  · subst c4
    have H1 : (if (l1.length : Int) > 20000 then (some true) else ((check_More.f k a0 l1).bind fun t111 => ((postbagref04_More.f k a0 l1).bind fun t112 => (if t111 = t112 then ((check_Sum.f k l1).bind fun t113 => ((postbagref04_More.f k 1 l1).bind fun t114 => (some (t113 == t114)))) else (some false))))) = some r := by rw [if_pos rfl] at H; exact H
    clear H
    have H := H1
    clear H1
    by_cases c5 : (l1.length : Int) > 20000
    · rw [if_pos c5] at H
      have c5b0 : decide (20000 < (l1.length : Int)) = true := decide_eq_true c5
      have c5b1 : decide (20000 < l1.length) = true := decide_eq_true (by omega)
      clear c5
      obtain rfl := Option.some.inj H
      go_enter Try.func3, Try.ntmps3
      go_wp2_with (first | ((with_reducible refine gate_callee (f := 7) rfl ?_); refine goesL_ (some 5) rfl rfl Try.func7 (by kernel_rfl) rfl #[] rfl (by (try simp only [List.map_toArray, List.map_cons, List.map_nil]); first | done | rfl | (simp only [List.length_drop, List.length_take]; rfl)) ?_; (with_reducible refine (postbaglaw04_alive.calls k  true _ A3.out).mono ?_); rintro e w6 ⟨rfl, hb⟩; refine ⟨_, rfl, ?_⟩; have n0_ := Aside0.mk (below_step (by repeat (first | (with_reducible first | exact HB.out | apply below_alloc | apply pw_below_drewN | apply below_drew1) | exact HB.out)) hb); clear HB; have HB := n0_; clear n0_; (try clear hb); (try clear hb2); (try clear hk); (try clear hi)))
      go_ret
      exact ⟨by first | rfl | (simp [errW_none, errW_some] <;> rfl) | (simp [*, errW_none, errW_some] <;> rfl), by repeat (first | (with_reducible first | exact HB.out | apply below_alloc | apply pw_below_drewN | apply below_drew1) | exact HB.out)⟩
    · rw [if_neg c5] at H
      have c5b0 : decide (20000 < (l1.length : Int)) = false := decide_eq_false c5
      have c5b1 : decide (20000 < l1.length) = false := decide_eq_false (by omega)
      clear c5
      replace H := Option.bind_eq_some_iff.mp H
      obtain ⟨t111, A70, H⟩ := H
      replace H : ((postbagref04_More.f k a0 l1).bind fun t112 => (if t111 = t112 then ((check_Sum.f k l1).bind fun t113 => ((postbagref04_More.f k 1 l1).bind fun t114 => (some (t113 == t114)))) else (some false))) = some r := H
      have A7 := Aside0.mk A70
      clear A70
      replace H := Option.bind_eq_some_iff.mp H
      obtain ⟨t112, A80, H⟩ := H
      replace H : (if t111 = t112 then ((check_Sum.f k l1).bind fun t113 => ((postbagref04_More.f k 1 l1).bind fun t114 => (some (t113 == t114)))) else (some false)) = some r := H
      have A8 := Aside0.mk A80
      clear A80
      by_cases c9 : t111 = t112
      · rw [if_pos c9] at H
        have c9b0 : (t111 == t112) = true := beq_iff_eq.mpr c9
        have c9b1 : (t111 != t112) = false := bne_eq_false_iff_eq.mpr c9
        clear c9
        replace H := Option.bind_eq_some_iff.mp H
        obtain ⟨t113, A100, H⟩ := H
        replace H : ((postbagref04_More.f k 1 l1).bind fun t114 => (some (t113 == t114))) = some r := H
        have A10 := Aside0.mk A100
        clear A100
        replace H := Option.bind_eq_some_iff.mp H
        obtain ⟨t114, A110, H⟩ := H
        replace H : (some (t113 == t114)) = some r := H
        have A11 := Aside0.mk A110
        clear A110
        obtain rfl := Option.some.inj H
        go_enter Try.func3, Try.ntmps3
        go_wp2_with (first | ((with_reducible refine gate_callee (f := 7) rfl ?_); refine goesL_ (some 5) rfl rfl Try.func7 (by kernel_rfl) rfl #[] rfl (by (try simp only [List.map_toArray, List.map_cons, List.map_nil]); first | done | rfl | (simp only [List.length_drop, List.length_take]; rfl)) ?_; (with_reducible refine (postbaglaw04_alive.calls k  true _ A3.out).mono ?_); rintro e w12 ⟨rfl, hb⟩; refine ⟨_, rfl, ?_⟩; have n0_ := Aside0.mk (below_step (by repeat (first | (with_reducible first | exact HB.out | apply below_alloc | apply pw_below_drewN | apply below_drew1) | exact HB.out)) hb); clear HB; have HB := n0_; clear n0_; (try clear hb); (try clear hb2); (try clear hk); (try clear hi)) | ((with_reducible refine gate_callee (f := 8) rfl ?_); refine goesL_ (some 12) rfl rfl Try.func8 (by kernel_rfl) rfl #[.int .u32 a0, .slice A1 l1.length c1] rfl (by (try simp only [List.map_toArray, List.map_cons, List.map_nil]); first | done | rfl | (simp only [List.length_drop, List.length_take]; rfl)) ?_; (with_reducible refine (check_More.calls k a0 _ _ l1 t111 _ ?side1 ?side2 A7.out).mono ?_); (case side1 => repeat (first | exact (Kd.C_below HR1.out HB.out) | (with_reducible refine Kd.C_alloc ?_ _) | (with_reducible refine Kd.C_drewN ?_ _) | (with_reducible refine Kd.C_drew ?_))); (case side2 => exact HC1.out); rintro e w' ⟨rfl, ⟨nd, rfl⟩⟩; refine ⟨_, rfl, ?_⟩) | ((with_reducible refine gate_callee (f := 9) rfl ?_); refine goesL_ (some 15) rfl rfl Try.func9 (by kernel_rfl) rfl #[.int .u32 a0, .slice A1 l1.length c1] rfl (by (try simp only [List.map_toArray, List.map_cons, List.map_nil]); first | done | rfl | (simp only [List.length_drop, List.length_take]; rfl)) ?_; (with_reducible refine (postbagref04_More.calls k a0 _ _ l1 t112 _ ?side1 ?side2 A8.out).mono ?_); (case side1 => repeat (first | exact (Kd.C_below HR1.out (by repeat (first | (with_reducible first | exact HB.out | apply below_alloc | apply pw_below_drewN | apply below_drew1) | exact HB.out))) | (with_reducible refine Kd.C_alloc ?_ _) | (with_reducible refine Kd.C_drewN ?_ _) | (with_reducible refine Kd.C_drew ?_))); (case side2 => exact HC1.out); rintro e w' ⟨rfl, ⟨nd, rfl⟩⟩; refine ⟨_, rfl, ?_⟩) | (go_at_call 10; (with_reducible refine (check_Sum.calls k _ _ l1 t113 _ ?side1 ?side2 A10.out).mono ?_); (case side1 => repeat (first | exact (Kd.C_below HR1.out (by repeat (first | (with_reducible first | exact HB.out | apply below_alloc | apply pw_below_drewN | apply below_drew1) | exact HB.out))) | (with_reducible refine Kd.C_alloc ?_ _) | (with_reducible refine Kd.C_drewN ?_ _) | (with_reducible refine Kd.C_drew ?_))); (case side2 => exact HC1.out); rintro e w' ⟨rfl, ⟨nd, rfl⟩⟩) | (go_at_call 9; (with_reducible refine (postbagref04_More.calls k 1 _ _ l1 t114 _ ?side1 ?side2 A11.out).mono ?_); (case side1 => repeat (first | exact (Kd.C_below HR1.out (by repeat (first | (with_reducible first | exact HB.out | apply below_alloc | apply pw_below_drewN | apply below_drew1) | exact HB.out))) | (with_reducible refine Kd.C_alloc ?_ _) | (with_reducible refine Kd.C_drewN ?_ _) | (with_reducible refine Kd.C_drew ?_))); (case side2 => exact HC1.out); rintro e w' ⟨rfl, ⟨nd, rfl⟩⟩))
        go_ret
        exact ⟨by first | rfl | (simp [errW_none, errW_some] <;> rfl) | (simp [*, errW_none, errW_some] <;> rfl), by repeat (first | (with_reducible first | exact HB.out | apply below_alloc | apply pw_below_drewN | apply below_drew1) | exact HB.out)⟩
      · rw [if_neg c9] at H
        have c9b0 : (t111 == t112) = false := beq_eq_false_iff_ne.mpr c9
        have c9b1 : (t111 != t112) = true := bne_iff_ne.mpr c9
        obtain rfl := Option.some.inj H
        go_enter Try.func3, Try.ntmps3
        go_wp2_with (first | ((with_reducible refine gate_callee (f := 7) rfl ?_); refine goesL_ (some 5) rfl rfl Try.func7 (by kernel_rfl) rfl #[] rfl (by (try simp only [List.map_toArray, List.map_cons, List.map_nil]); first | done | rfl | (simp only [List.length_drop, List.length_take]; rfl)) ?_; (with_reducible refine (postbaglaw04_alive.calls k  true _ A3.out).mono ?_); rintro e w13 ⟨rfl, hb⟩; refine ⟨_, rfl, ?_⟩; have n0_ := Aside0.mk (below_step (by repeat (first | (with_reducible first | exact HB.out | apply below_alloc | apply pw_below_drewN | apply below_drew1) | exact HB.out)) hb); clear HB; have HB := n0_; clear n0_; (try clear hb); (try clear hb2); (try clear hk); (try clear hi)) | ((with_reducible refine gate_callee (f := 8) rfl ?_); refine goesL_ (some 12) rfl rfl Try.func8 (by kernel_rfl) rfl #[.int .u32 a0, .slice A1 l1.length c1] rfl (by (try simp only [List.map_toArray, List.map_cons, List.map_nil]); first | done | rfl | (simp only [List.length_drop, List.length_take]; rfl)) ?_; (with_reducible refine (check_More.calls k a0 _ _ l1 t111 _ ?side1 ?side2 A7.out).mono ?_); (case side1 => repeat (first | exact (Kd.C_below HR1.out HB.out) | (with_reducible refine Kd.C_alloc ?_ _) | (with_reducible refine Kd.C_drewN ?_ _) | (with_reducible refine Kd.C_drew ?_))); (case side2 => exact HC1.out); rintro e w' ⟨rfl, ⟨nd, rfl⟩⟩; refine ⟨_, rfl, ?_⟩) | ((with_reducible refine gate_callee (f := 9) rfl ?_); refine goesL_ (some 15) rfl rfl Try.func9 (by kernel_rfl) rfl #[.int .u32 a0, .slice A1 l1.length c1] rfl (by (try simp only [List.map_toArray, List.map_cons, List.map_nil]); first | done | rfl | (simp only [List.length_drop, List.length_take]; rfl)) ?_; (with_reducible refine (postbagref04_More.calls k a0 _ _ l1 t112 _ ?side1 ?side2 A8.out).mono ?_); (case side1 => repeat (first | exact (Kd.C_below HR1.out (by repeat (first | (with_reducible first | exact HB.out | apply below_alloc | apply pw_below_drewN | apply below_drew1) | exact HB.out))) | (with_reducible refine Kd.C_alloc ?_ _) | (with_reducible refine Kd.C_drewN ?_ _) | (with_reducible refine Kd.C_drew ?_))); (case side2 => exact HC1.out); rintro e w' ⟨rfl, ⟨nd, rfl⟩⟩; refine ⟨_, rfl, ?_⟩))
        go_ret
        exact ⟨by first | rfl | (simp [errW_none, errW_some] <;> rfl) | (simp [*, errW_none, errW_some] <;> rfl), by repeat (first | (with_reducible first | exact HB.out | apply below_alloc | apply pw_below_drewN | apply below_drew1) | exact HB.out)⟩
  · replace c4 := Bool.eq_false_iff.mpr c4
    subst c4
    have H1 : (some false) = some r := by rw [if_neg (show ¬ (false = true) by decide)] at H; exact H
    clear H
    have H := H1
    clear H1
    obtain rfl := Option.some.inj H
    go_enter Try.func3, Try.ntmps3
    go_wp2_with (first | ((with_reducible refine gate_callee (f := 7) rfl ?_); refine goesL_ (some 5) rfl rfl Try.func7 (by kernel_rfl) rfl #[] rfl (by (try simp only [List.map_toArray, List.map_cons, List.map_nil]); first | done | rfl | (simp only [List.length_drop, List.length_take]; rfl)) ?_; (with_reducible refine (postbaglaw04_alive.calls k  false _ A3.out).mono ?_); rintro e w14 ⟨rfl, hb⟩; refine ⟨_, rfl, ?_⟩; have n0_ := Aside0.mk (below_step (by repeat (first | (with_reducible first | exact HB.out | apply below_alloc | apply pw_below_drewN | apply below_drew1) | exact HB.out)) hb); clear HB; have HB := n0_; clear n0_; (try clear hb); (try clear hb2); (try clear hk); (try clear hi)))
    go_ret
    exact ⟨by first | rfl | (simp [errW_none, errW_some] <;> rfl) | (simp [*, errW_none, errW_some] <;> rfl), by repeat (first | (with_reducible first | exact HB.out | apply below_alloc | apply pw_below_drewN | apply below_drew1) | exact HB.out)⟩

/-- THE ONE PURE STATEMENT of postbaglaw04_CheckSums: yours. -/
def postbaglaw04_CheckSums.Pure : Prop := ∀ (a0 : Int) (l1 : List Int), (Lit.int .u32 a0).wf = true → l1.length ≤ maxLen → l1.length * 1 ≤ 140737488351232 → (∀ x ∈ l1, (Lit.int .u8 x).wf = true) → ∃ k, postbaglaw04_CheckSums.f k a0 l1 = some true
theorem postbaglaw04_CheckSums.walk (P : postbaglaw04_CheckSums.Pure) (a0 : Int) (a1 : Option Addr) (len1 cap1 : Nat) (z1 : List Int) (w : World) (w0 : (Lit.int .u32 a0).wf = true) (w1 : (a1 = none ∧ len1 = 0 ∧ cap1 = 0 ∧ z1 = []) ∨ ∃ x, a1 = some x ∧ len1 ≤ cap1 ∧ cap1 ≤ maxLen ∧ z1.length = cap1 ∧ (∀ i, i < z1.length → w.cell? (x.add i) = some (.int .u8 (z1.getD i 0))) ∧ ∀ n ∈ z1, (Lit.int .u8 n).wf = true) (y1 : len1 * 1 ≤ 140737488351232) :
    Calls Try.prog 3 #[.int .u32 a0, .slice a1 len1 cap1] w fun e w' => e = .returned (.bool true) ∧ Below w.heap.size w w' := by
  obtain ⟨l1, rfl, hr1, hm1, hw1, hc1⟩ := ReadsInt.ofRowC w1
  obtain ⟨k, h⟩ := P a0 l1 w0 hm1 y1 hw1
  refine (postbaglaw04_CheckSums.calls k a0 _ _ l1 true w (Kd.C_of_reads (d := (0 : Int)) (h1 := fun _ => rfl) hr1) hc1 h).mono ?_
  rintro e w' ⟨rfl, hd⟩
  exact ⟨rfl, hd⟩

end Go.Proofs.Ythlofokgbogndaa.PCheckSums
