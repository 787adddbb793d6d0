/- Written by a program of mine (wip/tools/mkprint.py turns the kit's print; given contracts by hand). Lean checks it. -/
import Derived.Test.YthlofokgbogndaaDoorGCheckx0
namespace Go.Proofs.YthlofokgbogndaaDoor.GCheck
open Go.RowKit Go.Proofs.YthlofokgbogndaaDoorW.PrintWords Go.Proofs.YthlofokgbogndaaDoorW.PrintLast Go.Proofs.YthlofokgbogndaaDoorW.PrintMore
attribute [local go_sem] max2_int min2_int max_two min_two max_three min_three max_four min_four   -- for this text's walks alone
set_option linter.unusedVariables false
set_option linter.unusedSimpArgs false

/-! ### check_Start: function 10 -/
def check_Start.f  : Option (Int) := some 1
set_option maxHeartbeats 8000000 in
set_option maxRecDepth 100000 in
theorem check_Start.calls  (r : Int) (w : World) (h : check_Start.f  = some r) :
    Calls Tryd.prog 10 #[] w fun e w' => e = .returned (.int .u32 r) ∧ Drawn0 w w' := by
  have H : (some 1) = some r := h
  clear h
  obtain rfl := Option.some.inj H
  go_enter Tryd.func10, Tryd.ntmps10
  go_wp2
  go_ret
  exact ⟨by first | rfl | (simp; done) | (simp [*]; done), by repeat (first | exact Drawn0.refl _ | apply Drawn0.step)⟩

/-! ### check_More: function 17 -/
def check_More.l0 : Nat → Int → Int → List Int → Int → Int → Option (Int)
  | 0, _, _, _, _, _ => none
  | k + 1, x5, x6, x15, x16, x17 => if x17 < x16 then (if 0 ≤ x17 then (if x17 < (x15.length : Int) then (check_More.l0 k (((x5 + ((rd x15 x17) % 4294967296)) % 4294967296) % 65521) (((x6 + (((x5 + ((rd x15 x17) % 4294967296)) % 4294967296) % 65521)) % 4294967296) % 65521) x15 x16 (wrap64 (x17 + 1))) else (none)) else (none)) else (some ((((x6 * 65536) % 4294967296) + x5) % 4294967296))
def check_More.f (k : Nat) (a0 : Int) (l1 : List Int) : Option (Int) := check_More.l0 k (Int.tmod (Int.tmod a0 65536) 65521) (((Int.tdiv a0 65536) % 4294967296) % 65521) l1 (l1.length : Int) 0
theorem check_More.mono_l : ∀ k, (∀ y0 y1 y2 y3 y4, LeO (check_More.l0 k y0 y1 y2 y3 y4) (check_More.l0 (k + 1) y0 y1 y2 y3 y4))
  | 0 => fun _ _ _ _ _ r h => by simp [check_More.l0] at h
  | k + 1 => by
    have ih0 := check_More.mono_l k
    · intro y0 y1 y2 y3 y4
      unfold check_More.l0
      repeat' first
      | (with_reducible exact ih0 _ _ _ _ _)
      | (with_reducible exact LeO.refl _)
      | (with_reducible exact LeO.none _)
      | (with_reducible refine LeO.ite ?_ ?_)
      | (with_reducible refine LeO.bind ?_ (fun _ => ?_))
      | exact ih0 _ _ _ _ _
      | exact LeO.none _
      | refine LeO.ite ?_ ?_
      | refine LeO.bind ?_ (fun _ => ?_)
theorem check_More.mono : ∀ a0 a1 k, LeO (check_More.f k a0 a1) (check_More.f (k + 1) a0 a1) := by
  intro a0 a1 k
  have ih0 := check_More.mono_l k
  unfold check_More.f
  repeat' first
      | (with_reducible exact ih0 _ _ _ _ _)
      | (with_reducible exact LeO.refl _)
      | (with_reducible exact LeO.none _)
      | (with_reducible refine LeO.ite ?_ ?_)
      | (with_reducible refine LeO.bind ?_ (fun _ => ?_))
      | exact ih0 _ _ _ _ _
      | exact LeO.none _
      | refine LeO.ite ?_ ?_
      | refine LeO.bind ?_ (fun _ => ?_)
set_option maxHeartbeats 8000000 in
set_option maxRecDepth 100000 in
theorem check_More.calls (k : Nat) (a0 : Int) (A1 : Option Addr) (c1 : Nat) (l1 : List Int) (r : Int) (w : World) (hr1 : Kd.C (Kd.int .u8) w A1 l1.length l1) (hc1 : l1.length ≤ c1) (h : check_More.f k a0 l1 = some r) :
    Calls Tryd.prog 17 #[.int .u32 a0, .slice A1 l1.length c1] w fun e w' => e = .returned (.int .u32 r) ∧ Drawn0 w w' := by
  have HR1 := Aside0.mk hr1
  have HC1 := Aside0.mk hc1
  clear hr1 hc1
  have H : (check_More.l0 k (Int.tmod (Int.tmod a0 65536) 65521) (((Int.tdiv a0 65536) % 4294967296) % 65521) l1 (l1.length : Int) 0) = some r := h
  clear h
  have H' := Aside0.mk H
  clear H
  go_enter Tryd.func17, Tryd.ntmps17
  go_wp2
  go_loopg [5, 6, 17] k (fun kq v5 v6 v17 w' => ∃ (x5_1 : Int) (x6_1 : Int) (x17_1 : Int), v5 = .int .u32 x5_1 ∧ v6 = .int .u32 x6_1 ∧ v17 = .int .i64 x17_1 ∧ Aside0 (check_More.l0 kq x5_1 x6_1 l1 (l1.length : Int) x17_1 = some r) ∧ Aside0 (kq ≤ k) ∧ Drawn0 w w')
  case atStart => exact ⟨(Int.tmod (Int.tmod a0 65536) 65521), (((Int.tdiv a0 65536) % 4294967296) % 65521), (0), (by first | rfl | (simp; done) | (simp [*]; done)), (by first | rfl | (simp; done) | (simp [*]; done)), (by first | rfl | (simp; done) | (simp [*]; done)), H', ⟨Nat.le_refl _⟩, by repeat (first | exact Drawn0.refl _ | apply Drawn0.step)⟩
  case round =>
    clear H'
    try clear c1
    try clear p2
    obtain ⟨x5_1, x6_1, x17_1, rfl, rfl, rfl, HA, HK1, ⟨m1, rfl⟩⟩ := hrel
    cases gk with
    | zero => exact absurd HA.out (by simp [check_More.l0])
    | succ k1 =>
      have H := HA.out
      clear HA
      simp only [check_More.l0] at H
      by_cases c3 : x17_1 < (l1.length : Int)
      · rw [if_pos c3] at H
        have c3b0 : decide (x17_1 < (l1.length : Int)) = true := decide_eq_true c3
        clear c3
        by_cases c4 : 0 ≤ x17_1
        · rw [if_pos c4] at H
          have c4b0 : decide (0 ≤ x17_1) = true := decide_eq_true c4
          clear c4
          by_cases c5 : x17_1 < (l1.length : Int)
          · rw [if_pos c5] at H
            have c5b0 : decide (x17_1 < (l1.length : Int)) = true := decide_eq_true c5
            clear c5
            have H' := Aside0.mk H
            clear H
            have p101 : 0 ≤ (x17_1 : Int) := of_decide_eq_true (by first | (with_reducible assumption) | assumption)
            have q101 : x17_1 < (l1.length : Int) := of_decide_eq_true (by first | (with_reducible assumption) | assumption)
            obtain ⟨ad101, e101, hx101_0⟩ := Kd.at_int HR1.out x17_1 p101 q101
            cases e101
            replace p101 := eq_true p101
            replace q101 := eq_true q101
            go_wp2
            go_roundg k1
            case measure => have := HK1.out; omega
            case rel => exact ⟨(((x5_1 + ((rd l1 x17_1) % 4294967296)) % 4294967296) % 65521), (((x6_1 + (((x5_1 + ((rd l1 x17_1) % 4294967296)) % 4294967296) % 65521)) % 4294967296) % 65521), (wrap64 (x17_1 + 1)), (by first | rfl | (simp; done) | (simp [*]; done)), (by first | rfl | (simp; done) | (simp [*]; done)), (by first | rfl | (simp; done) | (simp [*]; done)), H', ⟨by have := HK1.out; omega⟩, by repeat (first | exact Drawn0.refl _ | apply Drawn0.step)⟩
          · rw [if_neg c5] at H
            exact absurd H (by simp)
        · rw [if_neg c4] at H
          exact absurd H (by simp)
      · rw [if_neg c3] at H
        have c3b0 : decide (x17_1 < (l1.length : Int)) = false := decide_eq_false c3
        clear c3
        obtain rfl := Option.some.inj H
        go_wp2
        go_ret
        exact ⟨by first | rfl | (simp; done) | (simp [*]; done), by repeat (first | exact Drawn0.refl _ | apply Drawn0.step)⟩

/-! ### check_Sum: function 9 -/
def check_Sum.f (k : Nat) (l0 : List Int) : Option (Int) := (check_Start.f).bind fun t102 => ((check_More.f k t102 l0).bind fun t103 => (some t103))
theorem check_Sum.mono : ∀ a0 k, LeO (check_Sum.f k a0) (check_Sum.f (k + 1) a0) := by
  intro a0 k
  unfold check_Sum.f
  repeat' first
      | (with_reducible exact check_More.mono _ _ _)
      | (with_reducible exact LeO.refl _)
      | (with_reducible exact LeO.none _)
      | (with_reducible refine LeO.ite ?_ ?_)
      | (with_reducible refine LeO.bind ?_ (fun _ => ?_))
      | exact check_More.mono _ _ _
      | exact LeO.none _
      | refine LeO.ite ?_ ?_
      | refine LeO.bind ?_ (fun _ => ?_)
set_option maxHeartbeats 8000000 in
set_option maxRecDepth 100000 in
theorem check_Sum.calls (k : Nat) (A0 : Option Addr) (c0 : Nat) (l0 : List Int) (r : Int) (w : World) (hr0 : Kd.C (Kd.int .u8) w A0 l0.length l0) (hc0 : l0.length ≤ c0) (h : check_Sum.f k l0 = some r) :
    Calls Tryd.prog 9 #[.slice A0 l0.length c0] w fun e w' => e = .returned (.int .u32 r) ∧ Drawn0 w w' := by
  have HR0 := Aside0.mk hr0
  have HC0 := Aside0.mk hc0
  clear hr0 hc0
  have H : ((check_Start.f).bind fun t102 => ((check_More.f k t102 l0).bind fun t103 => (some t103))) = some r := h
  clear h
  replace H := Option.bind_eq_some_iff.mp H
  obtain ⟨t102, A20, H⟩ := H
  replace H : ((check_More.f k t102 l0).bind fun t103 => (some t103)) = some r := H
  have A2 := Aside0.mk A20
  clear A20
  replace H := Option.bind_eq_some_iff.mp H
  obtain ⟨t103, A30, H⟩ := H
  replace H : (some t103) = some r := H
  have A3 := Aside0.mk A30
  clear A30
  obtain rfl := Option.some.inj H
  go_enter Tryd.func9, Tryd.ntmps9
  go_wp2_with (first | ((with_reducible refine gate_callee (f := 10) rfl ?_); refine goesL_ (some 3) rfl rfl Tryd.func10 (by kernel_rfl) rfl #[] rfl (by (try simp only [List.map_toArray, List.map_cons, List.map_nil]); first | done | rfl | (simp only [List.length_drop, List.length_take]; rfl)) ?_; (with_reducible refine (check_Start.calls  t102 _ A2.out).mono ?_); rintro e w' ⟨rfl, ⟨nd, rfl⟩⟩; refine ⟨_, rfl, ?_⟩) | ((with_reducible refine gate_callee (f := 17) rfl ?_); refine goesL_ (some 5) rfl rfl Tryd.func17 (by kernel_rfl) rfl #[.int .u32 t102, .slice A0 l0.length c0] rfl (by (try simp only [List.map_toArray, List.map_cons, List.map_nil]); first | done | rfl | (simp only [List.length_drop, List.length_take]; rfl)) ?_; (with_reducible refine (check_More.calls k t102 _ _ l0 t103 _ ?side1 ?side2 A3.out).mono ?_); (case side1 => repeat (first | exact HR0.out | (with_reducible refine Kd.C_alloc ?_ _) | (with_reducible refine Kd.C_drewN ?_ _) | (with_reducible refine Kd.C_drew ?_))); (case side2 => exact HC0.out); rintro e w' ⟨rfl, ⟨nd, rfl⟩⟩; refine ⟨_, rfl, ?_⟩))
  go_ret
  exact ⟨by first | rfl | (simp; done) | (simp [*]; done), by repeat (first | exact Drawn0.refl _ | apply Drawn0.step)⟩

/-! ### postbaglaw04_alive: function 5 -/
def postbaglaw04_alive.f (k : Nat)  : Option (Bool) := (check_Sum.f k (([97, 98, 99] : List Int))).bind fun t107 => (if t107 = 38600999 then ((check_Start.f).bind fun t108 => (some (t108 == 1))) else (some false))
theorem postbaglaw04_alive.mono : ∀ k, LeO (postbaglaw04_alive.f k ) (postbaglaw04_alive.f (k + 1) ) := by
  intro  k
  unfold postbaglaw04_alive.f
  repeat' first
      | (with_reducible exact check_Sum.mono _ _)
      | (with_reducible exact LeO.refl _)
      | (with_reducible exact LeO.none _)
      | (with_reducible refine LeO.ite ?_ ?_)
      | (with_reducible refine LeO.bind ?_ (fun _ => ?_))
      | exact check_Sum.mono _ _
      | exact LeO.none _
      | refine LeO.ite ?_ ?_
      | refine LeO.bind ?_ (fun _ => ?_)
/-- A row of bytes that has been laid as a literal, with the run-time's mark behind its cells, reads as its bytes. -/
theorem lit_reads (w : World) (xs : List Int) (fr : Nat × Nat) (e : TypeId) (hn : xs.length ≤ 9223372036854775807) : Kd.C (Kd.int .u8) (w.alloc (.cells (nums .u8 xs).toArray e fr)) (some ⟨w.heap.size, 0, none⟩) xs.length xs := by
  refine ⟨rfl, hn, fun _ => ⟨_, rfl, fun j p hj => ⟨[.int .u8 p], rfl, rfl, fun i u hi => ?_⟩⟩⟩
  obtain rfl : i = 0 := by
    have := (List.getElem?_eq_some_iff.1 hi).1
    simpa using this
  have hu : u = .int .u8 p := by simpa using hi.symm
  subst hu
  rw [add_plain, World.cell?_alloc_mark]
  simp [nums, Kd.int, Kd.scalar, hj]
theorem lit_world (w : World) (o : Obj) : Below w.heap.size w (w.alloc o) := (Below.refl _ _).alloc (Nat.le_refl _) _
set_option maxHeartbeats 8000000 in
set_option maxRecDepth 100000 in
theorem postbaglaw04_alive.calls (k : Nat) (r : Bool) (w : World) (h : postbaglaw04_alive.f k  = some r) :
    Calls Tryd.prog 5 #[] w fun e w' => e = .returned (.bool r) ∧ Below w.heap.size w w' := by
  have kc := fun (w : World) (C : Array Value) (n c : Nat) => Lib.run_convert_bytes_const (P := Tryd.prog) w 22 5 C n c Tryd.underlying22 Tryd.underlying5
  obtain ⟨t107, A10, H⟩ := Option.bind_eq_some_iff.mp h
  have A1 := Aside0.mk A10
  clear A10
  replace H : (if t107 = 38600999 then ((check_Start.f).bind fun t108 => (some (t108 == 1))) else (some false)) = some r := H
  have HW := Aside0.mk (lit_world w (.cells #[.int .u8 97, .int .u8 98, .int .u8 99] 5 (3, 4)))
  have HR := Aside0.mk (lit_reads w [97, 98, 99] (3, 4) 5 (by decide))
  by_cases c2 : t107 = 38600999
  · rw [if_pos c2] at H
    have c2b0 : (t107 == 38600999) = true := beq_iff_eq.mpr c2
    have c2b1 : (t107 != 38600999) = false := bne_eq_false_iff_eq.mpr c2
    clear c2
    obtain ⟨t108, A30, H⟩ := Option.bind_eq_some_iff.mp H
    replace H : (some (t108 == 1)) = some r := H
    have A3 := Aside0.mk A30
    clear A30
    obtain rfl := Option.some.inj H
    clear h
    go_enter Tryd.func5, Tryd.ntmps5
    go_wp2_with (first | (go_at_call 9; refine (check_Sum.calls k _ _ [97, 98, 99] t107 _ HR.out (by decide) A1.out).mono ?_; rintro e w' ⟨rfl, ⟨nd, rfl⟩⟩) | (go_at_call 10; refine (check_Start.calls t108 _ A3.out).mono ?_; rintro e w' ⟨rfl, ⟨nd2, rfl⟩⟩))
    go_ret
    exact ⟨rfl, by repeat (first | exact HW.out | apply pw_below_drewN)⟩
  · rw [if_neg c2] at H
    have c2b0 : (t107 == 38600999) = false := beq_eq_false_iff_ne.mpr c2
    have c2b1 : (t107 != 38600999) = true := bne_iff_ne.mpr c2
    obtain rfl := Option.some.inj H
    clear c2
    clear h
    go_enter Tryd.func5, Tryd.ntmps5
    go_wp2_with (first | (go_at_call 9; refine (check_Sum.calls k _ _ [97, 98, 99] t107 _ HR.out (by decide) A1.out).mono ?_; rintro e w' ⟨rfl, ⟨nd, rfl⟩⟩))
    go_ret
    exact ⟨rfl, by repeat (first | exact HW.out | apply pw_below_drewN)⟩


-- function 18 (slices_Grow_byte_byte): its walk stands in a text of its own

/-! ### slices_Concat_byte_byte: function 11 -/
theorem addr_zero (a : Addr) : a.add 0 = a := by
  unfold Addr.add
  split <;> simp_all
/-- 'x[:m]' of a slice, m within its capacity. -/
theorem print_top_raw {P : Program} (t e : TypeId) (ht : P.underlying t = some (.slice e)) (hi : ∃ i, P.info? e = some i) (a : Addr) (n c m : Nat) (hm : m ≤ c) (W : World) :
    (Instr.slice t (.slice (some a) n c) none (some (.int .i64 (m : Int))) none).run P W = .ok (.slice (some a) m c) W := by
  obtain ⟨i, hi⟩ := hi
  have hel : P.elem t = e := by simp [Program.elem, ht]
  have hu : P.underlying t = some (.slice (P.elem t)) := by rw [hel]; exact ht
  rw [run_slice_h W t (some a) n c hu .i64 (m : Int) (Int.natCast_nonneg _) (by omega), hel]
  simp [sizeOf, typeInfo, hi, sliced, Result.andThen, addr_zero]
/-- An element of a row of rows of bytes. -/
theorem rows_at {w : World} {e : TypeId} {A : Option Addr} {xs : List (List Int)} {n : Nat} (h : Kd.C (Kd.slice e (Kd.int .u8)) w A n xs) (k : Nat) (hk : k < xs.length) :
    ∃ (ad : Addr) (A' : Option Addr) (c' : Nat), A = some ad ∧ w.cell? (ad.add k) = some (.slice A' xs[k].length c') ∧ xs[k].length ≤ c' ∧ Kd.C (Kd.int .u8) w A' xs[k].length xs[k] := by
  have hn : xs.length = n := h.1
  obtain ⟨ad, ea, hc⟩ := h.2.2 (by omega)
  obtain ⟨c, hs, ⟨A', c', hcs, hl, hC⟩, hcell⟩ := hc k xs[k] (List.getElem?_eq_getElem hk)
  subst hcs
  refine ⟨ad, A', c', ea, ?_, hl, hC⟩
  have := hcell 0 _ rfl
  simpa [Kd.slice] using this
set_option maxHeartbeats 8000000 in
set_option maxRecDepth 100000 in
/-- slices.Grow of nil. -/
theorem slices_Grow_byte_byte.calls_nil (n : Nat) (w : World) (hn : n ≤ 1000000000) :
    Calls Tryd.prog 18 #[.slice none 0 0, .int .i64 (n : Int)] w fun e w' => ∃ v0_ : Value, e = .returned v0_ ∧ Kd.R (Kd.int .u8) 5 w' w.heap.size (fun _ => True) v0_ [] ∧ Below w.heap.size w w' := by
  have t0 : decide ((n : Int) < 0) = false := decide_eq_false (by omega)
  by_cases hz : n = 0
  · subst hz
    go_enter Tryd.func18, Tryd.ntmps18
    go_wp2
    go_ret
    exact ⟨_, rfl, Kd.R_nil _ _ _ _ _, Below.refl _ _⟩
  · have t1 : decide (0 < (n : Int)) = true := decide_eq_true (by omega)
    have t2 : decide (0 < n) = true := decide_eq_true (by omega)
    have hb0 : 0 ≤ (n : Int) := by omega
    have hb1 : (n : Int) ≤ 1000000000 := by omega
    have HP := Aside0.mk (show 0 < n by omega)
    have HL := Aside0.mk hn
    have HB0 := Aside0.mk (Below.refl w.heap.size w)
    clear hz hn
    go_enter Tryd.func18, Tryd.ntmps18
    go_wp2_with (first
      | ((with_reducible refine gate_builtin (b := .append) (xs := #[.tmp 20, .tmp 21]) rfl ?_); at_builtin; refine Kd.R_append_zeros (Kd.int .u8) (w0 := w) w.heap.size rfl (.tmp 20) (.tmp 21) 22 3 5 (.int .u8 0) 1 rfl Tryd.underlying22 Tryd.underlying3 info5 rfl (by decide) (by omega) (.slice none 0 0) ([] : List Int) 0 (n : Int) (fun _ => True) rfl rfl rfl (fun _ _ => trivial) (Kd.R_nil _ _ _ _ _) (by omega) HB0.out (Nat.le_refl _) ?aL ?_; (case aL => have := HL.out; simp only [List.length_nil]; omega); intro v1 w1 ho hb hg hat; clear hg hat; have HO := Aside0.mk ho; have HB := Aside0.mk hb; clear ho hb; obtain ⟨inner3, ow3⟩ := Kd.R_own HO.out; obtain ⟨g3, c3, e3, _, _⟩ := World.ownsRow.form ow3 (by have := HP.out; simp; omega); clear ow3; subst e3; have hcut := print_top_raw (P := Tryd.prog) 22 5 Tryd.underlying22 (let ⟨i, hi, _⟩ := info_parts info5; ⟨i, hi⟩) ⟨g3, 0, none⟩ ([] ++ List.replicate (n : Int).toNat (0 : Int)).length c3 0 (by omega)))
    go_ret
    exact ⟨_, rfl, Kd.R_take HO.out (m := 0) (by omega), HB.out⟩
/-- How many bytes the first k rows have. -/
def flen (l : List (List Int)) (k : Nat) : Nat := (l.take k).flatten.length
def slices_Concat_byte_byte.f (l0 : List (List Int)) : Option (List Int) := if l0.flatten.length ≤ 1000000000 then some l0.flatten else none
set_option maxHeartbeats 8000000 in
set_option maxRecDepth 100000 in
theorem slices_Concat_byte_byte.calls (A0 : Option Addr) (c0 : Nat) (l0 : List (List Int)) (r : List Int) (w : World) (hr0 : Kd.C (Kd.slice 5 (Kd.int .u8)) w A0 l0.length l0) (hc0 : l0.length ≤ c0) (h : slices_Concat_byte_byte.f l0 = some r) :
    Calls Tryd.prog 11 #[.slice A0 l0.length c0] w fun e w' => ∃ v0_ : Value, e = .returned (v0_) ∧ Kd.R (Kd.int .u8) 5 w' w.heap.size (fun _ => True) v0_ r ∧ Below w.heap.size w w' := by
  have hn : l0.flatten.length ≤ 1000000000 := by
    unfold slices_Concat_byte_byte.f at h
    by_cases c : l0.flatten.length ≤ 1000000000
    · exact c
    · rw [if_neg c] at h
      exact absurd h (by simp)
  have hr : l0.flatten = r := by
    unfold slices_Concat_byte_byte.f at h
    rw [if_pos hn] at h
    exact Option.some.inj h
  clear h
  have hsum : ∀ k, flen l0 k ≤ 1000000000 := fun k => by
    unfold flen
    have : l0.flatten = (l0.take k).flatten ++ (l0.drop k).flatten := by rw [← List.flatten_append, List.take_append_drop]
    rw [this, List.length_append] at hn
    omega
  have hstep : ∀ k (hk : k < l0.length), (l0.take (k + 1)).flatten = (l0.take k).flatten ++ l0[k] := fun k hk => by
    rw [List.take_succ_eq_append_getElem hk, List.flatten_append]
    simp
  have hflen : ∀ k (hk : k < l0.length), flen l0 (k + 1) = flen l0 k + l0[k].length := fun k hk => by
    unfold flen
    rw [hstep k hk, List.length_append]
  have HF := Aside0.mk hflen
  clear hflen
  have hll : (l0.length : Int) ≤ 9223372036854775807 := by have := hr0.2.1; omega
  have HR0 := Aside0.mk hr0
  have HC0 := Aside0.mk hc0
  have HS := Aside0.mk hsum
  have HT := Aside0.mk hstep
  have HRR := Aside0.mk hr
  have HBR := Aside0.mk (Below.refl w.heap.size w)
  clear hr0 hc0 hsum hstep hn hr
  go_enter Tryd.func11, Tryd.ntmps11
  go_wp2
  go_loop [3, 11] (fun s i => ∃ k : Nat, k ≤ l0.length ∧ i = .int .i64 k ∧ s = .int .i64 (flen l0 k : Nat)) (fun _ i => l0.length - (intOf i).toNat)
  case atStart => exact ⟨0, Nat.zero_le _, rfl, rfl⟩
  case round =>
    obtain ⟨k, hk, rfl, rfl⟩ := hrel
    by_cases hlt : k < l0.length
    · obtain ⟨ad, A', c', ea, hcell, hl', hC'⟩ := rows_at HR0.out k hlt
      subst ea
      clear hl' hC'
      have t0 : decide ((k : Int) < (l0.length : Int)) = true := decide_eq_true (by omega)
      have t1 : decide (k < l0.length) = true := decide_eq_true hlt
      have hs1 := HS.out k
      have hs2 := HS.out (k + 1)
      have hs3 := HF.out k hlt
      obtain ⟨L1, hL1⟩ : ∃ x, x = flen l0 k := ⟨_, rfl⟩
      obtain ⟨L2, hL2⟩ : ∃ x, x = l0[k].length := ⟨_, rfl⟩
      rw [← hL1, ← hL2] at hs3
      rw [← hL1] at hs1 ⊢
      rw [← hL2] at hcell
      have b1 : (L1 : Int) + (L2 : Int) ≤ 1000000000 := by omega
      have b2 : decide ((L1 : Int) + (L2 : Int) < 0) = false := decide_eq_false (by omega)
      have HS3 := Aside0.mk hs3
      clear hs1 hs2 hs3 hL1 hL2
      go_wp2
      go_round
      case rel => exact ⟨k + 1, by omega, by go_num, by rw [HS3.out]; go_num⟩
      case measure => simp [intOf]; omega
    · have hk' : k = l0.length := by omega
      have HKK := Aside0.mk hk'
      have t0 : decide ((k : Int) < (l0.length : Int)) = false := decide_eq_false (by omega)
      have t1 : decide (k < l0.length) = false := decide_eq_false (by omega)
      clear hk' hlt hk
      go_wp2_with (go_at_call 18; (with_reducible refine (slices_Grow_byte_byte.calls_nil _ _ (HS.out k)).mono ?_); rintro e w1 ⟨v1, rfl, hO, hb⟩; have HO1 := Aside0.mk hO; have HB1 := Aside0.mk hb; clear hO hb)
      clear t0 t1
      go_loopw [6, 27] (fun v i wr => ∃ j : Nat, j ≤ l0.length ∧ i = .int .i64 j ∧ Aside0 (Kd.R (Kd.int .u8) 5 wr w.heap.size (fun _ => True) v (l0.take j).flatten) ∧ Aside0 (Below w.heap.size w wr)) (fun _ i _ => l0.length - (intOf i).toNat)
      case atStart => exact ⟨0, Nat.zero_le _, rfl, ⟨HO1.out⟩, HB1⟩
      case round =>
        clear HO1 HB1
        obtain ⟨j, hj, rfl, HO, HB⟩ := hrel
        by_cases hlt : j < l0.length
        · obtain ⟨ad, A', c', ea, hcell, hl', hC'⟩ := rows_at (Kd.C_below HR0.out HB.out) j hlt
          subst ea
          have HC' := Aside0.mk hC'
          have t1 : decide (j < l0.length) = true := decide_eq_true hlt
          obtain ⟨L2, hL2⟩ : ∃ x, x = l0[j].length := ⟨_, rfl⟩
          rw [← hL2] at hcell
          have HL2 := Aside0.mk hL2
          have HLT := Aside0.mk hlt
          clear hl' hC' hL2
          obtain ⟨A6, c6, e6⟩ := Kd.R_slice HO.out
          subst e6
          obtain ⟨m6, hm6⟩ : ∃ x, x = (l0.take j).flatten.length := ⟨_, rfl⟩
          rw [← hm6] at HO ⊢
          have HM6 := Aside0.mk hm6
          clear hm6
          go_wp2_with ((with_reducible refine gate_builtin (b := .append) (xs := #[.tmp 31, .tmp 32]) rfl ?_); at_builtin; refine Kd.R_append_rows (Kd.int .u8) (w0 := w) w.heap.size rfl (.tmp 31) (.tmp 32) 22 5 (.int .u8 0) 1 rfl Tryd.underlying22 info5 rfl (by decide) (by omega) (.slice A6 m6 c6) (l0.take j).flatten (l0[j]'HLT.out) A' L2 c' (fun _ => True) (fun _ => False) rfl rfl HO.out ?aR (fun _ _ h => h) (fun _ h => h.elim) (fun _ _ => trivial) HB.out (below_size HB.out) ?aL ?_; (case aR => have := HC'.out; rw [← HL2.out] at this; exact this); (case aL => have h1 := HF.out j HLT.out; have h2 := HS.out (j + 1); have h3 := HL2.out; unfold flen at h1 h2; omega); intro v7 w7 ho hb hg hat; clear hg hat; rw [← HT.out j HLT.out] at ho; have HO7 := Aside0.mk ho; have HB7 := Aside0.mk hb; clear ho hb)
          go_roundw
          case rel => exact ⟨j + 1, by omega, by go_num, HO7, HB7⟩
          case measure => simp [intOf]; omega
        · have t1 : decide (j < l0.length) = false := decide_eq_false (by omega)
          have hjl : j = l0.length := by omega
          have HJ := Aside0.mk hjl
          clear hjl hlt hj
          go_wp2
          go_ret
          have hO := HO.out
          rw [HJ.out, List.take_length, HRR.out] at hO
          exact ⟨_, rfl, hO, HB.out⟩

/-! ### check_four: function 12 -/
def check_four.f (a0 : Int) : Option (List Int) := some (([(a0 / 16777216) % 256, (a0 / 65536) % 256, (a0 / 256) % 256, (a0) % 256] : List Int))
set_option maxHeartbeats 8000000 in
set_option maxRecDepth 100000 in
theorem check_four.calls (a0 : Int) (r : List Int) (w : World) (h : check_four.f a0 = some r) :
    Calls Tryd.prog 12 #[.int .u32 a0] w fun e w' => ∃ v0_ : Value, e = .returned (v0_) ∧ Kd.R (Kd.int .u8) 5 w' w.heap.size (fun _ => True) v0_ r ∧ Below w.heap.size w w' := by
  have HB := Aside0.mk (Below.refl w.heap.size w)
  have H : (some (([(a0 / 16777216) % 256, (a0 / 65536) % 256, (a0 / 256) % 256, (a0) % 256] : List Int))) = some r := h
  clear h
  obtain ⟨y109, hy109⟩ : ∃ y_ : List Int, y_ = (([(a0 / 16777216) % 256, (a0 / 65536) % 256, (a0 / 256) % 256, (a0) % 256] : List Int)) := ⟨_, rfl⟩
  replace H : (some y109) = some r := by first | (rw [hy109]; with_reducible exact H) | (have H2_ := (Option.bind_some _ _).symm.trans H; rw [hy109]; with_reducible exact H2_) | (have H2_ := (Option.bind_some _ _).symm.trans H; with_reducible exact H2_) | with_reducible exact H | (rw [hy109]; exact H) | exact H
  have Ny109 := Aside0.mk hy109
  clear hy109
  obtain rfl := Option.some.inj H
  go_enter Tryd.func12, Tryd.ntmps12
  go_wp2_with (first | ((with_reducible refine gate_dst (N := 14) rfl ?_); refine Kd.R_lit (Kd.int .u8) _ 5 ?hg (N := 14) ?hd (xs := ([(a0 / 16777216) % 256, (a0 / 65536) % 256, (a0 / 256) % 256, (a0) % 256] : List Int)) (inner := [.int .u8 ((a0 / 16777216) % 256), .int .u8 ((a0 / 65536) % 256), .int .u8 ((a0 / 256) % 256), .int .u8 ((a0) % 256)]) (ok := fun _ => True) (okp := fun _ => True) ?hr ?hp (fun _ hk => hk) trivial (Below.refl _ _) (Nat.le_refl _) (by simp) ?_; (case hd => rfl); (case hg => rfl); (case hr => first | (go_simp; done) | (go_simp; rfl)); (case hp => exact (Reps.one (show Kd.M (Kd.int .u8) _ _ _ ((a0 / 16777216) % 256) [.int .u8 ((a0 / 16777216) % 256)] from rfl) (Reps.one (show Kd.M (Kd.int .u8) _ _ _ ((a0 / 65536) % 256) [.int .u8 ((a0 / 65536) % 256)] from rfl) (Reps.one (show Kd.M (Kd.int .u8) _ _ _ ((a0 / 256) % 256) [.int .u8 ((a0 / 256) % 256)] from rfl) (Reps.one (show Kd.M (Kd.int .u8) _ _ _ ((a0) % 256) [.int .u8 ((a0) % 256)] from rfl) (Reps.none _ _)))))); intro v110 w2 ho3 hb hg_ hnew_; clear hg_ hnew_; (first | rw [← Ny109.out] at ho3 | (simp only [Int.reduceToNat] at ho3; rw [← Ny109.out] at ho3)); have n0_ := Aside0.mk (Kd.R_lower ho3 (below_size (by repeat (first | (with_reducible first | exact HB.out | apply below_alloc | apply pw_below_drewN | apply below_drew1) | exact HB.out | exact Below.refl _ _)))); have n1_ := Aside0.mk (below_step (by repeat (first | (with_reducible first | exact HB.out | apply below_alloc | apply pw_below_drewN | apply below_drew1) | exact HB.out | exact Below.refl _ _)) hb); clear HB; have HO111 := n0_; have HB := n1_; clear n0_ n1_; clear hb ho3))
  go_ret
  exact ⟨_, by first | rfl | (simp [errW_none, errW_some] <;> rfl) | (simp [*, errW_none, errW_some] <;> rfl), by (with_reducible repeat (first | apply Kd.R_alloc | apply Kd.R_drewN | apply Kd.R_drew)); exact HO111.out, by repeat (first | (with_reducible first | exact HB.out | apply below_alloc | apply pw_below_drewN | apply below_drew1) | exact HB.out | exact Below.refl _ _)⟩

/-! ### check_Record: function 6 -/
/-- Three rows of bytes laid as a row of rows read so. -/
theorem three_rows {w : World} {e q : TypeId} {A B D : Option Addr} {a b d : Nat} {l1 l2 l3 : List Int} (h1 : Kd.C (Kd.int .u8) w A l1.length l1) (h2 : Kd.C (Kd.int .u8) w B l2.length l2) (h3 : Kd.C (Kd.int .u8) w D l3.length l3)
    (c1 : l1.length ≤ a) (c2 : l2.length ≤ b) (c3 : l3.length ≤ d) :
    Kd.C (Kd.slice e (Kd.int .u8)) (w.alloc (.cells #[.slice A l1.length a, .slice B l2.length b, .slice D l3.length d] q)) (some ⟨w.heap.size, 0, none⟩) [l1, l2, l3].length [l1, l2, l3] := by
  have hb := lit_world w (.cells #[.slice A l1.length a, .slice B l2.length b, .slice D l3.length d] q)
  refine ⟨rfl, by simp, fun _ => ⟨_, rfl, fun j p hj => ?_⟩⟩
  match j, hj with
  | 0, hj =>
    obtain rfl : l1 = p := by simpa using hj
    refine ⟨[.slice A l1.length a], rfl, ⟨A, a, rfl, c1, Kd.C_below h1 hb⟩, fun i u hi => ?_⟩
    obtain rfl : i = 0 := by
      have := (List.getElem?_eq_some_iff.1 hi).1
      simpa using this
    obtain rfl : _ = u := by simpa using hi
    rw [add_plain, World.cell?_alloc_new]
    rfl
  | 1, hj =>
    obtain rfl : l2 = p := by simpa using hj
    refine ⟨[.slice B l2.length b], rfl, ⟨B, b, rfl, c2, Kd.C_below h2 hb⟩, fun i u hi => ?_⟩
    obtain rfl : i = 0 := by
      have := (List.getElem?_eq_some_iff.1 hi).1
      simpa using this
    obtain rfl : _ = u := by simpa using hi
    rw [add_plain, World.cell?_alloc_new]
    rfl
  | 2, hj =>
    obtain rfl : l3 = p := by simpa using hj
    refine ⟨[.slice D l3.length d], rfl, ⟨D, d, rfl, c3, Kd.C_below h3 hb⟩, fun i u hi => ?_⟩
    obtain rfl : i = 0 := by
      have := (List.getElem?_eq_some_iff.1 hi).1
      simpa using this
    obtain rfl : _ = u := by simpa using hi
    rw [add_plain, World.cell?_alloc_new]
    rfl
  | j + 3, hj => exact absurd (List.getElem?_eq_some_iff.1 hj).1 (by simp)
def check_Record.f (k : Nat) (l0 : List Int) : Option (List Int × Option Int) := if l0.length ≤ 400000 then (check_Sum.f k l0).bind fun s => (check_four.f ((l0.length : Int) % 4294967296)).bind fun t1 => (check_four.f s).bind fun t2 => (slices_Concat_byte_byte.f [t1, t2, l0]).bind fun r => some (r, none) else none
theorem check_Record.mono : ∀ a0 k, LeO (check_Record.f k a0) (check_Record.f (k + 1) a0) := by
  intro a0 k
  unfold check_Record.f
  repeat' first
      | (with_reducible exact check_Sum.mono _ _)
      | (with_reducible exact LeO.refl _)
      | (with_reducible exact LeO.none _)
      | (with_reducible refine LeO.ite ?_ ?_)
      | (with_reducible refine LeO.bind ?_ (fun _ => ?_))
set_option maxHeartbeats 8000000 in
set_option maxRecDepth 100000 in
theorem check_Record.calls (k : Nat) (A0 : Option Addr) (c0 : Nat) (l0 : List Int) (r1 : List Int) (r2 : Option Int) (w : World) (hr0 : Kd.C (Kd.int .u8) w A0 l0.length l0) (hc0 : l0.length ≤ c0) (h : check_Record.f k l0 = some (r1, r2)) :
    Calls Tryd.prog 6 #[.slice A0 l0.length c0] w fun e w' => ∃ v0_ : Value, e = .returned (.tuple #[v0_, errW r2]) ∧ Kd.R (Kd.int .u8) 5 w' w.heap.size (fun _ => True) v0_ r1 ∧ Below w.heap.size w w' := by
  have HR0 := Aside0.mk hr0
  have HC0 := Aside0.mk hc0
  clear hr0 hc0
  unfold check_Record.f at h
  by_cases hc : l0.length ≤ 400000
  case neg =>
    rw [if_neg hc] at h
    exact absurd h (by simp)
  rw [if_pos hc] at h
  obtain ⟨s, A1, h⟩ := Option.bind_eq_some_iff.mp h
  obtain ⟨t1, A2, h⟩ := Option.bind_eq_some_iff.mp h
  obtain ⟨t2, A3, h⟩ := Option.bind_eq_some_iff.mp h
  obtain ⟨r, A4, h⟩ := Option.bind_eq_some_iff.mp h
  obtain ⟨rfl, rfl⟩ := Prod.mk.inj (Option.some.inj h)
  have H1 := Aside0.mk A1
  have em : (l0.length : Int) % 4294967296 = l0.length := by omega
  rw [em] at A2
  clear em
  have H2 := Aside0.mk A2
  have H3 := Aside0.mk A3
  have H4 := Aside0.mk A4
  have HB := Aside0.mk (Below.refl w.heap.size w)
  have hle : (l0.length : Int) ≤ 400000 := by omega
  have tt : decide (400000 < (l0.length : Int)) = false := decide_eq_false (by omega)
  have tn : decide (400000 < l0.length) = false := decide_eq_false (by omega)
  clear h A1 A2 A3 A4 hc
  go_enter Tryd.func6, Tryd.ntmps6
  go_wp2_with (first
    | (go_at_call 12; (with_reducible refine (check_four.calls (l0.length : Int) t1 _ H2.out).mono ?_); rintro e w1 ⟨v1, rfl, hO, hb⟩; have HO1 := Aside0.mk hO; have HB1 := Aside0.mk hb; clear hO hb; obtain ⟨Q1, q1, e1⟩ := Kd.R_slice HO1.out; subst e1)
    | (go_at_call 9; (with_reducible refine (check_Sum.calls k _ _ l0 s _ (Kd.C_below HR0.out HB1.out) HC0.out H1.out).mono ?_); rintro e w' ⟨rfl, ⟨nd, rfl⟩⟩)
    | (go_at_call 12; (with_reducible refine (check_four.calls s t2 _ H3.out).mono ?_); rintro e w2 ⟨v2, rfl, hO, hb⟩; have HR1 := Aside0.mk (Kd.C_below (Kd.C_drewN (Kd.R_reads' HO1.out).2.2 nd) hb); have HO2 := Aside0.mk hO; have HB2 := Aside0.mk (below_step (pw_below_drewN HB1.out nd) hb); clear hO hb; obtain ⟨Q2, q2, e2⟩ := Kd.R_slice HO2.out; subst e2; have HC3 := Aside0.mk (three_rows (e := 5) (q := 22) HR1.out (Kd.R_reads' HO2.out).2.2 (Kd.C_below HR0.out HB2.out) (Kd.R_reads' HO1.out).2.1 (Kd.R_reads' HO2.out).2.1 HC0.out); have HB3 := Aside0.mk (below_step HB2.out (lit_world _ (.cells #[.slice Q1 t1.length q1, .slice Q2 t2.length q2, .slice A0 l0.length c0] 22))))
    | (go_at_call 11; refine (slices_Concat_byte_byte.calls _ _ [t1, t2, l0] _ _ HC3.out (Nat.le_refl _) H4.out).mono ?_; rintro e w4 ⟨v4, rfl, hO, hb⟩; have HO4 := Aside0.mk (Kd.R_lower hO (below_size HB3.out)); have HB4 := Aside0.mk (below_step HB3.out hb); clear hO hb))
  go_ret2
  exact ⟨_, rfl, HO4.out, HB4.out⟩

/-! ### postbagref04_four: function 13 -/
def postbagref04_four.f (a0 : Int) : Option (List Int) := some (([(a0 / 16777216) % 256, (a0 / 65536) % 256, (a0 / 256) % 256, (a0) % 256] : List Int))
set_option maxHeartbeats 8000000 in
set_option maxRecDepth 100000 in
theorem postbagref04_four.calls (a0 : Int) (r : List Int) (w : World) (h : postbagref04_four.f a0 = some r) :
    Calls Tryd.prog 13 #[.int .u32 a0] w fun e w' => ∃ v0_ : Value, e = .returned (v0_) ∧ Kd.R (Kd.int .u8) 5 w' w.heap.size (fun _ => True) v0_ r ∧ Below w.heap.size w w' := by
  have HB := Aside0.mk (Below.refl w.heap.size w)
  have H : (some (([(a0 / 16777216) % 256, (a0 / 65536) % 256, (a0 / 256) % 256, (a0) % 256] : List Int))) = some r := h
  clear h
  obtain ⟨y112, hy112⟩ : ∃ y_ : List Int, y_ = (([(a0 / 16777216) % 256, (a0 / 65536) % 256, (a0 / 256) % 256, (a0) % 256] : List Int)) := ⟨_, rfl⟩
  replace H : (some y112) = some r := by first | (rw [hy112]; with_reducible exact H) | (have H2_ := (Option.bind_some _ _).symm.trans H; rw [hy112]; with_reducible exact H2_) | (have H2_ := (Option.bind_some _ _).symm.trans H; with_reducible exact H2_) | with_reducible exact H | (rw [hy112]; exact H) | exact H
  have Ny112 := Aside0.mk hy112
  clear hy112
  obtain rfl := Option.some.inj H
  go_enter Tryd.func13, Tryd.ntmps13
  go_wp2_with (first | ((with_reducible refine gate_dst (N := 14) rfl ?_); refine Kd.R_lit (Kd.int .u8) _ 5 ?hg (N := 14) ?hd (xs := ([(a0 / 16777216) % 256, (a0 / 65536) % 256, (a0 / 256) % 256, (a0) % 256] : List Int)) (inner := [.int .u8 ((a0 / 16777216) % 256), .int .u8 ((a0 / 65536) % 256), .int .u8 ((a0 / 256) % 256), .int .u8 ((a0) % 256)]) (ok := fun _ => True) (okp := fun _ => True) ?hr ?hp (fun _ hk => hk) trivial (Below.refl _ _) (Nat.le_refl _) (by simp) ?_; (case hd => rfl); (case hg => rfl); (case hr => first | (go_simp; done) | (go_simp; rfl)); (case hp => exact (Reps.one (show Kd.M (Kd.int .u8) _ _ _ ((a0 / 16777216) % 256) [.int .u8 ((a0 / 16777216) % 256)] from rfl) (Reps.one (show Kd.M (Kd.int .u8) _ _ _ ((a0 / 65536) % 256) [.int .u8 ((a0 / 65536) % 256)] from rfl) (Reps.one (show Kd.M (Kd.int .u8) _ _ _ ((a0 / 256) % 256) [.int .u8 ((a0 / 256) % 256)] from rfl) (Reps.one (show Kd.M (Kd.int .u8) _ _ _ ((a0) % 256) [.int .u8 ((a0) % 256)] from rfl) (Reps.none _ _)))))); intro v113 w2 ho3 hb hg_ hnew_; clear hg_ hnew_; (first | rw [← Ny112.out] at ho3 | (simp only [Int.reduceToNat] at ho3; rw [← Ny112.out] at ho3)); have n0_ := Aside0.mk (Kd.R_lower ho3 (below_size (by repeat (first | (with_reducible first | exact HB.out | apply below_alloc | apply pw_below_drewN | apply below_drew1) | exact HB.out | exact Below.refl _ _)))); have n1_ := Aside0.mk (below_step (by repeat (first | (with_reducible first | exact HB.out | apply below_alloc | apply pw_below_drewN | apply below_drew1) | exact HB.out | exact Below.refl _ _)) hb); clear HB; have HO114 := n0_; have HB := n1_; clear n0_ n1_; clear hb ho3))
  go_ret
  exact ⟨_, by first | rfl | (simp [errW_none, errW_some] <;> rfl) | (simp [*, errW_none, errW_some] <;> rfl), by (with_reducible repeat (first | apply Kd.R_alloc | apply Kd.R_drewN | apply Kd.R_drew)); exact HO114.out, by repeat (first | (with_reducible first | exact HB.out | apply below_alloc | apply pw_below_drewN | apply below_drew1) | exact HB.out | exact Below.refl _ _)⟩

/-! ### postbagref04_More: function 14 -/
def postbagref04_More.l0 : Nat → Int → Int → Int → List Int → Int → Int → Option (Int)
  | 0, _, _, _, _, _, _ => none
  | k + 1, x5, x6, x7, x27, x28, x29 => if x29 < x28 then (if 0 ≤ x29 then (if x29 < (x27.length : Int) then (postbagref04_More.l0 k (Int.tmod (wrap64 (x5 + (wrap64 (rd x27 x29)))) 65521) (Int.tmod (wrap64 (x6 + (wrap64 ((wrap64 (rd x27 x29)) * (Int.tmod (wrap64 (x7 - x29)) 65521))))) 65521) x7 x27 x28 (wrap64 (x29 + 1))) else (none)) else (none)) else (some ((((((x6) % 4294967296) * 65536) % 4294967296) + ((x5) % 4294967296)) % 4294967296))
def postbagref04_More.f (k : Nat) (a0 : Int) (l1 : List Int) : Option (Int) := postbagref04_More.l0 k (Int.tmod (wrap64 (Go.bits .and .u32 a0 65535)) 65521) (Int.tmod (wrap64 ((Int.tmod (wrap64 (a0 / 65536)) 65521) + (wrap64 ((Int.tmod (wrap64 (Go.bits .and .u32 a0 65535)) 65521) * ((l1.length : Int) % 65521))))) 65521) (l1.length : Int) l1 (l1.length : Int) 0
theorem postbagref04_More.mono_l : ∀ k, (∀ y0 y1 y2 y3 y4 y5, LeO (postbagref04_More.l0 k y0 y1 y2 y3 y4 y5) (postbagref04_More.l0 (k + 1) y0 y1 y2 y3 y4 y5))
  | 0 => fun _ _ _ _ _ _ r h => by simp [postbagref04_More.l0] at h
  | k + 1 => by
    have ih0 := postbagref04_More.mono_l k
    · intro y0 y1 y2 y3 y4 y5
      unfold postbagref04_More.l0
      repeat' first
      | (with_reducible exact ih0 _ _ _ _ _ _)
      | (with_reducible exact LeO.refl _)
      | (with_reducible exact LeO.none _)
      | (with_reducible refine LeO.ite ?_ ?_)
      | (with_reducible refine LeO.bind ?_ (fun _ => ?_))
      | exact ih0 _ _ _ _ _ _
      | exact LeO.none _
      | refine LeO.ite ?_ ?_
      | refine LeO.bind ?_ (fun _ => ?_)
theorem postbagref04_More.mono : ∀ a0 a1 k, LeO (postbagref04_More.f k a0 a1) (postbagref04_More.f (k + 1) a0 a1) := by
  intro a0 a1 k
  have ih0 := postbagref04_More.mono_l k
  unfold postbagref04_More.f
  repeat' first
      | (with_reducible exact ih0 _ _ _ _ _ _)
      | (with_reducible exact LeO.refl _)
      | (with_reducible exact LeO.none _)
      | (with_reducible refine LeO.ite ?_ ?_)
      | (with_reducible refine LeO.bind ?_ (fun _ => ?_))
      | exact ih0 _ _ _ _ _ _
      | exact LeO.none _
      | refine LeO.ite ?_ ?_
      | refine LeO.bind ?_ (fun _ => ?_)
set_option maxHeartbeats 8000000 in
set_option maxRecDepth 100000 in
theorem postbagref04_More.calls (k : Nat) (a0 : Int) (A1 : Option Addr) (c1 : Nat) (l1 : List Int) (r : Int) (w : World) (hr1 : Kd.C (Kd.int .u8) w A1 l1.length l1) (hc1 : l1.length ≤ c1) (h : postbagref04_More.f k a0 l1 = some r) :
    Calls Tryd.prog 14 #[.int .u32 a0, .slice A1 l1.length c1] w fun e w' => e = .returned (.int .u32 r) ∧ Drawn0 w w' := by
  have HR1 := Aside0.mk hr1
  have HC1 := Aside0.mk hc1
  clear hr1 hc1
  have H : (postbagref04_More.l0 k (Int.tmod (wrap64 (Go.bits .and .u32 a0 65535)) 65521) (Int.tmod (wrap64 ((Int.tmod (wrap64 (a0 / 65536)) 65521) + (wrap64 ((Int.tmod (wrap64 (Go.bits .and .u32 a0 65535)) 65521) * ((l1.length : Int) % 65521))))) 65521) (l1.length : Int) l1 (l1.length : Int) 0) = some r := h
  clear h
  have H' := Aside0.mk H
  clear H
  go_enter Tryd.func14, Tryd.ntmps14
  go_wp2
  go_loopg [5, 6, 29] k (fun kq v5 v6 v29 w' => ∃ (x5_1 : Int) (x6_1 : Int) (x29_1 : Int), v5 = .int .i64 x5_1 ∧ v6 = .int .i64 x6_1 ∧ v29 = .int .i64 x29_1 ∧ Aside0 (postbagref04_More.l0 kq x5_1 x6_1 (l1.length : Int) l1 (l1.length : Int) x29_1 = some r) ∧ Aside0 (kq ≤ k) ∧ Drawn0 w w')
  case atStart => exact ⟨(Int.tmod (wrap64 (Go.bits .and .u32 a0 65535)) 65521), (Int.tmod (wrap64 ((Int.tmod (wrap64 (a0 / 65536)) 65521) + (wrap64 ((Int.tmod (wrap64 (Go.bits .and .u32 a0 65535)) 65521) * ((l1.length : Int) % 65521))))) 65521), (0), (by first | rfl | (simp; done) | (simp [*]; done)), (by first | rfl | (simp; done) | (simp [*]; done)), (by first | rfl | (simp; done) | (simp [*]; done)), H', ⟨Nat.le_refl _⟩, by repeat (first | exact Drawn0.refl _ | apply Drawn0.step)⟩
  case round =>
    clear H'
    try clear c1
    try clear p2
    obtain ⟨x5_1, x6_1, x29_1, rfl, rfl, rfl, HA, HK1, ⟨m1, rfl⟩⟩ := hrel
    cases gk with
    | zero => exact absurd HA.out (by simp [postbagref04_More.l0])
    | succ k1 =>
      have H := HA.out
      clear HA
      simp only [postbagref04_More.l0] at H
      by_cases c3 : x29_1 < (l1.length : Int)
      · rw [if_pos c3] at H
        have c3b0 : decide (x29_1 < (l1.length : Int)) = true := decide_eq_true c3
        clear c3
        by_cases c4 : 0 ≤ x29_1
        · rw [if_pos c4] at H
          have c4b0 : decide (0 ≤ x29_1) = true := decide_eq_true c4
          clear c4
          by_cases c5 : x29_1 < (l1.length : Int)
          · rw [if_pos c5] at H
            have c5b0 : decide (x29_1 < (l1.length : Int)) = true := decide_eq_true c5
            clear c5
            have H' := Aside0.mk H
            clear H
            have p115 : 0 ≤ (x29_1 : Int) := of_decide_eq_true (by first | (with_reducible assumption) | assumption)
            have q115 : x29_1 < (l1.length : Int) := of_decide_eq_true (by first | (with_reducible assumption) | assumption)
            obtain ⟨ad115, e115, hx115_0⟩ := Kd.at_int HR1.out x29_1 p115 q115
            cases e115
            replace p115 := eq_true p115
            replace q115 := eq_true q115
            go_wp2
            go_roundg k1
            case measure => have := HK1.out; omega
            case rel => exact ⟨(Int.tmod (wrap64 (x5_1 + (wrap64 (rd l1 x29_1)))) 65521), (Int.tmod (wrap64 (x6_1 + (wrap64 ((wrap64 (rd l1 x29_1)) * (Int.tmod (wrap64 ((l1.length : Int) - x29_1)) 65521))))) 65521), (wrap64 (x29_1 + 1)), (by first | rfl | (simp; done) | (simp [*]; done)), (by first | rfl | (simp; done) | (simp [*]; done)), (by first | rfl | (simp; done) | (simp [*]; done)), H', ⟨by have := HK1.out; omega⟩, by repeat (first | exact Drawn0.refl _ | apply Drawn0.step)⟩
          · rw [if_neg c5] at H
            exact absurd H (by simp)
        · rw [if_neg c4] at H
          exact absurd H (by simp)
      · rw [if_neg c3] at H
        have c3b0 : decide (x29_1 < (l1.length : Int)) = false := decide_eq_false c3
        clear c3
        obtain rfl := Option.some.inj H
        go_wp2
        go_ret
        exact ⟨by first | rfl | (simp; done) | (simp [*]; done), by repeat (first | exact Drawn0.refl _ | apply Drawn0.step)⟩

/-! ### postbagref04_Record: function 7 -/
def postbagref04_Record.f (k : Nat) (l0 : List Int) : Option (List Int) := (some (([] : List Int) : List Int)).bind fun y116 => ((postbagref04_four.f (((l0.length : Int)) % 4294967296)).bind fun t119 => (if y116.length + t119.length < 140737488355328 then ((some (y116 ++ t119 : List Int)).bind fun y122 => ((postbagref04_More.f k 1 l0).bind fun t125 => ((postbagref04_four.f t125).bind fun t126 => (if y122.length + t126.length < 140737488355328 then ((some (y122 ++ t126 : List Int)).bind fun y129 => (if y129.length + l0.length < 140737488355328 then (some (y129 ++ l0)) else (none))) else (none))))) else (none)))
theorem postbagref04_Record.mono : ∀ a0 k, LeO (postbagref04_Record.f k a0) (postbagref04_Record.f (k + 1) a0) := by
  intro a0 k
  unfold postbagref04_Record.f
  repeat' first
      | (with_reducible exact postbagref04_More.mono _ _ _)
      | (with_reducible exact LeO.refl _)
      | (with_reducible exact LeO.none _)
      | (with_reducible refine LeO.ite ?_ ?_)
      | (with_reducible refine LeO.bind ?_ (fun _ => ?_))
      | exact postbagref04_More.mono _ _ _
      | exact LeO.none _
      | refine LeO.ite ?_ ?_
      | refine LeO.bind ?_ (fun _ => ?_)
set_option maxHeartbeats 8000000 in
set_option maxRecDepth 100000 in
theorem postbagref04_Record.calls (k : Nat) (A0 : Option Addr) (c0 : Nat) (l0 : List Int) (r : List Int) (w : World) (hr0 : Kd.C (Kd.int .u8) w A0 l0.length l0) (hc0 : l0.length ≤ c0) (h : postbagref04_Record.f k l0 = some r) :
    Calls Tryd.prog 7 #[.slice A0 l0.length c0] w fun e w' => ∃ v0_ : Value, e = .returned (v0_) ∧ Kd.R (Kd.int .u8) 5 w' w.heap.size (fun _ => True) v0_ r ∧ Below w.heap.size w w' := by
  have HR0 := Aside0.mk hr0
  have HC0 := Aside0.mk hc0
  clear hr0 hc0
  have HB := Aside0.mk (Below.refl w.heap.size w)
  have H : ((some (([] : List Int) : List Int)).bind fun y116 => ((postbagref04_four.f (((l0.length : Int)) % 4294967296)).bind fun t119 => (if y116.length + t119.length < 140737488355328 then ((some (y116 ++ t119 : List Int)).bind fun y122 => ((postbagref04_More.f k 1 l0).bind fun t125 => ((postbagref04_four.f t125).bind fun t126 => (if y122.length + t126.length < 140737488355328 then ((some (y122 ++ t126 : List Int)).bind fun y129 => (if y129.length + l0.length < 140737488355328 then (some (y129 ++ l0)) else (none))) else (none))))) else (none)))) = some r := h
  clear h
  obtain ⟨y116, hy116⟩ : ∃ y_ : List Int, y_ = (([] : List Int)) := ⟨_, rfl⟩
  replace H : ((postbagref04_four.f (((l0.length : Int)) % 4294967296)).bind fun t119 => (if y116.length + t119.length < 140737488355328 then ((some (y116 ++ t119 : List Int)).bind fun y122 => ((postbagref04_More.f k 1 l0).bind fun t125 => ((postbagref04_four.f t125).bind fun t126 => (if y122.length + t126.length < 140737488355328 then ((some (y122 ++ t126 : List Int)).bind fun y129 => (if y129.length + l0.length < 140737488355328 then (some (y129 ++ l0)) else (none))) else (none))))) else (none))) = some r := by first | (rw [hy116]; with_reducible exact H) | (have H2_ := (Option.bind_some _ _).symm.trans H; rw [hy116]; with_reducible exact H2_) | (have H2_ := (Option.bind_some _ _).symm.trans H; with_reducible exact H2_) | with_reducible exact H | (rw [hy116]; exact H) | exact H
  have Ny116 := Aside0.mk hy116
  clear hy116
  replace H := Option.bind_eq_some_iff.mp H
  obtain ⟨t119, A20, H⟩ := H
  replace H : (if y116.length + t119.length < 140737488355328 then ((some (y116 ++ t119 : List Int)).bind fun y122 => ((postbagref04_More.f k 1 l0).bind fun t125 => ((postbagref04_four.f t125).bind fun t126 => (if y122.length + t126.length < 140737488355328 then ((some (y122 ++ t126 : List Int)).bind fun y129 => (if y129.length + l0.length < 140737488355328 then (some (y129 ++ l0)) else (none))) else (none))))) else (none)) = some r := H
  have A2 := Aside0.mk A20
  clear A20
  by_cases c3 : y116.length + t119.length < 140737488355328
  · rw [if_pos c3] at H
    have LMc3 := Aside0.mk c3
    clear c3
    obtain ⟨y122, hy122⟩ : ∃ y_ : List Int, y_ = (y116 ++ t119) := ⟨_, rfl⟩
    replace H : ((postbagref04_More.f k 1 l0).bind fun t125 => ((postbagref04_four.f t125).bind fun t126 => (if y122.length + t126.length < 140737488355328 then ((some (y122 ++ t126 : List Int)).bind fun y129 => (if y129.length + l0.length < 140737488355328 then (some (y129 ++ l0)) else (none))) else (none)))) = some r := by first | (rw [hy122]; with_reducible exact H) | (have H2_ := (Option.bind_some _ _).symm.trans H; rw [hy122]; with_reducible exact H2_) | (have H2_ := (Option.bind_some _ _).symm.trans H; with_reducible exact H2_) | with_reducible exact H | (rw [hy122]; exact H) | exact H
    have Ny122 := Aside0.mk hy122
    clear hy122
    replace H := Option.bind_eq_some_iff.mp H
    obtain ⟨t125, A40, H⟩ := H
    replace H : ((postbagref04_four.f t125).bind fun t126 => (if y122.length + t126.length < 140737488355328 then ((some (y122 ++ t126 : List Int)).bind fun y129 => (if y129.length + l0.length < 140737488355328 then (some (y129 ++ l0)) else (none))) else (none))) = some r := H
    have A4 := Aside0.mk A40
    clear A40
    replace H := Option.bind_eq_some_iff.mp H
    obtain ⟨t126, A50, H⟩ := H
    replace H : (if y122.length + t126.length < 140737488355328 then ((some (y122 ++ t126 : List Int)).bind fun y129 => (if y129.length + l0.length < 140737488355328 then (some (y129 ++ l0)) else (none))) else (none)) = some r := H
    have A5 := Aside0.mk A50
    clear A50
    by_cases c6 : y122.length + t126.length < 140737488355328
    · rw [if_pos c6] at H
      have LMc6 := Aside0.mk c6
      clear c6
      obtain ⟨y129, hy129⟩ : ∃ y_ : List Int, y_ = (y122 ++ t126) := ⟨_, rfl⟩
      replace H : (if y129.length + l0.length < 140737488355328 then (some (y129 ++ l0)) else (none)) = some r := by first | (rw [hy129]; with_reducible exact H) | (have H2_ := (Option.bind_some _ _).symm.trans H; rw [hy129]; with_reducible exact H2_) | (have H2_ := (Option.bind_some _ _).symm.trans H; with_reducible exact H2_) | with_reducible exact H | (rw [hy129]; exact H) | exact H
      have Ny129 := Aside0.mk hy129
      clear hy129
      by_cases c7 : y129.length + l0.length < 140737488355328
      · rw [if_pos c7] at H
        have LMc7 := Aside0.mk c7
        clear c7
        obtain ⟨y132, hy132⟩ : ∃ y_ : List Int, y_ = (y129 ++ l0) := ⟨_, rfl⟩
        replace H : (some y132) = some r := by first | (rw [hy132]; with_reducible exact H) | (have H2_ := (Option.bind_some _ _).symm.trans H; rw [hy132]; with_reducible exact H2_) | (have H2_ := (Option.bind_some _ _).symm.trans H; with_reducible exact H2_) | with_reducible exact H | (rw [hy132]; exact H) | exact H
        have Ny132 := Aside0.mk hy132
        clear hy132
        obtain rfl := Option.some.inj H
        go_enter Tryd.func7, Tryd.ntmps7
        go_wp2_with (first | ((with_reducible refine gate_dst (N := 4) rfl ?_); refine Kd.R_lit (Kd.int .u8) _ 5 ?hg (N := 4) ?hd (xs := ([] : List Int)) (inner := []) (ok := fun _ => True) (okp := fun _ => True) ?hr ?hp (fun _ hk => hk) trivial (Below.refl _ _) (Nat.le_refl _) (by simp) ?_; (case hd => rfl); (case hg => rfl); (case hr => first | (go_simp; done) | (go_simp; rfl)); (case hp => exact (Reps.none _ _)); intro v117 w8 ho9 hb hg_ hnew_; clear hg_ hnew_; (first | rw [← Ny116.out] at ho9 | (simp only [Int.reduceToNat] at ho9; rw [← Ny116.out] at ho9)); have n0_ := Aside0.mk (Kd.R_lower ho9 (below_size (by repeat (first | (with_reducible first | exact HB.out | apply below_alloc | apply pw_below_drewN | apply below_drew1) | exact HB.out | exact Below.refl _ _)))); have n1_ := Aside0.mk (below_step (by repeat (first | (with_reducible first | exact HB.out | apply below_alloc | apply pw_below_drewN | apply below_drew1) | exact HB.out | exact Below.refl _ _)) hb); clear HB; have HO118 := n0_; have HB := n1_; clear n0_ n1_; clear hb ho9) | ((with_reducible refine gate_callee (f := 13) rfl ?_); refine goesL_ (some 8) rfl rfl Tryd.func13 (by kernel_rfl) rfl #[.int .u32 (((l0.length : Int)) % 4294967296)] rfl (by (try simp only [List.map_toArray, List.map_cons, List.map_nil]); first | done | rfl | (simp only [List.length_drop, List.length_take]; rfl)) ?_; (with_reducible refine (postbagref04_four.calls (((l0.length : Int)) % 4294967296) t119 _ A2.out).mono ?_); rintro e w10 ⟨v120, rfl, ho0, hb⟩; refine ⟨_, rfl, ?_⟩; have n0_ := Aside0.mk (Kd.R_elder' (by (with_reducible repeat (first | apply Kd.R_alloc | apply Kd.R_drewN | apply Kd.R_drew)); exact HO118.out) (Kd.R_base ho0) hb); have n1_ := Aside0.mk (Kd.R_lower (Kd.R_new' ho0 (Kd.R_lt (by (with_reducible repeat (first | apply Kd.R_alloc | apply Kd.R_drewN | apply Kd.R_drew)); exact HO118.out))) (below_size (by repeat (first | (with_reducible first | exact HB.out | apply below_alloc | apply pw_below_drewN | apply below_drew1) | exact HB.out | exact Below.refl _ _)))); have n2_ := Aside0.mk (below_step (by repeat (first | (with_reducible first | exact HB.out | apply below_alloc | apply pw_below_drewN | apply below_drew1) | exact HB.out | exact Below.refl _ _)) hb); clear HO118; clear HB; have HO118 := n0_; have HO121 := n1_; have HB := n2_; clear n0_ n1_ n2_; (try clear hb); (try clear hb2); (try clear hk); (try clear hi); (try clear ho0); obtain ⟨Ao12, co12, eo12⟩ := Kd.R_slice HO121.out; subst eo12) | ((with_reducible refine gate_builtin (b := .append) (xs := #[.tmp 4, .tmp 8]) rfl ?_); at_builtin; refine Kd.R_append_rows (Kd.int .u8) (w0 := w) w.heap.size rfl (.tmp 4) (.tmp 8) 22 5 (.int .u8 0) 1 rfl Tryd.underlying22 info5 rfl (by decide) (by omega) v117 y116 t119 _ _ _ (fun k_ => some k_ ≠ (.slice Ao12 t119.length co12 : Value).ownBlock) (fun _ => False) rfl rfl ?aO ?aR (fun _ _ h => h) (fun _ h => h.elim) ?aF ?aB ?aS ?aL ?_; (case aR => repeat (first | exact (Kd.R_reads' HO121.out).2.2 | (with_reducible refine Kd.C_alloc ?_ _) | (with_reducible refine Kd.C_drewN ?_ _) | (with_reducible refine Kd.C_drew ?_))); (case aB => exact (by repeat (first | (with_reducible first | exact HB.out | apply below_alloc | apply pw_below_drewN | apply below_drew1) | exact HB.out | exact Below.refl _ _))); (case aF => exact (fun k_ hk => Kd.fresh' (Kd.R_lt (by (with_reducible repeat (first | apply Kd.R_alloc | apply Kd.R_drewN | apply Kd.R_drew)); exact HO121.out)) k_ hk)); (case aO => exact (by (with_reducible repeat (first | apply Kd.R_alloc | apply Kd.R_drewN | apply Kd.R_drew)); exact Kd.R_mono HO118.out (fun _ hk => hk.2))); (case aS => exact (below_size (by repeat (first | (with_reducible first | exact HB.out | apply below_alloc | apply pw_below_drewN | apply below_drew1) | exact HB.out | exact Below.refl _ _)))); (case aL => have := LMc3.out; omega); intro v123 w11 ho hb hg hat; rw [← Ny122.out] at ho; have n0_ := Aside0.mk (Kd.R_after (ok := (fun _ => True)) (by (with_reducible repeat (first | apply Kd.R_alloc | apply Kd.R_drewN | apply Kd.R_drew)); exact HO121.out) hg hat); have n1_ := Aside0.mk (hb); have n2_ := Aside0.mk (ho); clear HO121; clear HB; clear HO118; have HO121 := n0_; have HB := n1_; have HO124 := n2_; clear n0_ n1_ n2_; clear ho hb hg hat) | ((with_reducible refine gate_callee (f := 14) rfl ?_); refine goesL_ (some 12) rfl rfl Tryd.func14 (by kernel_rfl) rfl #[.int .u32 1, .slice A0 l0.length c0] rfl (by (try simp only [List.map_toArray, List.map_cons, List.map_nil]); first | done | rfl | (simp only [List.length_drop, List.length_take]; rfl)) ?_; (with_reducible refine (postbagref04_More.calls k 1 _ _ l0 t125 _ ?side1 ?side2 A4.out).mono ?_); (case side1 => repeat (first | exact (Kd.C_below HR0.out HB.out) | exact HR0.out | (with_reducible refine Kd.C_alloc ?_ _) | (with_reducible refine Kd.C_drewN ?_ _) | (with_reducible refine Kd.C_drew ?_))); (case side2 => exact HC0.out); rintro e w' ⟨rfl, ⟨nd, rfl⟩⟩; refine ⟨_, rfl, ?_⟩) | ((with_reducible refine gate_callee (f := 13) rfl ?_); refine goesL_ (some 13) rfl rfl Tryd.func13 (by kernel_rfl) rfl #[.int .u32 t125] rfl (by (try simp only [List.map_toArray, List.map_cons, List.map_nil]); first | done | rfl | (simp only [List.length_drop, List.length_take]; rfl)) ?_; (with_reducible refine (postbagref04_four.calls t125 t126 _ A5.out).mono ?_); rintro e w13 ⟨v127, rfl, ho0, hb⟩; refine ⟨_, rfl, ?_⟩; have n0_ := Aside0.mk (Kd.R_elder' (by (with_reducible repeat (first | apply Kd.R_alloc | apply Kd.R_drewN | apply Kd.R_drew)); exact HO121.out) (Kd.R_base ho0) hb); have n1_ := Aside0.mk (Kd.R_elder' (by (with_reducible repeat (first | apply Kd.R_alloc | apply Kd.R_drewN | apply Kd.R_drew)); exact HO124.out) (Kd.R_base ho0) hb); have n2_ := Aside0.mk (Kd.R_lower (Kd.R_new' (Kd.R_new' ho0 (Kd.R_lt (by (with_reducible repeat (first | apply Kd.R_alloc | apply Kd.R_drewN | apply Kd.R_drew)); exact HO121.out))) (Kd.R_lt (by (with_reducible repeat (first | apply Kd.R_alloc | apply Kd.R_drewN | apply Kd.R_drew)); exact HO124.out))) (below_size (by repeat (first | (with_reducible first | exact HB.out | apply below_alloc | apply pw_below_drewN | apply below_drew1) | exact HB.out | exact Below.refl _ _)))); have n3_ := Aside0.mk (below_step (by repeat (first | (with_reducible first | exact HB.out | apply below_alloc | apply pw_below_drewN | apply below_drew1) | exact HB.out | exact Below.refl _ _)) hb); clear HO121; clear HO124; clear HB; have HO121 := n0_; have HO124 := n1_; have HO128 := n2_; have HB := n3_; clear n0_ n1_ n2_ n3_; (try clear hb); (try clear hb2); (try clear hk); (try clear hi); (try clear ho0); obtain ⟨Ao15, co15, eo15⟩ := Kd.R_slice HO128.out; subst eo15) | ((with_reducible refine gate_builtin (b := .append) (xs := #[.tmp 10, .tmp 13]) rfl ?_); at_builtin; refine Kd.R_append_rows (Kd.int .u8) (w0 := w) w.heap.size rfl (.tmp 10) (.tmp 13) 22 5 (.int .u8 0) 1 rfl Tryd.underlying22 info5 rfl (by decide) (by omega) v123 y122 t126 _ _ _ (fun k_ => some k_ ≠ (.slice Ao12 t119.length co12 : Value).ownBlock ∧ some k_ ≠ (.slice Ao15 t126.length co15 : Value).ownBlock) (fun _ => False) rfl rfl ?aO ?aR (fun _ _ h => h) (fun _ h => h.elim) ?aF ?aB ?aS ?aL ?_; (case aR => repeat (first | exact (Kd.R_reads' HO128.out).2.2 | (with_reducible refine Kd.C_alloc ?_ _) | (with_reducible refine Kd.C_drewN ?_ _) | (with_reducible refine Kd.C_drew ?_))); (case aB => exact (by repeat (first | (with_reducible first | exact HB.out | apply below_alloc | apply pw_below_drewN | apply below_drew1) | exact HB.out | exact Below.refl _ _))); (case aF => exact (fun k_ hk => ⟨Kd.fresh' (Kd.R_lt (by (with_reducible repeat (first | apply Kd.R_alloc | apply Kd.R_drewN | apply Kd.R_drew)); exact HO121.out)) k_ hk, Kd.fresh' (Kd.R_lt (by (with_reducible repeat (first | apply Kd.R_alloc | apply Kd.R_drewN | apply Kd.R_drew)); exact HO128.out)) k_ hk⟩)); (case aO => exact (by (with_reducible repeat (first | apply Kd.R_alloc | apply Kd.R_drewN | apply Kd.R_drew)); exact HO124.out)); (case aS => exact (below_size (by repeat (first | (with_reducible first | exact HB.out | apply below_alloc | apply pw_below_drewN | apply below_drew1) | exact HB.out | exact Below.refl _ _)))); (case aL => have := LMc6.out; omega); intro v130 w14 ho hb hg hat; rw [← Ny129.out] at ho; have n0_ := Aside0.mk (Kd.R_after (ok := (fun k_ => some k_ ≠ (.slice Ao15 t126.length co15 : Value).ownBlock)) (by (with_reducible repeat (first | apply Kd.R_alloc | apply Kd.R_drewN | apply Kd.R_drew)); exact Kd.R_mono HO121.out (fun _ hk => ⟨hk.2, hk.1.2⟩)) hg hat); have n1_ := Aside0.mk (Kd.R_after (ok := (fun k_ => some k_ ≠ (.slice Ao12 t119.length co12 : Value).ownBlock)) (by (with_reducible repeat (first | apply Kd.R_alloc | apply Kd.R_drewN | apply Kd.R_drew)); exact Kd.R_mono HO128.out (fun _ hk => ⟨hk.1.2, hk.2⟩)) hg hat); have n2_ := Aside0.mk (hb); have n3_ := Aside0.mk (ho); clear HO121; clear HO128; clear HB; clear HO124; have HO121 := n0_; have HO128 := n1_; have HB := n2_; have HO131 := n3_; clear n0_ n1_ n2_ n3_; clear ho hb hg hat) | ((with_reducible refine gate_builtin (b := .append) (xs := #[.tmp 15, .tmp 16]) rfl ?_); at_builtin; refine Kd.R_append_rows (Kd.int .u8) (w0 := w) w.heap.size rfl (.tmp 15) (.tmp 16) 22 5 (.int .u8 0) 1 rfl Tryd.underlying22 info5 rfl (by decide) (by omega) v130 y129 l0 _ _ _ (fun k_ => some k_ ≠ (.slice Ao12 t119.length co12 : Value).ownBlock ∧ some k_ ≠ (.slice Ao15 t126.length co15 : Value).ownBlock) (fun _ => False) rfl rfl ?aO ?aR (fun _ _ h => h) (fun _ h => h.elim) ?aF ?aB ?aS ?aL ?_; (case aR => repeat (first | exact (Kd.C_below HR0.out HB.out) | exact HR0.out | (with_reducible refine Kd.C_alloc ?_ _) | (with_reducible refine Kd.C_drewN ?_ _) | (with_reducible refine Kd.C_drew ?_))); (case aB => exact (by repeat (first | (with_reducible first | exact HB.out | apply below_alloc | apply pw_below_drewN | apply below_drew1) | exact HB.out | exact Below.refl _ _))); (case aF => exact (fun k_ hk => ⟨Kd.fresh' (Kd.R_lt (by (with_reducible repeat (first | apply Kd.R_alloc | apply Kd.R_drewN | apply Kd.R_drew)); exact HO121.out)) k_ hk, Kd.fresh' (Kd.R_lt (by (with_reducible repeat (first | apply Kd.R_alloc | apply Kd.R_drewN | apply Kd.R_drew)); exact HO128.out)) k_ hk⟩)); (case aO => exact (by (with_reducible repeat (first | apply Kd.R_alloc | apply Kd.R_drewN | apply Kd.R_drew)); exact HO131.out)); (case aS => exact (below_size (by repeat (first | (with_reducible first | exact HB.out | apply below_alloc | apply pw_below_drewN | apply below_drew1) | exact HB.out | exact Below.refl _ _)))); (case aL => have := LMc7.out; omega); intro v133 w16 ho hb hg hat; rw [← Ny132.out] at ho; have n0_ := Aside0.mk (Kd.R_after (ok := (fun k_ => some k_ ≠ (.slice Ao15 t126.length co15 : Value).ownBlock)) (by (with_reducible repeat (first | apply Kd.R_alloc | apply Kd.R_drewN | apply Kd.R_drew)); exact HO121.out) hg hat); have n1_ := Aside0.mk (Kd.R_after (ok := (fun k_ => some k_ ≠ (.slice Ao12 t119.length co12 : Value).ownBlock)) (by (with_reducible repeat (first | apply Kd.R_alloc | apply Kd.R_drewN | apply Kd.R_drew)); exact HO128.out) hg hat); have n2_ := Aside0.mk (hb); have n3_ := Aside0.mk (ho); clear HO121; clear HO128; clear HB; clear HO131; have HO121 := n0_; have HO128 := n1_; have HB := n2_; have HO134 := n3_; clear n0_ n1_ n2_ n3_; clear ho hb hg hat))
        go_ret
        exact ⟨_, by first | rfl | (simp [errW_none, errW_some] <;> rfl) | (simp [*, errW_none, errW_some] <;> rfl), by (with_reducible repeat (first | apply Kd.R_alloc | apply Kd.R_drewN | apply Kd.R_drew)); exact Kd.R_mono HO134.out (fun _ hk => trivial), by repeat (first | (with_reducible first | exact HB.out | apply below_alloc | apply pw_below_drewN | apply below_drew1) | exact HB.out | exact Below.refl _ _)⟩
      · rw [if_neg c7] at H
        exact absurd H (by simp)
    · rw [if_neg c6] at H
      exact absurd H (by simp)
  · rw [if_neg c3] at H
    exact absurd H (by simp)

-- function 3 (postbaglaw04_CheckRecords): its walk stands in a text of its own

/-! ### check_number: function 15 -/
def check_number.f (l0 : List Int) : Option (Int) := if 0 < (l0.length : Int) then (if 1 < (l0.length : Int) then (if 2 < (l0.length : Int) then (if 3 < (l0.length : Int) then (some (Go.bits .or .u32 (Go.bits .or .u32 (Go.bits .or .u32 ((((rd l0 0) % 4294967296) * 16777216) % 4294967296) ((((rd l0 1) % 4294967296) * 65536) % 4294967296)) ((((rd l0 2) % 4294967296) * 256) % 4294967296)) ((rd l0 3) % 4294967296))) else (none)) else (none)) else (none)) else (none)
set_option maxHeartbeats 8000000 in
set_option maxRecDepth 100000 in
theorem check_number.calls (A0 : Option Addr) (c0 : Nat) (l0 : List Int) (r : Int) (w : World) (hr0 : Kd.C (Kd.int .u8) w A0 l0.length l0) (hc0 : l0.length ≤ c0) (h : check_number.f l0 = some r) :
    Calls Tryd.prog 15 #[.slice A0 l0.length c0] w fun e w' => e = .returned (.int .u32 r) ∧ Drawn0 w w' := by
  have HR0 := Aside0.mk hr0
  have HC0 := Aside0.mk hc0
  clear hr0 hc0
  have H : (if 0 < (l0.length : Int) then (if 1 < (l0.length : Int) then (if 2 < (l0.length : Int) then (if 3 < (l0.length : Int) then (some (Go.bits .or .u32 (Go.bits .or .u32 (Go.bits .or .u32 ((((rd l0 0) % 4294967296) * 16777216) % 4294967296) ((((rd l0 1) % 4294967296) * 65536) % 4294967296)) ((((rd l0 2) % 4294967296) * 256) % 4294967296)) ((rd l0 3) % 4294967296))) else (none)) else (none)) else (none)) else (none)) = some r := h
  clear h
  by_cases c2 : 0 < (l0.length : Int)
  · rw [if_pos c2] at H
    have c2b0 : decide (0 < (l0.length : Int)) = true := decide_eq_true c2
    have c2b1 : decide (0 < l0.length) = true := decide_eq_true (by omega)
    clear c2
    by_cases c3 : 1 < (l0.length : Int)
    · rw [if_pos c3] at H
      have c3b0 : decide (1 < (l0.length : Int)) = true := decide_eq_true c3
      have c3b1 : decide (1 < l0.length) = true := decide_eq_true (by omega)
      clear c3
      by_cases c4 : 2 < (l0.length : Int)
      · rw [if_pos c4] at H
        have c4b0 : decide (2 < (l0.length : Int)) = true := decide_eq_true c4
        have c4b1 : decide (2 < l0.length) = true := decide_eq_true (by omega)
        clear c4
        by_cases c5 : 3 < (l0.length : Int)
        · rw [if_pos c5] at H
          have c5b0 : decide (3 < (l0.length : Int)) = true := decide_eq_true c5
          have c5b1 : decide (3 < l0.length) = true := decide_eq_true (by omega)
          clear c5
          obtain rfl := Option.some.inj H
          have p135 : 0 ≤ (0 : Int) := (by omega)
          have q135 : 0 < (l0.length : Int) := of_decide_eq_true (by first | (with_reducible assumption) | assumption)
          obtain ⟨ad135, e135, hx135_0⟩ := Kd.at_int HR0.out 0 p135 q135
          cases e135
          have qi135 : (0 < l0.length) = True := eq_true (by omega)
          (try rw [show ((0 : Int)).toNat = 0 from rfl] at hx135_0)
          (try rw [Addr.add_zero'] at hx135_0)
          replace p135 := eq_true p135
          replace q135 := eq_true q135
          have p136 : 0 ≤ (1 : Int) := (by omega)
          have q136 : 1 < (l0.length : Int) := of_decide_eq_true (by first | (with_reducible assumption) | assumption)
          obtain ⟨ad136, e136, hx136_0⟩ := Kd.at_int HR0.out 1 p136 q136
          obtain rfl : ad135 = ad136 := (by injection e136)
          (try simp only [show (1 : Int).toNat = 1 from rfl, Nat.reduceMul, Nat.reduceEqDiff, Go.Addr.add, ↓reduceIte] at hx136_0)
          have qi136 : (1 < l0.length) = True := eq_true (by omega)
          (try rw [show ((1 : Int)).toNat = 1 from rfl] at hx136_0)
          replace p136 := eq_true p136
          replace q136 := eq_true q136
          have p137 : 0 ≤ (2 : Int) := (by omega)
          have q137 : 2 < (l0.length : Int) := of_decide_eq_true (by first | (with_reducible assumption) | assumption)
          obtain ⟨ad137, e137, hx137_0⟩ := Kd.at_int HR0.out 2 p137 q137
          obtain rfl : ad135 = ad137 := (by injection e137)
          (try simp only [show (2 : Int).toNat = 2 from rfl, Nat.reduceMul, Nat.reduceEqDiff, Go.Addr.add, ↓reduceIte] at hx137_0)
          have qi137 : (2 < l0.length) = True := eq_true (by omega)
          (try rw [show ((2 : Int)).toNat = 2 from rfl] at hx137_0)
          replace p137 := eq_true p137
          replace q137 := eq_true q137
          have p138 : 0 ≤ (3 : Int) := (by omega)
          have q138 : 3 < (l0.length : Int) := of_decide_eq_true (by first | (with_reducible assumption) | assumption)
          obtain ⟨ad138, e138, hx138_0⟩ := Kd.at_int HR0.out 3 p138 q138
          obtain rfl : ad135 = ad138 := (by injection e138)
          (try simp only [show (3 : Int).toNat = 3 from rfl, Nat.reduceMul, Nat.reduceEqDiff, Go.Addr.add, ↓reduceIte] at hx138_0)
          have qi138 : (3 < l0.length) = True := eq_true (by omega)
          (try rw [show ((3 : Int)).toNat = 3 from rfl] at hx138_0)
          replace p138 := eq_true p138
          replace q138 := eq_true q138
          go_enter Tryd.func15, Tryd.ntmps15
          go_wp2
          repeat (go_quiet (fail); try go_wp2)
          go_ret
          exact ⟨by first | rfl | (simp; done) | (simp [*]; done), by repeat (first | exact Drawn0.refl _ | apply Drawn0.step)⟩
        · rw [if_neg c5] at H
          exact absurd H (by simp)
      · rw [if_neg c4] at H
        exact absurd H (by simp)
    · rw [if_neg c3] at H
      exact absurd H (by simp)
  · rw [if_neg c2] at H
    exact absurd H (by simp)

/-! ### slices_Clone_byte_byte: function 16 -/
def slices_Clone_byte_byte.f (l0 : List Int) : Option (List Int) := if l0.length < 140737488355328 then some l0 else none
set_option maxHeartbeats 8000000 in
set_option maxRecDepth 100000 in
theorem slices_Clone_byte_byte.calls (A0 : Option Addr) (c0 : Nat) (l0 : List Int) (r : List Int) (w : World) (hr0 : Kd.C (Kd.int .u8) w A0 l0.length l0) (hc0 : l0.length ≤ c0) (h : slices_Clone_byte_byte.f l0 = some r) :
    Calls Tryd.prog 16 #[.slice A0 l0.length c0] w fun e w' => ∃ v0_ : Value, e = .returned (v0_) ∧ Kd.R (Kd.int .u8) 5 w' w.heap.size (fun _ => True) v0_ r ∧ Below w.heap.size w w' := by
  have HB := Aside0.mk (Below.refl w.heap.size w)
  have HC0 := Aside0.mk hc0
  clear hc0
  have hn : l0.length < 140737488355328 := by
    unfold slices_Clone_byte_byte.f at h
    by_cases c : l0.length < 140737488355328
    · exact c
    · rw [if_neg c] at h
      exact absurd h (by simp)
  have hr : l0 = r := by
    unfold slices_Clone_byte_byte.f at h
    rw [if_pos hn] at h
    exact Option.some.inj h
  clear h
  subst hr
  have LM := Aside0.mk hn
  clear hn
  have he := fun (w : World) (a : Option Addr) (n c : Nat) => Lib.run_eql_slice_nil (P := Tryd.prog) w 22 5 a n c 0 0 Tryd.underlying22
  cases A0 with
  | none =>
    have h0 : l0 = [] := by
      rcases Nat.eq_zero_or_pos l0.length with h | h
      · exact List.eq_nil_of_length_eq_zero h
      · obtain ⟨ad, h1, _⟩ := hr0.2.2 h
        exact absurd h1 (by simp)
    subst h0
    clear hr0
    go_enter Tryd.func16, Tryd.ntmps16
    go_wp2
    go_ret
    exact ⟨_, rfl, Kd.R_nil _ _ _ _ _, by repeat (first | exact HB.out | apply pw_below_drewN)⟩
  | some a0 =>
    have HR0 := Aside0.mk hr0
    clear hr0
    go_enter Tryd.func16, Tryd.ntmps16
    go_wp2_with (first
      | ((with_reducible refine gate_dst (N := 5) rfl ?_); refine Kd.R_lit (Kd.int .u8) _ 5 ?hg (N := 5) ?hd (xs := ([] : List Int)) (inner := []) (ok := fun _ => True) (okp := fun _ => True) ?hr ?hp (fun _ hk => hk) trivial (Below.refl _ _) (Nat.le_refl _) (by simp) ?_; (case hd => rfl); (case hg => rfl); (case hr => first | (go_simp; done) | (go_simp; rfl)); (case hp => exact (Reps.none _ _)); intro v118 w8 ho9 hb hg_ hnew_; clear hg_ hnew_; have n0_ := Aside0.mk (Kd.R_lower ho9 (below_size (by repeat (first | (with_reducible first | exact HB.out | apply below_alloc | apply pw_below_drewN | apply below_drew1) | exact HB.out)))); have n1_ := Aside0.mk (below_step (by repeat (first | (with_reducible first | exact HB.out | apply below_alloc | apply pw_below_drewN | apply below_drew1) | exact HB.out)) hb); clear HB; have HO119 := n0_; have HB := n1_; clear n0_ n1_; clear hb ho9)
      | ((with_reducible refine gate_builtin (b := .append) (xs := #[.tmp 5, .tmp 6]) rfl ?_); at_builtin; refine Kd.R_append_rows (Kd.int .u8) (w0 := w) w.heap.size rfl (.tmp 5) (.tmp 6) 22 5 (.int .u8 0) 1 rfl Tryd.underlying22 info5 rfl (by decide) (by omega) v118 [] l0 _ _ _ (fun _ => True) (fun _ => False) rfl rfl ?aO ?aR (fun _ _ h => h) (fun _ h => h.elim) ?aF ?aB ?aS ?aL ?_; (case aR => repeat (first | exact (Kd.C_below HR0.out HB.out) | (with_reducible refine Kd.C_alloc ?_ _) | (with_reducible refine Kd.C_drewN ?_ _) | (with_reducible refine Kd.C_drew ?_))); (case aB => exact (by repeat (first | (with_reducible first | exact HB.out | apply below_alloc | apply pw_below_drewN | apply below_drew1) | exact HB.out))); (case aF => exact (fun k_ hk => trivial)); (case aO => exact (by (with_reducible repeat (first | apply Kd.R_alloc | apply Kd.R_drewN | apply Kd.R_drew)); exact HO119.out)); (case aS => exact (below_size (by repeat (first | (with_reducible first | exact HB.out | apply below_alloc | apply pw_below_drewN | apply below_drew1) | exact HB.out)))); (case aL => have := LM.out; simp only [List.length_nil]; omega); intro v134 w16 ho hb hg hat; have n2_ := Aside0.mk (hb); have n3_ := Aside0.mk (ho); clear HB; clear HO119; have HB := n2_; have HO135 := n3_; clear n2_ n3_; clear ho hb hg hat))
    go_ret
    exact ⟨_, rfl, by (with_reducible repeat (first | apply Kd.R_alloc | apply Kd.R_drewN | apply Kd.R_drew)); exact HO135.out, by repeat (first | (with_reducible first | exact HB.out | apply below_alloc | apply pw_below_drewN | apply below_drew1) | exact HB.out)⟩

end Go.Proofs.YthlofokgbogndaaDoor.GCheck
