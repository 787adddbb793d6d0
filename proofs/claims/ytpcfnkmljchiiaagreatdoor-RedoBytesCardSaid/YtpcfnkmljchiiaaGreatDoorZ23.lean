/- Steps towards RBoth: GChkx1. -/
import Derived.Test.YtpcfnkmljchiiaaGreatDoorZ22
set_option linter.unusedVariables false
set_option linter.unusedSimpArgs false
/- Written by a program of mine (wip/tools/mkprint.py turns the kit's print; given contracts by hand). Lean checks it. -/
namespace Go.Proofs.YtpcfnkmljchiiaaGreatDoor.GChk
open Go.RowKit Go.Proofs.YtpcfnkmljchiiaaGreatDoorW.PrintWords Go.Proofs.YtpcfnkmljchiiaaGreatDoorW.PrintLast Go.Proofs.YtpcfnkmljchiiaaGreatDoorW.PrintMore
attribute [local go_sem] max2_int min2_int max_two min_two max_three min_three max_four min_four   -- for this text's walks alone

-- function 116 (slices_Grow_byte_byte): its walk stands in a text of its own

/-! ### slices_Concat_byte_byte: function 72 -/
theorem addr_zero (a : Addr) : a.add 0 = a := by
  unfold Addr.add
  split <;> simp_all
/-- 'x[:m]' of a slice, m within its capacity. -/
theorem print_top_raw {P : Program} (t e : TypeId) (ht : P.underlying t = some (.slice e)) (hi : ∃ i, P.info? e = some i) (a : Addr) (n c m : Nat) (hm : m ≤ c) (W : World) :
    (Instr.slice t (.slice (some a) n c) none (some (.int .i64 (m : Int))) none).run P W = .ok (.slice (some a) m c) W := by
  obtain ⟨i, hi⟩ := hi
  have hel : P.elem t = e := by simp [Program.elem, ht]
  have hu : P.underlying t = some (.slice (P.elem t)) := by rw [hel]; exact ht
  rw [run_slice_h W t (some a) n c hu .i64 (m : Int) (Int.natCast_nonneg _) (by omega), hel]
  simp [sizeOf, typeInfo, hi, sliced, Result.andThen, addr_zero]
/-- An element of a row of rows of bytes. -/
theorem rows_at {w : World} {e : TypeId} {A : Option Addr} {xs : List (List Int)} {n : Nat} (h : Kd.C (Kd.slice e (Kd.int .u8)) w A n xs) (k : Nat) (hk : k < xs.length) :
    ∃ (ad : Addr) (A' : Option Addr) (c' : Nat), A = some ad ∧ w.cell? (ad.add k) = some (.slice A' xs[k].length c') ∧ xs[k].length ≤ c' ∧ Kd.C (Kd.int .u8) w A' xs[k].length xs[k] := by
  have hn : xs.length = n := h.1
  obtain ⟨ad, ea, hc⟩ := h.2.2 (by omega)
  obtain ⟨c, hs, ⟨A', c', hcs, hl, hC⟩, hcell⟩ := hc k xs[k] (List.getElem?_eq_getElem hk)
  subst hcs
  refine ⟨ad, A', c', ea, ?_, hl, hC⟩
  have := hcell 0 _ rfl
  simpa [Kd.slice] using this
set_option maxHeartbeats 8000000 in
set_option maxRecDepth 100000 in
/-- slices.Grow of nil. -/
theorem slices_Grow_byte_byte.calls_nil (n : Nat) (w : World) (hn : n ≤ 1000000000) :
    Calls Tryz.prog 116 #[.slice none 0 0, .int .i64 (n : Int)] w fun e w' => ∃ v0_ : Value, e = .returned v0_ ∧ Kd.R (Kd.int .u8) 5 w' w.heap.size (fun _ => True) v0_ [] ∧ Below w.heap.size w w' := by
  have t0 : decide ((n : Int) < 0) = false := decide_eq_false (by omega)
  by_cases hz : n = 0
  · subst hz
    go_enter Tryz.func116, Tryz.ntmps116
    go_wp2
    go_ret
    exact ⟨_, rfl, Kd.R_nil _ _ _ _ _, Below.refl _ _⟩
  · have t1 : decide (0 < (n : Int)) = true := decide_eq_true (by omega)
    have t2 : decide (0 < n) = true := decide_eq_true (by omega)
    have hb0 : 0 ≤ (n : Int) := by omega
    have hb1 : (n : Int) ≤ 1000000000 := by omega
    have HP := Aside0.mk (show 0 < n by omega)
    have HL := Aside0.mk hn
    have HB0 := Aside0.mk (Below.refl w.heap.size w)
    clear hz hn
    go_enter Tryz.func116, Tryz.ntmps116
    go_wp2_with (first
      | ((with_reducible refine gate_builtin (b := .append) (xs := #[.tmp 20, .tmp 21]) rfl ?_); at_builtin; refine Kd.R_append_zeros (Kd.int .u8) (w0 := w) w.heap.size rfl (.tmp 20) (.tmp 21) 32 3 5 (.int .u8 0) 1 rfl Tryz.underlying32 Tryz.underlying3 info5 rfl (by decide) (by omega) (.slice none 0 0) ([] : List Int) 0 (n : Int) (fun _ => True) rfl rfl rfl (fun _ _ => trivial) (Kd.R_nil _ _ _ _ _) (by omega) HB0.out (Nat.le_refl _) ?aL ?_; (case aL => have := HL.out; simp only [List.length_nil]; omega); intro v1 w1 ho hb hg hat; clear hg hat; have HO := Aside0.mk ho; have HB := Aside0.mk hb; clear ho hb; obtain ⟨inner3, ow3⟩ := Kd.R_own HO.out; obtain ⟨g3, c3, e3, _, _⟩ := World.ownsRow.form ow3 (by have := HP.out; simp; omega); clear ow3; subst e3; have hcut := print_top_raw (P := Tryz.prog) 32 5 Tryz.underlying32 (let ⟨i, hi, _⟩ := info_parts info5; ⟨i, hi⟩) ⟨g3, 0, none⟩ ([] ++ List.replicate (n : Int).toNat (0 : Int)).length c3 0 (by omega)))
    go_ret
    exact ⟨_, rfl, Kd.R_take HO.out (m := 0) (by omega), HB.out⟩
/-- How many bytes the first k rows have. -/
def flen (l : List (List Int)) (k : Nat) : Nat := (l.take k).flatten.length
def slices_Concat_byte_byte.f (l0 : List (List Int)) : Option (List Int) := if l0.flatten.length ≤ 1000000000 then some l0.flatten else none
set_option maxHeartbeats 8000000 in
set_option maxRecDepth 100000 in
theorem slices_Concat_byte_byte.calls (A0 : Option Addr) (c0 : Nat) (l0 : List (List Int)) (r : List Int) (w : World) (hr0 : Kd.C (Kd.slice 5 (Kd.int .u8)) w A0 l0.length l0) (hc0 : l0.length ≤ c0) (h : slices_Concat_byte_byte.f l0 = some r) :
    Calls Tryz.prog 72 #[.slice A0 l0.length c0] w fun e w' => ∃ v0_ : Value, e = .returned (v0_) ∧ Kd.R (Kd.int .u8) 5 w' w.heap.size (fun _ => True) v0_ r ∧ Below w.heap.size w w' := by
  have hn : l0.flatten.length ≤ 1000000000 := by
    unfold slices_Concat_byte_byte.f at h
    by_cases c : l0.flatten.length ≤ 1000000000
    · exact c
    · rw [if_neg c] at h
      exact absurd h (by simp)
  have hr : l0.flatten = r := by
    unfold slices_Concat_byte_byte.f at h
    rw [if_pos hn] at h
    exact Option.some.inj h
  clear h
  have hsum : ∀ k, flen l0 k ≤ 1000000000 := fun k => by
    unfold flen
    have : l0.flatten = (l0.take k).flatten ++ (l0.drop k).flatten := by rw [← List.flatten_append, List.take_append_drop]
    rw [this, List.length_append] at hn
    omega
  have hstep : ∀ k (hk : k < l0.length), (l0.take (k + 1)).flatten = (l0.take k).flatten ++ l0[k] := fun k hk => by
    rw [List.take_succ_eq_append_getElem hk, List.flatten_append]
    simp
  have hflen : ∀ k (hk : k < l0.length), flen l0 (k + 1) = flen l0 k + l0[k].length := fun k hk => by
    unfold flen
    rw [hstep k hk, List.length_append]
  have HF := Aside0.mk hflen
  clear hflen
  have hll : (l0.length : Int) ≤ 9223372036854775807 := by have := hr0.2.1; omega
  have HR0 := Aside0.mk hr0
  have HC0 := Aside0.mk hc0
  have HS := Aside0.mk hsum
  have HT := Aside0.mk hstep
  have HRR := Aside0.mk hr
  have HBR := Aside0.mk (Below.refl w.heap.size w)
  clear hr0 hc0 hsum hstep hn hr
  go_enter Tryz.func72, Tryz.ntmps72
  go_wp2
  go_loop [3, 11] (fun s i => ∃ k : Nat, k ≤ l0.length ∧ i = .int .i64 k ∧ s = .int .i64 (flen l0 k : Nat)) (fun _ i => l0.length - (Go.RowKit.intOf i).toNat)
  case atStart => exact ⟨0, Nat.zero_le _, rfl, rfl⟩
  case round =>
    obtain ⟨k, hk, rfl, rfl⟩ := hrel
    by_cases hlt : k < l0.length
    · obtain ⟨ad, A', c', ea, hcell, hl', hC'⟩ := rows_at HR0.out k hlt
      subst ea
      clear hl' hC'
      have t0 : decide ((k : Int) < (l0.length : Int)) = true := decide_eq_true (by omega)
      have t1 : decide (k < l0.length) = true := decide_eq_true hlt
      have hs1 := HS.out k
      have hs2 := HS.out (k + 1)
      have hs3 := HF.out k hlt
      obtain ⟨L1, hL1⟩ : ∃ x, x = flen l0 k := ⟨_, rfl⟩
      obtain ⟨L2, hL2⟩ : ∃ x, x = l0[k].length := ⟨_, rfl⟩
      rw [← hL1, ← hL2] at hs3
      rw [← hL1] at hs1 ⊢
      rw [← hL2] at hcell
      have b1 : (L1 : Int) + (L2 : Int) ≤ 1000000000 := by omega
      have b2 : decide ((L1 : Int) + (L2 : Int) < 0) = false := decide_eq_false (by omega)
      have HS3 := Aside0.mk hs3
      clear hs1 hs2 hs3 hL1 hL2
      go_wp2
      go_round
      case rel => exact ⟨k + 1, by omega, by go_num, by rw [HS3.out]; go_num⟩
      case measure => simp [Go.RowKit.intOf]; omega
    · have hk' : k = l0.length := by omega
      have HKK := Aside0.mk hk'
      have t0 : decide ((k : Int) < (l0.length : Int)) = false := decide_eq_false (by omega)
      have t1 : decide (k < l0.length) = false := decide_eq_false (by omega)
      clear hk' hlt hk
      go_wp2_with (go_at_call 116; (with_reducible refine (slices_Grow_byte_byte.calls_nil _ _ (HS.out k)).mono ?_); rintro e w1 ⟨v1, rfl, hO, hb⟩; have HO1 := Aside0.mk hO; have HB1 := Aside0.mk hb; clear hO hb)
      clear t0 t1
      go_loopw [6, 27] (fun v i wr => ∃ j : Nat, j ≤ l0.length ∧ i = .int .i64 j ∧ Aside0 (Kd.R (Kd.int .u8) 5 wr w.heap.size (fun _ => True) v (l0.take j).flatten) ∧ Aside0 (Below w.heap.size w wr)) (fun _ i _ => l0.length - (Go.RowKit.intOf i).toNat)
      case atStart => exact ⟨0, Nat.zero_le _, rfl, ⟨HO1.out⟩, HB1⟩
      case round =>
        clear HO1 HB1
        obtain ⟨j, hj, rfl, HO, HB⟩ := hrel
        by_cases hlt : j < l0.length
        · obtain ⟨ad, A', c', ea, hcell, hl', hC'⟩ := rows_at (Kd.C_below HR0.out HB.out) j hlt
          subst ea
          have HC' := Aside0.mk hC'
          have t1 : decide (j < l0.length) = true := decide_eq_true hlt
          obtain ⟨L2, hL2⟩ : ∃ x, x = l0[j].length := ⟨_, rfl⟩
          rw [← hL2] at hcell
          have HL2 := Aside0.mk hL2
          have HLT := Aside0.mk hlt
          clear hl' hC' hL2
          obtain ⟨A6, c6, e6⟩ := Kd.R_slice HO.out
          subst e6
          obtain ⟨m6, hm6⟩ : ∃ x, x = (l0.take j).flatten.length := ⟨_, rfl⟩
          rw [← hm6] at HO ⊢
          have HM6 := Aside0.mk hm6
          clear hm6
          go_wp2_with ((with_reducible refine gate_builtin (b := .append) (xs := #[.tmp 31, .tmp 32]) rfl ?_); at_builtin; refine Kd.R_append_rows (Kd.int .u8) (w0 := w) w.heap.size rfl (.tmp 31) (.tmp 32) 32 5 (.int .u8 0) 1 rfl Tryz.underlying32 info5 rfl (by decide) (by omega) (.slice A6 m6 c6) (l0.take j).flatten (l0[j]'HLT.out) A' L2 c' (fun _ => True) (fun _ => False) rfl rfl HO.out ?aR (fun _ _ h => h) (fun _ h => h.elim) (fun _ _ => trivial) HB.out (below_size HB.out) ?aL ?_; (case aR => have := HC'.out; rw [← HL2.out] at this; exact this); (case aL => have h1 := HF.out j HLT.out; have h2 := HS.out (j + 1); have h3 := HL2.out; unfold flen at h1 h2; omega); intro v7 w7 ho hb hg hat; clear hg hat; rw [← HT.out j HLT.out] at ho; have HO7 := Aside0.mk ho; have HB7 := Aside0.mk hb; clear ho hb)
          go_roundw
          case rel => exact ⟨j + 1, by omega, by go_num, HO7, HB7⟩
          case measure => simp [Go.RowKit.intOf]; omega
        · have t1 : decide (j < l0.length) = false := decide_eq_false (by omega)
          have hjl : j = l0.length := by omega
          have HJ := Aside0.mk hjl
          clear hjl hlt hj
          go_wp2
          go_ret
          have hO := HO.out
          rw [HJ.out, List.take_length, HRR.out] at hO
          exact ⟨_, rfl, hO, HB.out⟩

/-! ### check_four: function 122 -/
def check_four.f (a0 : Int) : Option (List Int) := some (([(a0 / 16777216) % 256, (a0 / 65536) % 256, (a0 / 256) % 256, (a0) % 256] : List Int))
set_option maxHeartbeats 8000000 in
set_option maxRecDepth 100000 in
theorem check_four.calls (a0 : Int) (r : List Int) (w : World) (h : check_four.f a0 = some r) :
    Calls Tryz.prog 122 #[.int .u32 a0] w fun e w' => ∃ v0_ : Value, e = .returned (v0_) ∧ Kd.R (Kd.int .u8) 5 w' w.heap.size (fun _ => True) v0_ r ∧ Below w.heap.size w w' := by
  have HB := Aside0.mk (Below.refl w.heap.size w)
  have H : (some (([(a0 / 16777216) % 256, (a0 / 65536) % 256, (a0 / 256) % 256, (a0) % 256] : List Int))) = some r := h
  clear h
  obtain ⟨y101, hy101⟩ : ∃ y_ : List Int, y_ = (([(a0 / 16777216) % 256, (a0 / 65536) % 256, (a0 / 256) % 256, (a0) % 256] : List Int)) := ⟨_, rfl⟩
  replace H : (some y101) = some r := by first | (rw [hy101]; with_reducible exact H) | (have H2_ := (Option.bind_some _ _).symm.trans H; rw [hy101]; with_reducible exact H2_) | (have H2_ := (Option.bind_some _ _).symm.trans H; with_reducible exact H2_) | with_reducible exact H | (rw [hy101]; exact H) | exact H
  have Ny101 := Aside0.mk hy101
  clear hy101
  obtain rfl := Option.some.inj H
  go_enter Tryz.func122, Tryz.ntmps122
  go_wp2_with (first | ((with_reducible refine gate_dst (N := 14) rfl ?_); refine Kd.R_lit (Kd.int .u8) _ 5 ?hg (N := 14) ?hd (xs := ([(a0 / 16777216) % 256, (a0 / 65536) % 256, (a0 / 256) % 256, (a0) % 256] : List Int)) (inner := [.int .u8 ((a0 / 16777216) % 256), .int .u8 ((a0 / 65536) % 256), .int .u8 ((a0 / 256) % 256), .int .u8 ((a0) % 256)]) (ok := fun _ => True) (okp := fun _ => True) ?hr ?hp (fun _ hk => hk) trivial (Below.refl _ _) (Nat.le_refl _) (by simp) ?_; (case hd => rfl); (case hg => rfl); (case hr => first | (go_simp; done) | (go_simp; rfl)); (case hp => exact (Reps.one (show Kd.M (Kd.int .u8) _ _ _ ((a0 / 16777216) % 256) [.int .u8 ((a0 / 16777216) % 256)] from rfl) (Reps.one (show Kd.M (Kd.int .u8) _ _ _ ((a0 / 65536) % 256) [.int .u8 ((a0 / 65536) % 256)] from rfl) (Reps.one (show Kd.M (Kd.int .u8) _ _ _ ((a0 / 256) % 256) [.int .u8 ((a0 / 256) % 256)] from rfl) (Reps.one (show Kd.M (Kd.int .u8) _ _ _ ((a0) % 256) [.int .u8 ((a0) % 256)] from rfl) (Reps.none _ _)))))); intro v102 w2 ho3 hb hg_ hnew_; clear hg_ hnew_; (first | rw [← Ny101.out] at ho3 | (simp only [Int.reduceToNat] at ho3; rw [← Ny101.out] at ho3)); have n0_ := Aside0.mk (Kd.R_lower ho3 (below_size (by repeat (first | (with_reducible first | exact HB.out | apply below_alloc | apply pw_below_drewN | apply below_drew1) | exact HB.out | exact Below.refl _ _)))); have n1_ := Aside0.mk (below_step (by repeat (first | (with_reducible first | exact HB.out | apply below_alloc | apply pw_below_drewN | apply below_drew1) | exact HB.out | exact Below.refl _ _)) hb); clear HB; have HO103 := n0_; have HB := n1_; clear n0_ n1_; clear hb ho3))
  go_ret
  exact ⟨_, by first | rfl | (simp [errW_none, errW_some] <;> rfl) | (simp [*, errW_none, errW_some] <;> rfl), by (with_reducible repeat (first | apply Kd.R_alloc | apply Kd.R_drewN | apply Kd.R_drew)); exact HO103.out, by repeat (first | (with_reducible first | exact HB.out | apply below_alloc | apply pw_below_drewN | apply below_drew1) | exact HB.out | exact Below.refl _ _)⟩

/-! ### check_More: function 137 -/
def check_More.l0 : Nat → Int → Int → List Int → Int → Int → Option (Int)
  | 0, _, _, _, _, _ => none
  | k + 1, x5, x6, x15, x16, x17 => if x17 < x16 then (if 0 ≤ x17 then (if x17 < (x15.length : Int) then (check_More.l0 k (((x5 + ((rd x15 x17) % 4294967296)) % 4294967296) % 65521) (((x6 + (((x5 + ((rd x15 x17) % 4294967296)) % 4294967296) % 65521)) % 4294967296) % 65521) x15 x16 (wrap64 (x17 + 1))) else (none)) else (none)) else (some ((((x6 * 65536) % 4294967296) + x5) % 4294967296))
def check_More.f (k : Nat) (a0 : Int) (l1 : List Int) : Option (Int) := check_More.l0 k (Int.tmod (Int.tmod a0 65536) 65521) (((Int.tdiv a0 65536) % 4294967296) % 65521) l1 (l1.length : Int) 0
theorem check_More.mono_l : ∀ k, (∀ y0 y1 y2 y3 y4, LeO (check_More.l0 k y0 y1 y2 y3 y4) (check_More.l0 (k + 1) y0 y1 y2 y3 y4))
  | 0 => fun _ _ _ _ _ r h => by simp [check_More.l0] at h
  | k + 1 => by
    have ih0 := check_More.mono_l k
    · intro y0 y1 y2 y3 y4
      unfold check_More.l0
      repeat' first
      | (with_reducible exact ih0 _ _ _ _ _)
      | (with_reducible exact LeO.refl _)
      | (with_reducible exact LeO.none _)
      | (with_reducible refine LeO.ite ?_ ?_)
      | (with_reducible refine LeO.bind ?_ (fun _ => ?_))
      | exact ih0 _ _ _ _ _
      | exact LeO.none _
      | refine LeO.ite ?_ ?_
      | refine LeO.bind ?_ (fun _ => ?_)
theorem check_More.mono : ∀ a0 a1 k, LeO (check_More.f k a0 a1) (check_More.f (k + 1) a0 a1) := by
  intro a0 a1 k
  have ih0 := check_More.mono_l k
  unfold check_More.f
  repeat' first
      | (with_reducible exact ih0 _ _ _ _ _)
      | (with_reducible exact LeO.refl _)
      | (with_reducible exact LeO.none _)
      | (with_reducible refine LeO.ite ?_ ?_)
      | (with_reducible refine LeO.bind ?_ (fun _ => ?_))
      | exact ih0 _ _ _ _ _
      | exact LeO.none _
      | refine LeO.ite ?_ ?_
      | refine LeO.bind ?_ (fun _ => ?_)
set_option maxHeartbeats 8000000 in
set_option maxRecDepth 100000 in
theorem check_More.calls (k : Nat) (a0 : Int) (A1 : Option Addr) (c1 : Nat) (l1 : List Int) (r : Int) (w : World) (hr1 : Kd.C (Kd.int .u8) w A1 l1.length l1) (hc1 : l1.length ≤ c1) (h : check_More.f k a0 l1 = some r) :
    Calls Tryz.prog 137 #[.int .u32 a0, .slice A1 l1.length c1] w fun e w' => e = .returned (.int .u32 r) ∧ Drawn0 w w' := by
  have HR1 := Aside0.mk hr1
  have HC1 := Aside0.mk hc1
  clear hr1 hc1
  have H : (check_More.l0 k (Int.tmod (Int.tmod a0 65536) 65521) (((Int.tdiv a0 65536) % 4294967296) % 65521) l1 (l1.length : Int) 0) = some r := h
  clear h
  have H' := Aside0.mk H
  clear H
  go_enter Tryz.func137, Tryz.ntmps137
  go_wp2
  go_loopg [5, 6, 17] k (fun kq v5 v6 v17 w' => ∃ (x5_1 : Int) (x6_1 : Int) (x17_1 : Int), v5 = .int .u32 x5_1 ∧ v6 = .int .u32 x6_1 ∧ v17 = .int .i64 x17_1 ∧ Aside0 (check_More.l0 kq x5_1 x6_1 l1 (l1.length : Int) x17_1 = some r) ∧ Aside0 (kq ≤ k) ∧ Drawn0 w w')
  case atStart => exact ⟨(Int.tmod (Int.tmod a0 65536) 65521), (((Int.tdiv a0 65536) % 4294967296) % 65521), (0), (by first | rfl | (simp; done) | (simp [*]; done)), (by first | rfl | (simp; done) | (simp [*]; done)), (by first | rfl | (simp; done) | (simp [*]; done)), H', ⟨Nat.le_refl _⟩, by repeat (first | exact Drawn0.refl _ | apply Drawn0.step)⟩
  case round =>
    clear H'
    try clear c1
    try clear p2
    obtain ⟨x5_1, x6_1, x17_1, rfl, rfl, rfl, HA, HK1, ⟨m1, rfl⟩⟩ := hrel
    cases gk with
    | zero => exact absurd HA.out (by simp [check_More.l0])
    | succ k1 =>
      have H := HA.out
      clear HA
      simp only [check_More.l0] at H
      by_cases c3 : x17_1 < (l1.length : Int)
      · rw [if_pos c3] at H
        have c3b0 : decide (x17_1 < (l1.length : Int)) = true := decide_eq_true c3
        clear c3
        by_cases c4 : 0 ≤ x17_1
        · rw [if_pos c4] at H
          have c4b0 : decide (0 ≤ x17_1) = true := decide_eq_true c4
          clear c4
          by_cases c5 : x17_1 < (l1.length : Int)
          · rw [if_pos c5] at H
            have c5b0 : decide (x17_1 < (l1.length : Int)) = true := decide_eq_true c5
            clear c5
            have H' := Aside0.mk H
            clear H
            have p104 : 0 ≤ (x17_1 : Int) := of_decide_eq_true (by first | (with_reducible assumption) | assumption)
            have q104 : x17_1 < (l1.length : Int) := of_decide_eq_true (by first | (with_reducible assumption) | assumption)
            obtain ⟨ad104, e104, hx104_0⟩ := Kd.at_int HR1.out x17_1 p104 q104
            cases e104
            replace p104 := eq_true p104
            replace q104 := eq_true q104
            go_wp2
            go_roundg k1
            case measure => have := HK1.out; omega
            case rel => exact ⟨(((x5_1 + ((rd l1 x17_1) % 4294967296)) % 4294967296) % 65521), (((x6_1 + (((x5_1 + ((rd l1 x17_1) % 4294967296)) % 4294967296) % 65521)) % 4294967296) % 65521), (wrap64 (x17_1 + 1)), (by first | rfl | (simp; done) | (simp [*]; done)), (by first | rfl | (simp; done) | (simp [*]; done)), (by first | rfl | (simp; done) | (simp [*]; done)), H', ⟨by have := HK1.out; omega⟩, by repeat (first | exact Drawn0.refl _ | apply Drawn0.step)⟩
          · rw [if_neg c5] at H
            exact absurd H (by simp)
        · rw [if_neg c4] at H
          exact absurd H (by simp)
      · rw [if_neg c3] at H
        have c3b0 : decide (x17_1 < (l1.length : Int)) = false := decide_eq_false c3
        clear c3
        obtain rfl := Option.some.inj H
        go_wp2
        go_ret
        exact ⟨by first | rfl | (simp; done) | (simp [*]; done) | (simp [Go.Proofs.YtpcfnkmljchiiaaGreatDoorW.SRows.bne_nil_]; done), by repeat (first | exact Drawn0.refl _ | apply Drawn0.step)⟩

/-! ### check_Start: function 138 -/
def check_Start.f  : Option (Int) := some 1
set_option maxHeartbeats 8000000 in
set_option maxRecDepth 100000 in
theorem check_Start.calls  (r : Int) (w : World) (h : check_Start.f  = some r) :
    Calls Tryz.prog 138 #[] w fun e w' => e = .returned (.int .u32 r) ∧ Drawn0 w w' := by
  have H : (some 1) = some r := h
  clear h
  obtain rfl := Option.some.inj H
  go_enter Tryz.func138, Tryz.ntmps138
  go_wp2
  go_ret
  exact ⟨by first | rfl | (simp; done) | (simp [*]; done) | (simp [Go.Proofs.YtpcfnkmljchiiaaGreatDoorW.SRows.bne_nil_]; done), by repeat (first | exact Drawn0.refl _ | apply Drawn0.step)⟩

/-! ### check_Sum: function 123 -/
def check_Sum.f (k : Nat) (l0 : List Int) : Option (Int) := (check_Start.f).bind fun t105 => ((check_More.f k t105 l0).bind fun t106 => (some t106))
theorem check_Sum.mono : ∀ a0 k, LeO (check_Sum.f k a0) (check_Sum.f (k + 1) a0) := by
  intro a0 k
  unfold check_Sum.f
  repeat' first
      | (with_reducible exact check_More.mono _ _ _)
      | (with_reducible exact LeO.refl _)
      | (with_reducible exact LeO.none _)
      | (with_reducible refine LeO.ite ?_ ?_)
      | (with_reducible refine LeO.bind ?_ (fun _ => ?_))
      | exact check_More.mono _ _ _
      | exact LeO.none _
      | refine LeO.ite ?_ ?_
      | refine LeO.bind ?_ (fun _ => ?_)
set_option maxHeartbeats 8000000 in
set_option maxRecDepth 100000 in
theorem check_Sum.calls (k : Nat) (A0 : Option Addr) (c0 : Nat) (l0 : List Int) (r : Int) (w : World) (hr0 : Kd.C (Kd.int .u8) w A0 l0.length l0) (hc0 : l0.length ≤ c0) (h : check_Sum.f k l0 = some r) :
    Calls Tryz.prog 123 #[.slice A0 l0.length c0] w fun e w' => e = .returned (.int .u32 r) ∧ Drawn0 w w' := by
  have HR0 := Aside0.mk hr0
  have HC0 := Aside0.mk hc0
  clear hr0 hc0
  have H : ((check_Start.f).bind fun t105 => ((check_More.f k t105 l0).bind fun t106 => (some t106))) = some r := h
  clear h
  replace H := Option.bind_eq_some_iff.mp H
  obtain ⟨t105, A20, H⟩ := H
  replace H : ((check_More.f k t105 l0).bind fun t106 => (some t106)) = some r := H
  have A2 := Aside0.mk A20
  clear A20
  replace H := Option.bind_eq_some_iff.mp H
  obtain ⟨t106, A30, H⟩ := H
  replace H : (some t106) = some r := H
  have A3 := Aside0.mk A30
  clear A30
  obtain rfl := Option.some.inj H
  go_enter Tryz.func123, Tryz.ntmps123
  go_wp2_with (first | ((with_reducible refine gate_callee (f := 138) rfl ?_); refine goesL_ (some 3) rfl rfl Tryz.func138 (by kernel_rfl) rfl #[] rfl (by (try simp only [List.map_toArray, List.map_cons, List.map_nil]); first | done | rfl | (simp only [List.length_drop, List.length_take]; rfl)) ?_; (with_reducible refine (check_Start.calls  t105 _ A2.out).mono ?_); rintro e w' ⟨rfl, ⟨nd, rfl⟩⟩; refine ⟨_, rfl, ?_⟩) | ((with_reducible refine gate_callee (f := 137) rfl ?_); refine goesL_ (some 5) rfl rfl Tryz.func137 (by kernel_rfl) rfl #[.int .u32 t105, .slice A0 l0.length c0] rfl (by (try simp only [List.map_toArray, List.map_cons, List.map_nil]); first | done | rfl | (simp only [List.length_drop, List.length_take]; rfl)) ?_; (with_reducible refine (check_More.calls k t105 _ _ l0 t106 _ ?side1 ?side2 A3.out).mono ?_); (case side1 => repeat (first | exact HR0.out | (with_reducible refine Kd.C_alloc ?_ _) | (with_reducible refine Kd.C_drewN ?_ _) | (with_reducible refine Kd.C_drew ?_))); (case side2 => exact HC0.out); rintro e w' ⟨rfl, ⟨nd, rfl⟩⟩; refine ⟨_, rfl, ?_⟩))
  go_ret
  exact ⟨by first | rfl | (simp; done) | (simp [*]; done) | (simp [Go.Proofs.YtpcfnkmljchiiaaGreatDoorW.SRows.bne_nil_]; done), by repeat (first | exact Drawn0.refl _ | apply Drawn0.step)⟩

/-! ### check_Record: function 84 -/
/-- Three rows of bytes laid as a row of rows read so. -/
theorem lit_world4 (w : World) (o : Obj) : Below w.heap.size w (w.alloc o) := (Below.refl _ _).alloc (Nat.le_refl _) _
theorem three_rows {w : World} {e q : TypeId} {A B D : Option Addr} {a b d : Nat} {l1 l2 l3 : List Int} (h1 : Kd.C (Kd.int .u8) w A l1.length l1) (h2 : Kd.C (Kd.int .u8) w B l2.length l2) (h3 : Kd.C (Kd.int .u8) w D l3.length l3)
    (c1 : l1.length ≤ a) (c2 : l2.length ≤ b) (c3 : l3.length ≤ d) :
    Kd.C (Kd.slice e (Kd.int .u8)) (w.alloc (.cells #[.slice A l1.length a, .slice B l2.length b, .slice D l3.length d] q)) (some ⟨w.heap.size, 0, none⟩) [l1, l2, l3].length [l1, l2, l3] := by
  have hb := lit_world4 w (.cells #[.slice A l1.length a, .slice B l2.length b, .slice D l3.length d] q)
  refine ⟨rfl, by simp, fun _ => ⟨_, rfl, fun j p hj => ?_⟩⟩
  match j, hj with
  | 0, hj =>
    obtain rfl : l1 = p := by simpa using hj
    refine ⟨[.slice A l1.length a], rfl, ⟨A, a, rfl, c1, Kd.C_below h1 hb⟩, fun i u hi => ?_⟩
    obtain rfl : i = 0 := by
      have := (List.getElem?_eq_some_iff.1 hi).1
      simpa using this
    obtain rfl : _ = u := by simpa using hi
    rw [add_plain, World.cell?_alloc_new]
    rfl
  | 1, hj =>
    obtain rfl : l2 = p := by simpa using hj
    refine ⟨[.slice B l2.length b], rfl, ⟨B, b, rfl, c2, Kd.C_below h2 hb⟩, fun i u hi => ?_⟩
    obtain rfl : i = 0 := by
      have := (List.getElem?_eq_some_iff.1 hi).1
      simpa using this
    obtain rfl : _ = u := by simpa using hi
    rw [add_plain, World.cell?_alloc_new]
    rfl
  | 2, hj =>
    obtain rfl : l3 = p := by simpa using hj
    refine ⟨[.slice D l3.length d], rfl, ⟨D, d, rfl, c3, Kd.C_below h3 hb⟩, fun i u hi => ?_⟩
    obtain rfl : i = 0 := by
      have := (List.getElem?_eq_some_iff.1 hi).1
      simpa using this
    obtain rfl : _ = u := by simpa using hi
    rw [add_plain, World.cell?_alloc_new]
    rfl
  | j + 3, hj => exact absurd (List.getElem?_eq_some_iff.1 hj).1 (by simp)
def check_Record.f (k : Nat) (l0 : List Int) : Option (List Int × Option Int) := if l0.length ≤ 400000 then (check_Sum.f k l0).bind fun s => (check_four.f ((l0.length : Int) % 4294967296)).bind fun t1 => (check_four.f s).bind fun t2 => (slices_Concat_byte_byte.f [t1, t2, l0]).bind fun r => some (r, none) else none
theorem check_Record.mono : ∀ a0 k, LeO (check_Record.f k a0) (check_Record.f (k + 1) a0) := by
  intro a0 k
  unfold check_Record.f
  repeat' first
      | (with_reducible exact check_Sum.mono _ _)
      | (with_reducible exact LeO.refl _)
      | (with_reducible exact LeO.none _)
      | (with_reducible refine LeO.ite ?_ ?_)
      | (with_reducible refine LeO.bind ?_ (fun _ => ?_))
set_option maxHeartbeats 8000000 in
set_option maxRecDepth 100000 in
theorem check_Record.calls (k : Nat) (A0 : Option Addr) (c0 : Nat) (l0 : List Int) (r1 : List Int) (r2 : Option Int) (w : World) (hr0 : Kd.C (Kd.int .u8) w A0 l0.length l0) (hc0 : l0.length ≤ c0) (h : check_Record.f k l0 = some (r1, r2)) :
    Calls Tryz.prog 84 #[.slice A0 l0.length c0] w fun e w' => ∃ v0_ : Value, e = .returned (.tuple #[v0_, errW r2]) ∧ Kd.R (Kd.int .u8) 5 w' w.heap.size (fun _ => True) v0_ r1 ∧ Below w.heap.size w w' := by
  have HR0 := Aside0.mk hr0
  have HC0 := Aside0.mk hc0
  clear hr0 hc0
  unfold check_Record.f at h
  by_cases hc : l0.length ≤ 400000
  case neg =>
    rw [if_neg hc] at h
    exact absurd h (by simp)
  rw [if_pos hc] at h
  obtain ⟨s, A1, h⟩ := Option.bind_eq_some_iff.mp h
  obtain ⟨t1, A2, h⟩ := Option.bind_eq_some_iff.mp h
  obtain ⟨t2, A3, h⟩ := Option.bind_eq_some_iff.mp h
  obtain ⟨r, A4, h⟩ := Option.bind_eq_some_iff.mp h
  obtain ⟨rfl, rfl⟩ := Prod.mk.inj (Option.some.inj h)
  have H1 := Aside0.mk A1
  have em : (l0.length : Int) % 4294967296 = l0.length := by omega
  rw [em] at A2
  clear em
  have H2 := Aside0.mk A2
  have H3 := Aside0.mk A3
  have H4 := Aside0.mk A4
  have HB := Aside0.mk (Below.refl w.heap.size w)
  have hle : (l0.length : Int) ≤ 400000 := by omega
  have tt : decide (400000 < (l0.length : Int)) = false := decide_eq_false (by omega)
  have tn : decide (400000 < l0.length) = false := decide_eq_false (by omega)
  clear h A1 A2 A3 A4 hc
  go_enter Tryz.func84, Tryz.ntmps84
  go_wp2_with (first
    | (go_at_call 122; (with_reducible refine (check_four.calls (l0.length : Int) t1 _ H2.out).mono ?_); rintro e w1 ⟨v1, rfl, hO, hb⟩; have HO1 := Aside0.mk hO; have HB1 := Aside0.mk hb; clear hO hb; obtain ⟨Q1, q1, e1⟩ := Kd.R_slice HO1.out; subst e1)
    | (go_at_call 123; (with_reducible refine (check_Sum.calls k _ _ l0 s _ (Kd.C_below HR0.out HB1.out) HC0.out H1.out).mono ?_); rintro e w' ⟨rfl, ⟨nd, rfl⟩⟩)
    | (go_at_call 122; (with_reducible refine (check_four.calls s t2 _ H3.out).mono ?_); rintro e w2 ⟨v2, rfl, hO, hb⟩; have HR1 := Aside0.mk (Kd.C_below (Kd.C_drewN (Kd.R_reads' HO1.out).2.2 nd) hb); have HO2 := Aside0.mk hO; have HB2 := Aside0.mk (below_step (pw_below_drewN HB1.out nd) hb); clear hO hb; obtain ⟨Q2, q2, e2⟩ := Kd.R_slice HO2.out; subst e2; have HC3 := Aside0.mk (three_rows (e := 5) (q := 32) HR1.out (Kd.R_reads' HO2.out).2.2 (Kd.C_below HR0.out HB2.out) (Kd.R_reads' HO1.out).2.1 (Kd.R_reads' HO2.out).2.1 HC0.out); have HB3 := Aside0.mk (below_step HB2.out (lit_world4 _ (.cells #[.slice Q1 t1.length q1, .slice Q2 t2.length q2, .slice A0 l0.length c0] 32))))
    | (go_at_call 72; refine (slices_Concat_byte_byte.calls _ _ [t1, t2, l0] _ _ HC3.out (Nat.le_refl _) H4.out).mono ?_; rintro e w4 ⟨v4, rfl, hO, hb⟩; have HO4 := Aside0.mk (Kd.R_lower hO (below_size HB3.out)); have HB4 := Aside0.mk (below_step HB3.out hb); clear hO hb))
  go_ret2
  exact ⟨_, rfl, HO4.out, HB4.out⟩

/-! ### slices_Clone_byte_byte: function 63 -/
def slices_Clone_byte_byte.f (l0 : List Int) : Option (List Int) := if l0.length < 140737488355328 then some l0 else none
set_option maxHeartbeats 8000000 in
set_option maxRecDepth 100000 in
theorem slices_Clone_byte_byte.calls (A0 : Option Addr) (c0 : Nat) (l0 : List Int) (r : List Int) (w : World) (hr0 : Kd.C (Kd.int .u8) w A0 l0.length l0) (hc0 : l0.length ≤ c0) (h : slices_Clone_byte_byte.f l0 = some r) :
    Calls Tryz.prog 63 #[.slice A0 l0.length c0] w fun e w' => ∃ v0_ : Value, e = .returned (v0_) ∧ Kd.R (Kd.int .u8) 5 w' w.heap.size (fun _ => True) v0_ r ∧ Below w.heap.size w w' := by
  have HB := Aside0.mk (Below.refl w.heap.size w)
  have HC0 := Aside0.mk hc0
  clear hc0
  have hn : l0.length < 140737488355328 := by
    unfold slices_Clone_byte_byte.f at h
    by_cases c : l0.length < 140737488355328
    · exact c
    · rw [if_neg c] at h
      exact absurd h (by simp)
  have hr : l0 = r := by
    unfold slices_Clone_byte_byte.f at h
    rw [if_pos hn] at h
    exact Option.some.inj h
  clear h
  subst hr
  have LM := Aside0.mk hn
  clear hn
  have he := fun (w : World) (a : Option Addr) (n c : Nat) => Lib.run_eql_slice_nil (P := Tryz.prog) w 32 5 a n c 0 0 Tryz.underlying32
  cases A0 with
  | none =>
    have h0 : l0 = [] := by
      rcases Nat.eq_zero_or_pos l0.length with h | h
      · exact List.eq_nil_of_length_eq_zero h
      · obtain ⟨ad, h1, _⟩ := hr0.2.2 h
        exact absurd h1 (by simp)
    subst h0
    clear hr0
    go_enter Tryz.func63, Tryz.ntmps63
    go_wp2
    go_ret
    exact ⟨_, rfl, Kd.R_nil _ _ _ _ _, by repeat (first | exact HB.out | apply pw_below_drewN)⟩
  | some a0 =>
    have HR0 := Aside0.mk hr0
    clear hr0
    go_enter Tryz.func63, Tryz.ntmps63
    go_wp2_with (first
      | ((with_reducible refine gate_dst (N := 5) rfl ?_); refine Kd.R_lit (Kd.int .u8) _ 5 ?hg (N := 5) ?hd (xs := ([] : List Int)) (inner := []) (ok := fun _ => True) (okp := fun _ => True) ?hr ?hp (fun _ hk => hk) trivial (Below.refl _ _) (Nat.le_refl _) (by simp) ?_; (case hd => rfl); (case hg => rfl); (case hr => first | (go_simp; done) | (go_simp; rfl)); (case hp => exact (Reps.none _ _)); intro v118 w8 ho9 hb hg_ hnew_; clear hg_ hnew_; have n0_ := Aside0.mk (Kd.R_lower ho9 (below_size (by repeat (first | (with_reducible first | exact HB.out | apply below_alloc | apply pw_below_drewN | apply below_drew1) | exact HB.out)))); have n1_ := Aside0.mk (below_step (by repeat (first | (with_reducible first | exact HB.out | apply below_alloc | apply pw_below_drewN | apply below_drew1) | exact HB.out)) hb); clear HB; have HO119 := n0_; have HB := n1_; clear n0_ n1_; clear hb ho9)
      | ((with_reducible refine gate_builtin (b := .append) (xs := #[.tmp 5, .tmp 6]) rfl ?_); at_builtin; refine Kd.R_append_rows (Kd.int .u8) (w0 := w) w.heap.size rfl (.tmp 5) (.tmp 6) 32 5 (.int .u8 0) 1 rfl Tryz.underlying32 info5 rfl (by decide) (by omega) v118 [] l0 _ _ _ (fun _ => True) (fun _ => False) rfl rfl ?aO ?aR (fun _ _ h => h) (fun _ h => h.elim) ?aF ?aB ?aS ?aL ?_; (case aR => repeat (first | exact (Kd.C_below HR0.out HB.out) | (with_reducible refine Kd.C_alloc ?_ _) | (with_reducible refine Kd.C_drewN ?_ _) | (with_reducible refine Kd.C_drew ?_))); (case aB => exact (by repeat (first | (with_reducible first | exact HB.out | apply below_alloc | apply pw_below_drewN | apply below_drew1) | exact HB.out))); (case aF => exact (fun k_ hk => trivial)); (case aO => exact (by (with_reducible repeat (first | apply Kd.R_alloc | apply Kd.R_drewN | apply Kd.R_drew)); exact HO119.out)); (case aS => exact (below_size (by repeat (first | (with_reducible first | exact HB.out | apply below_alloc | apply pw_below_drewN | apply below_drew1) | exact HB.out)))); (case aL => have := LM.out; simp only [List.length_nil]; omega); intro v134 w16 ho hb hg hat; have n2_ := Aside0.mk (hb); have n3_ := Aside0.mk (ho); clear HB; clear HO119; have HB := n2_; have HO135 := n3_; clear n2_ n3_; clear ho hb hg hat))
    go_ret
    exact ⟨_, rfl, by (with_reducible repeat (first | apply Kd.R_alloc | apply Kd.R_drewN | apply Kd.R_drew)); exact HO135.out, by repeat (first | (with_reducible first | exact HB.out | apply below_alloc | apply pw_below_drewN | apply below_drew1) | exact HB.out)⟩

/-! ### check_number: function 127 -/
def check_number.f (l0 : List Int) : Option (Int) := if 0 < (l0.length : Int) then (if 1 < (l0.length : Int) then (if 2 < (l0.length : Int) then (if 3 < (l0.length : Int) then (some (Go.bits .or .u32 (Go.bits .or .u32 (Go.bits .or .u32 ((((rd l0 0) % 4294967296) * 16777216) % 4294967296) ((((rd l0 1) % 4294967296) * 65536) % 4294967296)) ((((rd l0 2) % 4294967296) * 256) % 4294967296)) ((rd l0 3) % 4294967296))) else (none)) else (none)) else (none)) else (none)
set_option maxHeartbeats 8000000 in
set_option maxRecDepth 100000 in
theorem check_number.calls (A0 : Option Addr) (c0 : Nat) (l0 : List Int) (r : Int) (w : World) (hr0 : Kd.C (Kd.int .u8) w A0 l0.length l0) (hc0 : l0.length ≤ c0) (h : check_number.f l0 = some r) :
    Calls Tryz.prog 127 #[.slice A0 l0.length c0] w fun e w' => e = .returned (.int .u32 r) ∧ Drawn0 w w' := by
  have HR0 := Aside0.mk hr0
  have HC0 := Aside0.mk hc0
  clear hr0 hc0
  have H : (if 0 < (l0.length : Int) then (if 1 < (l0.length : Int) then (if 2 < (l0.length : Int) then (if 3 < (l0.length : Int) then (some (Go.bits .or .u32 (Go.bits .or .u32 (Go.bits .or .u32 ((((rd l0 0) % 4294967296) * 16777216) % 4294967296) ((((rd l0 1) % 4294967296) * 65536) % 4294967296)) ((((rd l0 2) % 4294967296) * 256) % 4294967296)) ((rd l0 3) % 4294967296))) else (none)) else (none)) else (none)) else (none)) = some r := h
  clear h
  by_cases c2 : 0 < (l0.length : Int)
  · rw [if_pos c2] at H
    have c2b0 : decide (0 < (l0.length : Int)) = true := decide_eq_true c2
    have c2b1 : decide (0 < l0.length) = true := decide_eq_true (by omega)
    clear c2
    by_cases c3 : 1 < (l0.length : Int)
    · rw [if_pos c3] at H
      have c3b0 : decide (1 < (l0.length : Int)) = true := decide_eq_true c3
      have c3b1 : decide (1 < l0.length) = true := decide_eq_true (by omega)
      clear c3
      by_cases c4 : 2 < (l0.length : Int)
      · rw [if_pos c4] at H
        have c4b0 : decide (2 < (l0.length : Int)) = true := decide_eq_true c4
        have c4b1 : decide (2 < l0.length) = true := decide_eq_true (by omega)
        clear c4
        by_cases c5 : 3 < (l0.length : Int)
        · rw [if_pos c5] at H
          have c5b0 : decide (3 < (l0.length : Int)) = true := decide_eq_true c5
          have c5b1 : decide (3 < l0.length) = true := decide_eq_true (by omega)
          clear c5
          obtain rfl := Option.some.inj H
          have p107 : 0 ≤ (0 : Int) := (by omega)
          have q107 : 0 < (l0.length : Int) := of_decide_eq_true (by first | (with_reducible assumption) | assumption)
          obtain ⟨ad107, e107, hx107_0⟩ := Kd.at_int HR0.out 0 p107 q107
          cases e107
          have qi107 : (0 < l0.length) = True := eq_true (by omega)
          (try rw [show ((0 : Int)).toNat = 0 from rfl] at hx107_0)
          (try rw [Addr.add_zero'] at hx107_0)
          replace p107 := eq_true p107
          replace q107 := eq_true q107
          have p108 : 0 ≤ (1 : Int) := (by omega)
          have q108 : 1 < (l0.length : Int) := of_decide_eq_true (by first | (with_reducible assumption) | assumption)
          obtain ⟨ad108, e108, hx108_0⟩ := Kd.at_int HR0.out 1 p108 q108
          obtain rfl : ad107 = ad108 := (by injection e108)
          (try simp only [show (1 : Int).toNat = 1 from rfl, Nat.reduceMul, Nat.reduceEqDiff, Go.Addr.add, ↓reduceIte] at hx108_0)
          have qi108 : (1 < l0.length) = True := eq_true (by omega)
          (try rw [show ((1 : Int)).toNat = 1 from rfl] at hx108_0)
          replace p108 := eq_true p108
          replace q108 := eq_true q108
          have p109 : 0 ≤ (2 : Int) := (by omega)
          have q109 : 2 < (l0.length : Int) := of_decide_eq_true (by first | (with_reducible assumption) | assumption)
          obtain ⟨ad109, e109, hx109_0⟩ := Kd.at_int HR0.out 2 p109 q109
          obtain rfl : ad107 = ad109 := (by injection e109)
          (try simp only [show (2 : Int).toNat = 2 from rfl, Nat.reduceMul, Nat.reduceEqDiff, Go.Addr.add, ↓reduceIte] at hx109_0)
          have qi109 : (2 < l0.length) = True := eq_true (by omega)
          (try rw [show ((2 : Int)).toNat = 2 from rfl] at hx109_0)
          replace p109 := eq_true p109
          replace q109 := eq_true q109
          have p110 : 0 ≤ (3 : Int) := (by omega)
          have q110 : 3 < (l0.length : Int) := of_decide_eq_true (by first | (with_reducible assumption) | assumption)
          obtain ⟨ad110, e110, hx110_0⟩ := Kd.at_int HR0.out 3 p110 q110
          obtain rfl : ad107 = ad110 := (by injection e110)
          (try simp only [show (3 : Int).toNat = 3 from rfl, Nat.reduceMul, Nat.reduceEqDiff, Go.Addr.add, ↓reduceIte] at hx110_0)
          have qi110 : (3 < l0.length) = True := eq_true (by omega)
          (try rw [show ((3 : Int)).toNat = 3 from rfl] at hx110_0)
          replace p110 := eq_true p110
          replace q110 := eq_true q110
          go_enter Tryz.func127, Tryz.ntmps127
          go_wp2
          repeat (go_quiet (fail); try go_wp2)
          go_ret
          exact ⟨by first | rfl | (simp; done) | (simp [*]; done) | (simp [Go.Proofs.YtpcfnkmljchiiaaGreatDoorW.SRows.bne_nil_]; done), by repeat (first | exact Drawn0.refl _ | apply Drawn0.step)⟩
        · rw [if_neg c5] at H
          exact absurd H (by simp)
      · rw [if_neg c4] at H
        exact absurd H (by simp)
    · rw [if_neg c3] at H
      exact absurd H (by simp)
  · rw [if_neg c2] at H
    exact absurd H (by simp)

end Go.Proofs.YtpcfnkmljchiiaaGreatDoor.GChk
