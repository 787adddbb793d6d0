/- Steps towards RBoth: DBy. -/
import Derived.Test.YtpcfnkmljchiiaaGreatDoorZ05
set_option linter.unusedVariables false
set_option linter.unusedSimpArgs false
/- slices.Clone, slices.Grow, slices.Concat of bytes. -/
namespace Go.Proofs.YtpcfnkmljchiiaaGreatDoor.DBy
open Go Go.RowKit Go.Proofs.YtpcfnkmljchiiaaGreatDoorW.PrintWords Go.Proofs.YtpcfnkmljchiiaaGreatDoorW.PrintLast Go.Proofs.YtpcfnkmljchiiaaGreatDoorW.PrintMore DBase
attribute [local go_sem] max2_int min2_int max_two min_two max_three min_three max_four min_four
/-! ### slices_Clone_byte_byte: function 63 -/
def slices_Clone_byte_byte.f (l0 : List Int) : Option (List Int) := if l0.length < 140737488355328 then some l0 else none
set_option maxHeartbeats 8000000 in
set_option maxRecDepth 100000 in
theorem slices_Clone_byte_byte.calls (A0 : Option Addr) (c0 : Nat) (l0 : List Int) (r : List Int) (w : World) (hr0 : Kd.C (Kd.int .u8) w A0 l0.length l0) (hc0 : l0.length ≤ c0) (h : slices_Clone_byte_byte.f l0 = some r) :
    Calls Tryz.prog 63 #[.slice A0 l0.length c0] w fun e w' => ∃ v0_ : Value, e = .returned (v0_) ∧ Kd.R (Kd.int .u8) 5 w' w.heap.size (fun _ => True) v0_ r ∧ Below w.heap.size w w' := by
  have HB := Aside0.mk (Below.refl w.heap.size w)
  have HC0 := Aside0.mk hc0
  clear hc0
  have hn : l0.length < 140737488355328 := by
    unfold slices_Clone_byte_byte.f at h
    by_cases c : l0.length < 140737488355328
    · exact c
    · rw [if_neg c] at h
      exact absurd h (by simp)
  have hr : l0 = r := by
    unfold slices_Clone_byte_byte.f at h
    rw [if_pos hn] at h
    exact Option.some.inj h
  clear h
  subst hr
  have LM := Aside0.mk hn
  clear hn
  have he := fun (w : World) (a : Option Addr) (n c : Nat) => Lib.run_eql_slice_nil (P := Tryz.prog) w 32 5 a n c 0 0 Tryz.underlying32
  cases A0 with
  | none =>
    have h0 : l0 = [] := by
      rcases Nat.eq_zero_or_pos l0.length with h | h
      · exact List.eq_nil_of_length_eq_zero h
      · obtain ⟨ad, h1, _⟩ := hr0.2.2 h
        exact absurd h1 (by simp)
    subst h0
    clear hr0
    go_enter Tryz.func63, Tryz.ntmps63
    go_wp2
    go_ret
    exact ⟨_, rfl, Kd.R_nil _ _ _ _ _, by repeat (first | exact HB.out | apply pw_below_drewN)⟩
  | some a0 =>
    have HR0 := Aside0.mk hr0
    clear hr0
    go_enter Tryz.func63, Tryz.ntmps63
    go_wp2_with (first
      | ((with_reducible refine gate_dst (N := 5) rfl ?_); refine Kd.R_lit (Kd.int .u8) _ 5 ?hg (N := 5) ?hd (xs := ([] : List Int)) (inner := []) (ok := fun _ => True) (okp := fun _ => True) ?hr ?hp (fun _ hk => hk) trivial (Below.refl _ _) (Nat.le_refl _) (by simp) ?_; (case hd => rfl); (case hg => rfl); (case hr => first | (go_simp; done) | (go_simp; rfl)); (case hp => exact (Reps.none _ _)); intro v118 w8 ho9 hb hg_ hnew_; clear hg_ hnew_; have n0_ := Aside0.mk (Kd.R_lower ho9 (below_size (by repeat (first | (with_reducible first | exact HB.out | apply below_alloc | apply pw_below_drewN | apply below_drew1) | exact HB.out)))); have n1_ := Aside0.mk (below_step (by repeat (first | (with_reducible first | exact HB.out | apply below_alloc | apply pw_below_drewN | apply below_drew1) | exact HB.out)) hb); clear HB; have HO119 := n0_; have HB := n1_; clear n0_ n1_; clear hb ho9)
      | ((with_reducible refine gate_builtin (b := .append) (xs := #[.tmp 5, .tmp 6]) rfl ?_); at_builtin; refine Kd.R_append_rows (Kd.int .u8) (w0 := w) w.heap.size rfl (.tmp 5) (.tmp 6) 32 5 (.int .u8 0) 1 rfl Tryz.underlying32 info5 rfl (by decide) (by omega) v118 [] l0 _ _ _ (fun _ => True) (fun _ => False) rfl rfl ?aO ?aR (fun _ _ h => h) (fun _ h => h.elim) ?aF ?aB ?aS ?aL ?_; (case aR => repeat (first | exact (Kd.C_below HR0.out HB.out) | (with_reducible refine Kd.C_alloc ?_ _) | (with_reducible refine Kd.C_drewN ?_ _) | (with_reducible refine Kd.C_drew ?_))); (case aB => exact (by repeat (first | (with_reducible first | exact HB.out | apply below_alloc | apply pw_below_drewN | apply below_drew1) | exact HB.out))); (case aF => exact (fun k_ hk => trivial)); (case aO => exact (by (with_reducible repeat (first | apply Kd.R_alloc | apply Kd.R_drewN | apply Kd.R_drew)); exact HO119.out)); (case aS => exact (below_size (by repeat (first | (with_reducible first | exact HB.out | apply below_alloc | apply pw_below_drewN | apply below_drew1) | exact HB.out)))); (case aL => have := LM.out; simp only [List.length_nil]; omega); intro v134 w16 ho hb hg hat; have n2_ := Aside0.mk (hb); have n3_ := Aside0.mk (ho); clear HB; clear HO119; have HB := n2_; have HO135 := n3_; clear n2_ n3_; clear ho hb hg hat))
    go_ret
    exact ⟨_, rfl, by (with_reducible repeat (first | apply Kd.R_alloc | apply Kd.R_drewN | apply Kd.R_drew)); exact HO135.out, by repeat (first | (with_reducible first | exact HB.out | apply below_alloc | apply pw_below_drewN | apply below_drew1) | exact HB.out)⟩
/-! ### slices_Concat_byte_byte: function 72 -/
theorem addr_zero (a : Addr) : a.add 0 = a := by
  unfold Addr.add
  split <;> simp_all
/-- 'x[:m]' of a slice, m within its capacity. -/
theorem print_top_raw {P : Program} (t e : TypeId) (ht : P.underlying t = some (.slice e)) (hi : ∃ i, P.info? e = some i) (a : Addr) (n c m : Nat) (hm : m ≤ c) (W : World) :
    (Instr.slice t (.slice (some a) n c) none (some (.int .i64 (m : Int))) none).run P W = .ok (.slice (some a) m c) W := by
  obtain ⟨i, hi⟩ := hi
  have hel : P.elem t = e := by simp [Program.elem, ht]
  have hu : P.underlying t = some (.slice (P.elem t)) := by rw [hel]; exact ht
  rw [run_slice_h W t (some a) n c hu .i64 (m : Int) (Int.natCast_nonneg _) (by omega), hel]
  simp [sizeOf, typeInfo, hi, sliced, Result.andThen, addr_zero]
/-- An element of a row of rows of bytes. -/
theorem rows_at {w : World} {e : TypeId} {A : Option Addr} {xs : List (List Int)} {n : Nat} (h : Kd.C (Kd.slice e (Kd.int .u8)) w A n xs) (k : Nat) (hk : k < xs.length) :
    ∃ (ad : Addr) (A' : Option Addr) (c' : Nat), A = some ad ∧ w.cell? (ad.add k) = some (.slice A' xs[k].length c') ∧ xs[k].length ≤ c' ∧ Kd.C (Kd.int .u8) w A' xs[k].length xs[k] := by
  have hn : xs.length = n := h.1
  obtain ⟨ad, ea, hc⟩ := h.2.2 (by omega)
  obtain ⟨c, hs, ⟨A', c', hcs, hl, hC⟩, hcell⟩ := hc k xs[k] (List.getElem?_eq_getElem hk)
  subst hcs
  refine ⟨ad, A', c', ea, ?_, hl, hC⟩
  have := hcell 0 _ rfl
  simpa [Kd.slice] using this
set_option maxHeartbeats 8000000 in
set_option maxRecDepth 100000 in
/-- slices.Grow of nil. -/
theorem slices_Grow_byte_byte.calls_nil (n : Nat) (w : World) (hn : n ≤ 1100000000) :
    Calls Tryz.prog 116 #[.slice none 0 0, .int .i64 (n : Int)] w fun e w' => ∃ v0_ : Value, e = .returned v0_ ∧ Kd.R (Kd.int .u8) 5 w' w.heap.size (fun _ => True) v0_ [] ∧ Below w.heap.size w w' := by
  have t0 : decide ((n : Int) < 0) = false := decide_eq_false (by omega)
  by_cases hz : n = 0
  · subst hz
    go_enter Tryz.func116, Tryz.ntmps116
    go_wp2
    go_ret
    exact ⟨_, rfl, Kd.R_nil _ _ _ _ _, Below.refl _ _⟩
  · have t1 : decide (0 < (n : Int)) = true := decide_eq_true (by omega)
    have t2 : decide (0 < n) = true := decide_eq_true (by omega)
    have hb0 : 0 ≤ (n : Int) := by omega
    have hb1 : (n : Int) ≤ 1100000000 := by omega
    have HP := Aside0.mk (show 0 < n by omega)
    have HL := Aside0.mk hn
    have HB0 := Aside0.mk (Below.refl w.heap.size w)
    clear hz hn
    go_enter Tryz.func116, Tryz.ntmps116
    go_wp2_with (first
      | ((with_reducible refine gate_builtin (b := .append) (xs := #[.tmp 20, .tmp 21]) rfl ?_); at_builtin; refine Kd.R_append_zeros (Kd.int .u8) (w0 := w) w.heap.size rfl (.tmp 20) (.tmp 21) 32 3 5 (.int .u8 0) 1 rfl Tryz.underlying32 Tryz.underlying3 info5 rfl (by decide) (by omega) (.slice none 0 0) ([] : List Int) 0 (n : Int) (fun _ => True) rfl rfl rfl (fun _ _ => trivial) (Kd.R_nil _ _ _ _ _) (by omega) HB0.out (Nat.le_refl _) ?aL ?_; (case aL => have := HL.out; simp only [List.length_nil]; omega); intro v1 w1 ho hb hg hat; clear hg hat; have HO := Aside0.mk ho; have HB := Aside0.mk hb; clear ho hb; obtain ⟨inner3, ow3⟩ := Kd.R_own HO.out; obtain ⟨g3, c3, e3, _, _⟩ := World.ownsRow.form ow3 (by have := HP.out; simp; omega); clear ow3; subst e3; have hcut := print_top_raw (P := Tryz.prog) 32 5 Tryz.underlying32 (let ⟨i, hi, _⟩ := info_parts info5; ⟨i, hi⟩) ⟨g3, 0, none⟩ ([] ++ List.replicate (n : Int).toNat (0 : Int)).length c3 0 (by omega)))
    go_ret
    exact ⟨_, rfl, Kd.R_take HO.out (m := 0) (by omega), HB.out⟩
/-- How many bytes the first k rows have. -/
def flen (l : List (List Int)) (k : Nat) : Nat := (l.take k).flatten.length
def slices_Concat_byte_byte.f (l0 : List (List Int)) : Option (List Int) := if l0.flatten.length ≤ 1100000000 then some l0.flatten else none
set_option maxHeartbeats 8000000 in
set_option maxRecDepth 100000 in
theorem slices_Concat_byte_byte.calls (A0 : Option Addr) (c0 : Nat) (l0 : List (List Int)) (r : List Int) (w : World) (hr0 : Kd.C (Kd.slice 5 (Kd.int .u8)) w A0 l0.length l0) (hc0 : l0.length ≤ c0) (h : slices_Concat_byte_byte.f l0 = some r) :
    Calls Tryz.prog 72 #[.slice A0 l0.length c0] w fun e w' => ∃ v0_ : Value, e = .returned (v0_) ∧ Kd.R (Kd.int .u8) 5 w' w.heap.size (fun _ => True) v0_ r ∧ Below w.heap.size w w' := by
  have hn : l0.flatten.length ≤ 1100000000 := by
    unfold slices_Concat_byte_byte.f at h
    by_cases c : l0.flatten.length ≤ 1100000000
    · exact c
    · rw [if_neg c] at h
      exact absurd h (by simp)
  have hr : l0.flatten = r := by
    unfold slices_Concat_byte_byte.f at h
    rw [if_pos hn] at h
    exact Option.some.inj h
  clear h
  have hsum : ∀ k, flen l0 k ≤ 1100000000 := fun k => by
    unfold flen
    have : l0.flatten = (l0.take k).flatten ++ (l0.drop k).flatten := by rw [← List.flatten_append, List.take_append_drop]
    rw [this, List.length_append] at hn
    omega
  have hstep : ∀ k (hk : k < l0.length), (l0.take (k + 1)).flatten = (l0.take k).flatten ++ l0[k] := fun k hk => by
    rw [List.take_succ_eq_append_getElem hk, List.flatten_append]
    simp
  have hflen : ∀ k (hk : k < l0.length), flen l0 (k + 1) = flen l0 k + l0[k].length := fun k hk => by
    unfold flen
    rw [hstep k hk, List.length_append]
  have HF := Aside0.mk hflen
  clear hflen
  have hll : (l0.length : Int) ≤ 9223372036854775807 := by have := hr0.2.1; omega
  have HR0 := Aside0.mk hr0
  have HC0 := Aside0.mk hc0
  have HS := Aside0.mk hsum
  have HT := Aside0.mk hstep
  have HRR := Aside0.mk hr
  have HBR := Aside0.mk (Below.refl w.heap.size w)
  clear hr0 hc0 hsum hstep hn hr
  go_enter Tryz.func72, Tryz.ntmps72
  go_wp2
  go_loop [3, 11] (fun s i => ∃ k : Nat, k ≤ l0.length ∧ i = .int .i64 k ∧ s = .int .i64 (flen l0 k : Nat)) (fun _ i => l0.length - (Go.RowKit.intOf i).toNat)
  case atStart => exact ⟨0, Nat.zero_le _, rfl, rfl⟩
  case round =>
    obtain ⟨k, hk, rfl, rfl⟩ := hrel
    by_cases hlt : k < l0.length
    · obtain ⟨ad, A', c', ea, hcell, hl', hC'⟩ := rows_at HR0.out k hlt
      subst ea
      clear hl' hC'
      have t0 : decide ((k : Int) < (l0.length : Int)) = true := decide_eq_true (by omega)
      have t1 : decide (k < l0.length) = true := decide_eq_true hlt
      have hs1 := HS.out k
      have hs2 := HS.out (k + 1)
      have hs3 := HF.out k hlt
      obtain ⟨L1, hL1⟩ : ∃ x, x = flen l0 k := ⟨_, rfl⟩
      obtain ⟨L2, hL2⟩ : ∃ x, x = l0[k].length := ⟨_, rfl⟩
      rw [← hL1, ← hL2] at hs3
      rw [← hL1] at hs1 ⊢
      rw [← hL2] at hcell
      have b1 : (L1 : Int) + (L2 : Int) ≤ 1100000000 := by omega
      have b2 : decide ((L1 : Int) + (L2 : Int) < 0) = false := decide_eq_false (by omega)
      have HS3 := Aside0.mk hs3
      clear hs1 hs2 hs3 hL1 hL2
      go_wp2
      go_round
      case rel => exact ⟨k + 1, by omega, by go_num, by rw [HS3.out]; go_num⟩
      case measure => simp [Go.RowKit.intOf]; omega
    · have hk' : k = l0.length := by omega
      have HKK := Aside0.mk hk'
      have t0 : decide ((k : Int) < (l0.length : Int)) = false := decide_eq_false (by omega)
      have t1 : decide (k < l0.length) = false := decide_eq_false (by omega)
      clear hk' hlt hk
      go_wp2_with (go_at_call 116; (with_reducible refine (slices_Grow_byte_byte.calls_nil _ _ (HS.out k)).mono ?_); rintro e w1 ⟨v1, rfl, hO, hb⟩; have HO1 := Aside0.mk hO; have HB1 := Aside0.mk hb; clear hO hb)
      clear t0 t1
      go_loopw [6, 27] (fun v i wr => ∃ j : Nat, j ≤ l0.length ∧ i = .int .i64 j ∧ Aside0 (Kd.R (Kd.int .u8) 5 wr w.heap.size (fun _ => True) v (l0.take j).flatten) ∧ Aside0 (Below w.heap.size w wr)) (fun _ i _ => l0.length - (Go.RowKit.intOf i).toNat)
      case atStart => exact ⟨0, Nat.zero_le _, rfl, ⟨HO1.out⟩, HB1⟩
      case round =>
        clear HO1 HB1
        obtain ⟨j, hj, rfl, HO, HB⟩ := hrel
        by_cases hlt : j < l0.length
        · obtain ⟨ad, A', c', ea, hcell, hl', hC'⟩ := rows_at (Kd.C_below HR0.out HB.out) j hlt
          subst ea
          have HC' := Aside0.mk hC'
          have t1 : decide (j < l0.length) = true := decide_eq_true hlt
          obtain ⟨L2, hL2⟩ : ∃ x, x = l0[j].length := ⟨_, rfl⟩
          rw [← hL2] at hcell
          have HL2 := Aside0.mk hL2
          have HLT := Aside0.mk hlt
          clear hl' hC' hL2
          obtain ⟨A6, c6, e6⟩ := Kd.R_slice HO.out
          subst e6
          obtain ⟨m6, hm6⟩ : ∃ x, x = (l0.take j).flatten.length := ⟨_, rfl⟩
          rw [← hm6] at HO ⊢
          have HM6 := Aside0.mk hm6
          clear hm6
          go_wp2_with ((with_reducible refine gate_builtin (b := .append) (xs := #[.tmp 31, .tmp 32]) rfl ?_); at_builtin; refine Kd.R_append_rows (Kd.int .u8) (w0 := w) w.heap.size rfl (.tmp 31) (.tmp 32) 32 5 (.int .u8 0) 1 rfl Tryz.underlying32 info5 rfl (by decide) (by omega) (.slice A6 m6 c6) (l0.take j).flatten (l0[j]'HLT.out) A' L2 c' (fun _ => True) (fun _ => False) rfl rfl HO.out ?aR (fun _ _ h => h) (fun _ h => h.elim) (fun _ _ => trivial) HB.out (below_size HB.out) ?aL ?_; (case aR => have := HC'.out; rw [← HL2.out] at this; exact this); (case aL => have h1 := HF.out j HLT.out; have h2 := HS.out (j + 1); have h3 := HL2.out; unfold flen at h1 h2; omega); intro v7 w7 ho hb hg hat; clear hg hat; rw [← HT.out j HLT.out] at ho; have HO7 := Aside0.mk ho; have HB7 := Aside0.mk hb; clear ho hb)
          go_roundw
          case rel => exact ⟨j + 1, by omega, by go_num, HO7, HB7⟩
          case measure => simp [Go.RowKit.intOf]; omega
        · have t1 : decide (j < l0.length) = false := decide_eq_false (by omega)
          have hjl : j = l0.length := by omega
          have HJ := Aside0.mk hjl
          clear hjl hlt hj
          go_wp2
          go_ret
          have hO := HO.out
          rw [HJ.out, List.take_length, HRR.out] at hO
          exact ⟨_, rfl, hO, HB.out⟩
end Go.Proofs.YtpcfnkmljchiiaaGreatDoor.DBy
