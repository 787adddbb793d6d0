/- Steps towards RBoth: GPlx1. -/
import Derived.Test.YtpcfnkmljchiiaaGreatDoorZ01
set_option linter.unusedVariables false
set_option linter.unusedSimpArgs false
/- Written by a program of mine (wip/tools/mkprint.py turns the kit's print; given contracts by hand). Lean checks it. -/
namespace Go.Proofs.YtpcfnkmljchiiaaGreatDoor.GPl
open Go.RowKit Go.Proofs.YtpcfnkmljchiiaaGreatDoorW.PrintWords Go.Proofs.YtpcfnkmljchiiaaGreatDoorW.PrintLast Go.Proofs.YtpcfnkmljchiiaaGreatDoorW.PrintMore
attribute [local go_sem] max2_int min2_int max_two min_two max_three min_three max_four min_four   -- for this text's walks alone

/-! ### postbagnum_Bytes: function 24 -/
theorem addr_zero (a : Addr) : a.add 0 = a := by
  unfold Addr.add
  split <;> simp_all
/-- 'x[:m]' of a slice, m within its capacity. -/
theorem print_top_raw {P : Program} (t e : TypeId) (ht : P.underlying t = some (.slice e)) (hi : ∃ i, P.info? e = some i) (a : Addr) (n c m : Nat) (hm : m ≤ c) (W : World) :
    (Instr.slice t (.slice (some a) n c) none (some (.int .i64 (m : Int))) none).run P W = .ok (.slice (some a) m c) W := by
  obtain ⟨i, hi⟩ := hi
  have hel : P.elem t = e := by simp [Program.elem, ht]
  have hu : P.underlying t = some (.slice (P.elem t)) := by rw [hel]; exact ht
  rw [run_slice_h W t (some a) n c hu .i64 (m : Int) (Int.natCast_nonneg _) (by omega), hel]
  simp [sizeOf, typeInfo, hi, sliced, Result.andThen, addr_zero]
def six : List Int := [201, 202, 203, 204, 205, 206]
set_option maxHeartbeats 8000000 in
set_option maxRecDepth 100000 in
/-- A copy with marked room behind. -/
theorem postbagnum_Bytes.calls (A0 : Option Addr) (c0 : Nat) (l0 : List Int) (w : World) (hr0 : Kd.C (Kd.int .u8) w A0 l0.length l0) (hc0 : l0.length ≤ c0) (hn : l0.length ≤ 1000000) :
    Calls Tryz.prog 24 #[.slice A0 l0.length c0] w fun e w' => ∃ (a : Addr) (c : Nat), e = .returned (.slice (some a) l0.length c) ∧ l0.length + 6 ≤ c ∧
      Kd.R (Kd.int .u8) 5 w' w.heap.size (fun _ => True) (.slice (some a) (l0.length + 6) c) (l0 ++ six) ∧ Below w.heap.size w w' := by
  have HB := Aside0.mk (Below.refl w.heap.size w)
  have HR0 := Aside0.mk hr0
  have HC0 := Aside0.mk hc0
  have LM := Aside0.mk hn
  have hle : (l0.length : Int) ≤ 1000000 := by omega
  clear hr0 hc0 hn
  obtain ⟨i7, hi7, hz7, hs7, hb7⟩ := info_parts info5
  have HI := Aside0.mk (And.intro hi7 (And.intro hz7 (And.intro hs7 hb7)))
  clear hi7 hz7 hs7 hb7
  go_enter Tryz.func24, Tryz.ntmps24
  go_wp2_with (first
    | ((with_reducible refine gate_dst (N := 7) rfl ?_); refine wpList_make_own _ rfl (.const (.int .i64 0)) (.tmp 6) 32 rfl w.heap.size 5 i7 (.int .u8 0) 1 Tryz.underlying32 HI.out.1 HI.out.2.1 HI.out.2.2.1 .i64 .i64 ((l0.length : Int) + 6) (l0.length + 6) rfl rfl (by omega) ?m1 ?m2 (Nat.le_refl _) ?_; (case m1 => have h1 := LM.out; have h2 := HI.out.2.2.2; rw [h2]; omega); (case m2 => have h1 := LM.out; unfold maxLen; omega); intro w7 how hgr; have HO := Aside0.mk (show Kd.R (Kd.int .u8) 5 w7 w.heap.size (fun _ => True) (.slice (some ⟨w.heap.size, 0, none⟩) 0 (l0.length + 6)) [] from ⟨fun _ _ => trivial, [], how, Reps.none _ _⟩); have n0_ := Aside0.mk (Below.grown (Below.refl w.heap.size w) hgr (Nat.le_refl _) (by simp)); clear HB; have HB := n0_; clear n0_ how hgr)
    | ((with_reducible refine gate_builtin (b := .append) (xs := #[.tmp 7, .tmp 8]) rfl ?_); at_builtin; refine Kd.R_append_rows (Kd.int .u8) (w0 := w) w.heap.size rfl (.tmp 7) (.tmp 8) 32 5 (.int .u8 0) 1 rfl Tryz.underlying32 info5 rfl (by decide) (by omega) (.slice (some ⟨w.heap.size, 0, none⟩) 0 (l0.length + 6)) [] l0 _ _ _ (fun _ => True) (fun _ => False) rfl rfl HO.out ?aR (fun _ _ h => h) (fun _ h => h.elim) (fun _ _ => trivial) HB.out (below_size HB.out) ?aL ?_; (case aR => exact Kd.C_below HR0.out HB.out); (case aL => have := LM.out; simp only [List.length_nil]; omega); intro v1 w8 ho hb hg hat; clear HO; have HO := Aside0.mk ho; have n0_ := Aside0.mk hb; clear HB; have HB := n0_; clear n0_ ho hb hg hat)
    | ((with_reducible refine gate_dst (N := 10) rfl ?_); refine Kd.R_lit (Kd.int .u8) (w0 := w) w.heap.size 5 ?hg (N := 10) ?hd (xs := six) (inner := [.int .u8 201, .int .u8 202, .int .u8 203, .int .u8 204, .int .u8 205, .int .u8 206]) (ok := fun _ => True) (okp := fun _ => True) ?hr ?hp (fun _ hk => hk) trivial HB.out (below_size HB.out) (by decide) ?_; (case hd => rfl); (case hg => rfl); (case hr => first | (go_simp; done) | (go_simp; rfl)); (case hp => exact (Reps.one (show Kd.M (Kd.int .u8) _ _ _ 201 [.int .u8 201] from rfl) (Reps.one (show Kd.M (Kd.int .u8) _ _ _ 202 [.int .u8 202] from rfl) (Reps.one (show Kd.M (Kd.int .u8) _ _ _ 203 [.int .u8 203] from rfl) (Reps.one (show Kd.M (Kd.int .u8) _ _ _ 204 [.int .u8 204] from rfl) (Reps.one (show Kd.M (Kd.int .u8) _ _ _ 205 [.int .u8 205] from rfl) (Reps.one (show Kd.M (Kd.int .u8) _ _ _ 206 [.int .u8 206] from rfl) (Reps.none _ _)))))))); intro v2 w9 ho hb hg hat; have n0_ := Aside0.mk (Kd.R_grown HO.out hg (by simp)); clear HO; have HO := n0_; clear n0_; have HL := Aside0.mk ho; have n0_ := Aside0.mk hb; clear HB; have HB := n0_; clear n0_ ho hb hg hat; obtain ⟨A2, c2, e2⟩ := Kd.R_slice HL.out; subst e2)
    | ((with_reducible refine gate_builtin (b := .append) (xs := #[.tmp 9, .tmp 10]) rfl ?_); at_builtin; refine Kd.R_append_rows (Kd.int .u8) (w0 := w) w.heap.size rfl (.tmp 9) (.tmp 10) 32 5 (.int .u8 0) 1 rfl Tryz.underlying32 info5 rfl (by decide) (by omega) v1 ([] ++ l0) six _ _ _ (fun _ => True) (fun _ => False) rfl rfl HO.out ?aR (fun _ _ h => h) (fun _ h => h.elim) (fun _ _ => trivial) HB.out (below_size HB.out) ?aL ?_; (case aR => exact (Kd.R_reads' HL.out).2.2); (case aL => have := LM.out; simp only [List.nil_append, six, List.length_cons, List.length_nil]; omega); intro v3 w10 ho hb hg hat; clear HO HL; have HO := Aside0.mk ho; have n0_ := Aside0.mk hb; clear HB; have HB := n0_; clear n0_ ho hb hg hat; obtain ⟨inner3, ow3⟩ := Kd.R_own HO.out; obtain ⟨g3, c3, e3, _, _⟩ := World.ownsRow.form ow3 (by simp only [List.nil_append, List.length_append, six, List.length_cons, List.length_nil]; omega); clear ow3; subst e3; have HC3 := Aside0.mk (Kd.R_reads' HO.out).2.1; obtain ⟨L3, hL3⟩ : ∃ x, x = ([] ++ l0 ++ six).length := ⟨_, rfl⟩; rw [← hL3] at HO HC3 ⊢; have HL3 := Aside0.mk hL3; clear hL3; have hcut := print_top_raw (P := Tryz.prog) 32 5 Tryz.underlying32 ⟨i7, HI.out.1⟩ ⟨g3, 0, none⟩ L3 c3 l0.length (by have h1 := HL3.out; have h2 := HC3.out; simp only [List.nil_append, List.length_append, six, List.length_cons, List.length_nil] at h1; omega)))
  go_ret
  have hL := HL3.out
  simp only [List.nil_append, List.length_append, six, List.length_cons, List.length_nil] at hL
  have hO := HO.out
  rw [List.nil_append] at hO
  refine ⟨_, _, rfl, by have := HC3.out; omega, ?_, HB.out⟩
  have e : L3 = l0.length + 6 := by omega
  rw [← e]
  exact hO

/-! ### postbagnum_Kept: function 26 -/
theorem kept_cell {w : World} {a : Addr} {l0 : List Int} (hR : Kd.C (Kd.int .u8) w (some a) (l0.length + 6) (l0 ++ six)) (k : Nat) (hk : k < 6) :
    w.cell? (a.add (l0.length + k)) = some (.int .u8 (201 + (k : Int))) := by
  obtain ⟨ad, e, h⟩ := hR.2.2 (by omega)
  obtain rfl : a = ad := Option.some.inj e
  have hg : (l0 ++ six)[l0.length + k]? = some (201 + (k : Int)) := by
    rw [List.getElem?_append_right (by omega), Nat.add_sub_cancel_left]
    match k, hk with
    | 0, _ => rfl
    | 1, _ => rfl
    | 2, _ => rfl
    | 3, _ => rfl
    | 4, _ => rfl
    | 5, _ => rfl
  obtain ⟨c, hc, hr, hcell⟩ := h _ _ hg
  have hr' : c = [.int .u8 (201 + (k : Int))] := hr
  subst hr'
  have := hcell 0 _ rfl
  simpa [Kd.int, Kd.scalar] using this
theorem kept_head {w : World} {a : Addr} {l0 : List Int} (hR : Kd.C (Kd.int .u8) w (some a) (l0.length + 6) (l0 ++ six)) : Kd.C (Kd.int .u8) w (some a) l0.length l0 := by
  have h := (Kd.reads_of_C (d := (0 : Int)) (h1 := fun _ => rfl) hR).take_ l0.length (by omega)
  rw [List.take_left' rfl] at h
  exact Kd.C_of_reads (d := (0 : Int)) (h1 := fun _ => rfl) h
set_option maxHeartbeats 8000000 in
set_option maxRecDepth 100000 in
/-- What the marked copy holds, and its room, stand as they stood. -/
theorem postbagnum_Kept.calls (a : Addr) (c : Nat) (A1 : Option Addr) (c1 : Nat) (l0 : List Int) (w : World) (hR : Kd.C (Kd.int .u8) w (some a) (l0.length + 6) (l0 ++ six)) (hc : l0.length + 6 ≤ c)
    (hr1 : Kd.C (Kd.int .u8) w A1 l0.length l0) (hc1 : l0.length ≤ c1) (hn : l0.length ≤ 1000000) :
    Calls Tryz.prog 26 #[.slice (some a) l0.length c, .slice A1 l0.length c1] w fun e w' => e = .returned (.bool true) ∧ Drawn0 w w' := by
  have HR := Aside0.mk hR
  have HH := Aside0.mk (kept_head hR)
  have HR1 := Aside0.mk hr1
  have HC1 := Aside0.mk hc1
  have LM := Aside0.mk hn
  have HCI := Aside0.mk hc
  have hcut1 := fun W => print_top_raw (P := Tryz.prog) 32 5 Tryz.underlying32 (let ⟨i, hi, _⟩ := info_parts info5; ⟨i, hi⟩) a l0.length c c (Nat.le_refl _) W
  have hcut2 := fun W => print_top_raw (P := Tryz.prog) 32 5 Tryz.underlying32 (let ⟨i, hi, _⟩ := info_parts info5; ⟨i, hi⟩) a c c l0.length (by omega) W
  have hle : (l0.length : Int) ≤ 1000000 := by omega
  have e6 : IntKind.i64.wrap ((l0.length : Int) + 6) = (l0.length : Int) + 6 := IntWalk.i64_in _ (by omega)
  have ht : decide ((c : Int) < (l0.length : Int) + 6) = false := decide_eq_false (by omega)
  have hcv1 := fun n => Kd.C_string (P := Tryz.prog) (w := w.drewN n) (A := some a) (c := c) Tryz.underlying32 Tryz.underlying5 Tryz.underlying9 (Kd.C_drewN HH.out n)
  have hcv2 := fun n => Kd.C_string (P := Tryz.prog) (w := w.drewN n) (A := A1) (c := c1) Tryz.underlying32 Tryz.underlying5 Tryz.underlying9 (Kd.C_drewN HR1.out n)
  have hcv3 := Kd.C_string (P := Tryz.prog) (A := some a) (c := c) Tryz.underlying32 Tryz.underlying5 Tryz.underlying9 HH.out
  have hcv4 := Kd.C_string (P := Tryz.prog) (A := A1) (c := c1) Tryz.underlying32 Tryz.underlying5 Tryz.underlying9 HR1.out
  clear hR hr1 hc1 hn hc
  go_enter Tryz.func26, Tryz.ntmps26
  go_wp2
  go_quiet (fail)
  go_wp2
  go_loop [6] (fun i => ∃ k : Nat, k ≤ 6 ∧ i = .int .i64 k) (fun i => 6 - (Go.RowKit.intOf i).toNat)
  case atStart => exact ⟨0, by omega, rfl⟩
  case round =>
    obtain ⟨k, hk, rfl⟩ := hrel
    by_cases hlt : k < 6
    · have hcell := kept_cell HR.out k hlt
      have e2 : ((l0.length : Int) + (k : Int)).toNat = l0.length + k := by omega
      have e3 : ((201 + (k : Int)) % 256) = 201 + (k : Int) := by omega
      have h0 : 0 ≤ (l0.length : Int) + (k : Int) := by omega
      have hltc : (l0.length : Int) + (k : Int) < (c : Int) := by have := HCI.out; omega
      have e1 : IntKind.i64.wrap ((l0.length : Int) + (k : Int)) = (l0.length : Int) + (k : Int) := IntWalk.i64_in _ (by omega)
      go_wp2
      go_round
      case rel => exact ⟨k + 1, by omega, by go_num⟩
      case measure => simp [Go.RowKit.intOf]; omega
    · go_wp2
      go_ret
      exact ⟨rfl, by repeat (first | exact Drawn0.refl _ | apply Drawn0.step)⟩

/-! ### postbagnum_SameInts: function 106 -/
def postbagnum_SameInts.l0 : Nat → List Int → List Int → Int → Int → Option (Bool)
  | 0, _, _, _, _ => none
  | k + 1, x0, x1, x12, x13 => if x13 < x12 then (if 0 ≤ x13 then (if x13 < (x0.length : Int) then (if x13 < (x1.length : Int) then (if (rd x0 x13) = (rd x1 x13) then (postbagnum_SameInts.l0 k x0 x1 x12 (wrap64 (x13 + 1))) else (some false)) else (none)) else (none)) else (none)) else (some true)
def postbagnum_SameInts.f (k : Nat) (l0 : List Int) (l1 : List Int) : Option (Bool) := if (l0.length : Int) = (l1.length : Int) then (postbagnum_SameInts.l0 k l0 l1 (l0.length : Int) 0) else (some false)
theorem postbagnum_SameInts.mono_l : ∀ k, (∀ y0 y1 y2 y3, LeO (postbagnum_SameInts.l0 k y0 y1 y2 y3) (postbagnum_SameInts.l0 (k + 1) y0 y1 y2 y3))
  | 0 => fun _ _ _ _ r h => by simp [postbagnum_SameInts.l0] at h
  | k + 1 => by
    have ih0 := postbagnum_SameInts.mono_l k
    · intro y0 y1 y2 y3
      unfold postbagnum_SameInts.l0
      repeat' first
      | (with_reducible exact ih0 _ _ _ _)
      | (with_reducible exact LeO.refl _)
      | (with_reducible exact LeO.none _)
      | (with_reducible refine LeO.ite ?_ ?_)
      | (with_reducible refine LeO.bind ?_ (fun _ => ?_))
      | exact ih0 _ _ _ _
      | exact LeO.none _
      | refine LeO.ite ?_ ?_
      | refine LeO.bind ?_ (fun _ => ?_)
theorem postbagnum_SameInts.mono : ∀ a0 a1 k, LeO (postbagnum_SameInts.f k a0 a1) (postbagnum_SameInts.f (k + 1) a0 a1) := by
  intro a0 a1 k
  have ih0 := postbagnum_SameInts.mono_l k
  unfold postbagnum_SameInts.f
  repeat' first
      | (with_reducible exact ih0 _ _ _ _)
      | (with_reducible exact LeO.refl _)
      | (with_reducible exact LeO.none _)
      | (with_reducible refine LeO.ite ?_ ?_)
      | (with_reducible refine LeO.bind ?_ (fun _ => ?_))
      | exact ih0 _ _ _ _
      | exact LeO.none _
      | refine LeO.ite ?_ ?_
      | refine LeO.bind ?_ (fun _ => ?_)
set_option maxHeartbeats 8000000 in
set_option maxRecDepth 100000 in
theorem postbagnum_SameInts.calls (k : Nat) (A0 : Option Addr) (c0 : Nat) (l0 : List Int) (A1 : Option Addr) (c1 : Nat) (l1 : List Int) (r : Bool) (w : World) (hr0 : Kd.C (Kd.int .i64) w A0 l0.length l0) (hc0 : l0.length ≤ c0) (hr1 : Kd.C (Kd.int .i64) w A1 l1.length l1) (hc1 : l1.length ≤ c1) (h : postbagnum_SameInts.f k l0 l1 = some r) :
    Calls Tryz.prog 106 #[.slice A0 l0.length c0, .slice A1 l1.length c1] w fun e w' => e = .returned (.bool r) ∧ Drawn0 w w' := by
  have HR0 := Aside0.mk hr0
  have HC0 := Aside0.mk hc0
  clear hr0 hc0
  have HR1 := Aside0.mk hr1
  have HC1 := Aside0.mk hc1
  clear hr1 hc1
  have H : (if (l0.length : Int) = (l1.length : Int) then (postbagnum_SameInts.l0 k l0 l1 (l0.length : Int) 0) else (some false)) = some r := h
  clear h
  by_cases c3 : (l0.length : Int) = (l1.length : Int)
  · rw [if_pos c3] at H
    have c3b0 : ((l0.length : Int) == (l1.length : Int)) = true := beq_iff_eq.mpr c3
    have c3b1 : ((l0.length : Int) != (l1.length : Int)) = false := bne_eq_false_iff_eq.mpr c3
    have c3b2 : (l0.length == l1.length) = true := by first | simpa using c3 | (simp at c3 ⊢; omega)
    clear c3
    have H' := Aside0.mk H
    clear H
    go_enter Tryz.func106, Tryz.ntmps106
    go_wp2
    repeat (go_quiet (fail); try go_wp2)
    go_loopg [13] k (fun kq v13 w' => ∃ (x13_1 : Int), v13 = .int .i64 x13_1 ∧ Aside0 (postbagnum_SameInts.l0 kq l0 l1 (l0.length : Int) x13_1 = some r) ∧ Aside0 (kq ≤ k) ∧ Drawn0 w w')
    case atStart => exact ⟨(0), (by first | rfl | (simp; done) | (simp [*]; done)), H', ⟨Nat.le_refl _⟩, by repeat (first | exact Drawn0.refl _ | apply Drawn0.step)⟩
    case round =>
      clear H'
      try clear c1
      try clear p2
      try clear c3
      try clear c3b0
      try clear c3b1
      try clear c3b2
      obtain ⟨x13_1, rfl, HA, HK1, ⟨m1, rfl⟩⟩ := hrel
      cases gk with
      | zero => exact absurd HA.out (by simp [postbagnum_SameInts.l0])
      | succ k1 =>
        have H := HA.out
        clear HA
        simp only [postbagnum_SameInts.l0] at H
        by_cases c4 : x13_1 < (l0.length : Int)
        · rw [if_pos c4] at H
          have c4b0 : decide (x13_1 < (l0.length : Int)) = true := decide_eq_true c4
          clear c4
          by_cases c5 : 0 ≤ x13_1
          · rw [if_pos c5] at H
            have c5b0 : decide (0 ≤ x13_1) = true := decide_eq_true c5
            clear c5
            by_cases c6 : x13_1 < (l0.length : Int)
            · rw [if_pos c6] at H
              have c6b0 : decide (x13_1 < (l0.length : Int)) = true := decide_eq_true c6
              clear c6
              by_cases c7 : x13_1 < (l1.length : Int)
              · rw [if_pos c7] at H
                have c7b0 : decide (x13_1 < (l1.length : Int)) = true := decide_eq_true c7
                clear c7
                by_cases c8 : (rd l0 x13_1) = (rd l1 x13_1)
                · rw [if_pos c8] at H
                  have c8b0 : ((rd l0 x13_1) == (rd l1 x13_1)) = true := beq_iff_eq.mpr c8
                  have c8b1 : ((rd l0 x13_1) != (rd l1 x13_1)) = false := bne_eq_false_iff_eq.mpr c8
                  clear c8
                  have H' := Aside0.mk H
                  clear H
                  have p101 : 0 ≤ (x13_1 : Int) := of_decide_eq_true (by first | (with_reducible assumption) | assumption)
                  have q101 : x13_1 < (l0.length : Int) := of_decide_eq_true (by first | (with_reducible assumption) | assumption)
                  obtain ⟨ad101, e101, hx101_0⟩ := Kd.at_int HR0.out x13_1 p101 q101
                  cases e101
                  replace p101 := eq_true p101
                  replace q101 := eq_true q101
                  have p102 : 0 ≤ (x13_1 : Int) := of_decide_eq_true (by first | (with_reducible assumption) | assumption)
                  have q102 : x13_1 < (l1.length : Int) := of_decide_eq_true (by first | (with_reducible assumption) | assumption)
                  obtain ⟨ad102, e102, hx102_0⟩ := Kd.at_int HR1.out x13_1 p102 q102
                  cases e102
                  replace p102 := eq_true p102
                  replace q102 := eq_true q102
                  go_wp2
                  repeat (go_quiet (fail); try go_wp2)
                  go_roundg k1
                  case measure => have := HK1.out; omega
                  case rel => exact ⟨(wrap64 (x13_1 + 1)), (by first | rfl | (simp; done) | (simp [*]; done)), H', ⟨by have := HK1.out; omega⟩, by repeat (first | exact Drawn0.refl _ | apply Drawn0.step)⟩
                · rw [if_neg c8] at H
                  have c8b0 : ((rd l0 x13_1) == (rd l1 x13_1)) = false := beq_eq_false_iff_ne.mpr c8
                  have c8b1 : ((rd l0 x13_1) != (rd l1 x13_1)) = true := bne_iff_ne.mpr c8
                  obtain rfl := Option.some.inj H
                  have p101 : 0 ≤ (x13_1 : Int) := of_decide_eq_true (by first | (with_reducible assumption) | assumption)
                  have q101 : x13_1 < (l0.length : Int) := of_decide_eq_true (by first | (with_reducible assumption) | assumption)
                  obtain ⟨ad101, e101, hx101_0⟩ := Kd.at_int HR0.out x13_1 p101 q101
                  cases e101
                  replace p101 := eq_true p101
                  replace q101 := eq_true q101
                  have p102 : 0 ≤ (x13_1 : Int) := of_decide_eq_true (by first | (with_reducible assumption) | assumption)
                  have q102 : x13_1 < (l1.length : Int) := of_decide_eq_true (by first | (with_reducible assumption) | assumption)
                  obtain ⟨ad102, e102, hx102_0⟩ := Kd.at_int HR1.out x13_1 p102 q102
                  cases e102
                  replace p102 := eq_true p102
                  replace q102 := eq_true q102
                  go_wp2
                  repeat (go_quiet (fail); try go_wp2)
                  go_ret
                  exact ⟨by first | rfl | (simp; done) | (simp [*]; done) | (simp [Go.Proofs.YtpcfnkmljchiiaaGreatDoorW.SRows.bne_nil_]; done), by repeat (first | exact Drawn0.refl _ | apply Drawn0.step)⟩
              · rw [if_neg c7] at H
                exact absurd H (by simp)
            · rw [if_neg c6] at H
              exact absurd H (by simp)
          · rw [if_neg c5] at H
            exact absurd H (by simp)
        · rw [if_neg c4] at H
          have c4b0 : decide (x13_1 < (l0.length : Int)) = false := decide_eq_false c4
          clear c4
          obtain rfl := Option.some.inj H
          go_wp2
          repeat (go_quiet (fail); try go_wp2)
          go_ret
          exact ⟨by first | rfl | (simp; done) | (simp [*]; done) | (simp [Go.Proofs.YtpcfnkmljchiiaaGreatDoorW.SRows.bne_nil_]; done), by repeat (first | exact Drawn0.refl _ | apply Drawn0.step)⟩
  · rw [if_neg c3] at H
    have c3b0 : ((l0.length : Int) == (l1.length : Int)) = false := beq_eq_false_iff_ne.mpr c3
    have c3b1 : ((l0.length : Int) != (l1.length : Int)) = true := bne_iff_ne.mpr c3
    have c3b2 : (l0.length == l1.length) = false := by first | simpa using c3 | (simp at c3 ⊢; omega)
    obtain rfl := Option.some.inj H
    go_enter Tryz.func106, Tryz.ntmps106
    go_wp2
    repeat (go_quiet (fail); try go_wp2)
    go_ret
    exact ⟨by first | rfl | (simp; done) | (simp [*]; done) | (simp [Go.Proofs.YtpcfnkmljchiiaaGreatDoorW.SRows.bne_nil_]; done), by repeat (first | exact Drawn0.refl _ | apply Drawn0.step)⟩

/-- THE ONE PURE STATEMENT of postbagnum_SameInts: yours. -/
def postbagnum_SameInts.Pure : Prop := ∀ (l0 : List Int) (l1 : List Int), l0.length ≤ maxLen → l0.length * 8 ≤ 140737488351232 → (∀ x ∈ l0, (Lit.int .i64 x).wf = true) → l1.length ≤ maxLen → l1.length * 8 ≤ 140737488351232 → (∀ x ∈ l1, (Lit.int .i64 x).wf = true) → ∃ k, postbagnum_SameInts.f k l0 l1 = some true
theorem postbagnum_SameInts.walk (P : postbagnum_SameInts.Pure) (a0 : Option Addr) (len0 cap0 : Nat) (z0 : List Int) (a1 : Option Addr) (len1 cap1 : Nat) (z1 : List Int) (w : World) (w0 : (a0 = none ∧ len0 = 0 ∧ cap0 = 0 ∧ z0 = []) ∨ ∃ x, a0 = some x ∧ len0 ≤ cap0 ∧ cap0 ≤ maxLen ∧ z0.length = cap0 ∧ (∀ i, i < z0.length → w.cell? (x.add i) = some (.int .i64 (z0.getD i 0))) ∧ ∀ n ∈ z0, (Lit.int .i64 n).wf = true) (y0 : len0 * 8 ≤ 140737488351232) (w1 : (a1 = none ∧ len1 = 0 ∧ cap1 = 0 ∧ z1 = []) ∨ ∃ x, a1 = some x ∧ len1 ≤ cap1 ∧ cap1 ≤ maxLen ∧ z1.length = cap1 ∧ (∀ i, i < z1.length → w.cell? (x.add i) = some (.int .i64 (z1.getD i 0))) ∧ ∀ n ∈ z1, (Lit.int .i64 n).wf = true) (y1 : len1 * 8 ≤ 140737488351232) :
    Calls Tryz.prog 106 #[.slice a0 len0 cap0, .slice a1 len1 cap1] w fun e w' => e = .returned (.bool true) ∧ Below w.heap.size w w' := by
  obtain ⟨l0, rfl, hr0, hm0, hw0, hc0⟩ := ReadsInt.ofRowC w0
  obtain ⟨l1, rfl, hr1, hm1, hw1, hc1⟩ := ReadsInt.ofRowC w1
  obtain ⟨k, h⟩ := P l0 l1 hm0 y0 hw0 hm1 y1 hw1
  refine (postbagnum_SameInts.calls k _ _ l0 _ _ l1 true w (Kd.C_of_reads (d := (0 : Int)) (h1 := fun _ => rfl) hr0) hc0 (Kd.C_of_reads (d := (0 : Int)) (h1 := fun _ => rfl) hr1) hc1 h).mono ?_
  rintro e w' ⟨rfl, hd⟩
  exact ⟨rfl, hd.below⟩

/-! ### postbagnum_SameBytes: function 23 -/
def postbagnum_SameBytes.f (l0 : List Int) (l1 : List Int) : Option (Bool) := some ((strOfNums l0).toList == (strOfNums l1).toList)
set_option maxHeartbeats 8000000 in
set_option maxRecDepth 100000 in
theorem postbagnum_SameBytes.calls (A0 : Option Addr) (c0 : Nat) (l0 : List Int) (A1 : Option Addr) (c1 : Nat) (l1 : List Int) (r : Bool) (w : World) (hr0 : Kd.C (Kd.int .u8) w A0 l0.length l0) (hc0 : l0.length ≤ c0) (hr1 : Kd.C (Kd.int .u8) w A1 l1.length l1) (hc1 : l1.length ≤ c1) (h : postbagnum_SameBytes.f l0 l1 = some r) :
    Calls Tryz.prog 23 #[.slice A0 l0.length c0, .slice A1 l1.length c1] w fun e w' => e = .returned (.bool r) ∧ Drawn0 w w' := by
  have HR0 := Aside0.mk hr0
  have HC0 := Aside0.mk hc0
  clear hr0 hc0
  have HR1 := Aside0.mk hr1
  have HC1 := Aside0.mk hc1
  clear hr1 hc1
  have H : (some ((strOfNums l0).toList == (strOfNums l1).toList)) = some r := h
  clear h
  obtain rfl := Option.some.inj H
  have hcv3 := Kd.C_string (P := Tryz.prog) (A := A0) (c := c0) Tryz.underlying32 Tryz.underlying5 Tryz.underlying9 HR0.out
  have hcv4 := Kd.C_string (P := Tryz.prog) (A := A1) (c := c1) Tryz.underlying32 Tryz.underlying5 Tryz.underlying9 HR1.out
  go_enter Tryz.func23, Tryz.ntmps23
  go_wp2
  go_ret
  exact ⟨by first | rfl | (simp; done) | (simp [*]; done) | (simp [Go.Proofs.YtpcfnkmljchiiaaGreatDoorW.SRows.bne_nil_]; done), by repeat (first | exact Drawn0.refl _ | apply Drawn0.step)⟩

/-- THE ONE PURE STATEMENT of postbagnum_SameBytes: yours. -/
def postbagnum_SameBytes.Pure : Prop := ∀ (l0 : List Int) (l1 : List Int), l0.length ≤ maxLen → l0.length * 1 ≤ 140737488351232 → (∀ x ∈ l0, (Lit.int .u8 x).wf = true) → l1.length ≤ maxLen → l1.length * 1 ≤ 140737488351232 → (∀ x ∈ l1, (Lit.int .u8 x).wf = true) → postbagnum_SameBytes.f l0 l1 = some true
theorem postbagnum_SameBytes.walk (P : postbagnum_SameBytes.Pure) (a0 : Option Addr) (len0 cap0 : Nat) (z0 : List Int) (a1 : Option Addr) (len1 cap1 : Nat) (z1 : List Int) (w : World) (w0 : (a0 = none ∧ len0 = 0 ∧ cap0 = 0 ∧ z0 = []) ∨ ∃ x, a0 = some x ∧ len0 ≤ cap0 ∧ cap0 ≤ maxLen ∧ z0.length = cap0 ∧ (∀ i, i < z0.length → w.cell? (x.add i) = some (.int .u8 (z0.getD i 0))) ∧ ∀ n ∈ z0, (Lit.int .u8 n).wf = true) (y0 : len0 * 1 ≤ 140737488351232) (w1 : (a1 = none ∧ len1 = 0 ∧ cap1 = 0 ∧ z1 = []) ∨ ∃ x, a1 = some x ∧ len1 ≤ cap1 ∧ cap1 ≤ maxLen ∧ z1.length = cap1 ∧ (∀ i, i < z1.length → w.cell? (x.add i) = some (.int .u8 (z1.getD i 0))) ∧ ∀ n ∈ z1, (Lit.int .u8 n).wf = true) (y1 : len1 * 1 ≤ 140737488351232) :
    Calls Tryz.prog 23 #[.slice a0 len0 cap0, .slice a1 len1 cap1] w fun e w' => e = .returned (.bool true) ∧ Below w.heap.size w w' := by
  obtain ⟨l0, rfl, hr0, hm0, hw0, hc0⟩ := ReadsInt.ofRowC w0
  obtain ⟨l1, rfl, hr1, hm1, hw1, hc1⟩ := ReadsInt.ofRowC w1
  have h := P l0 l1 hm0 y0 hw0 hm1 y1 hw1
  refine (postbagnum_SameBytes.calls _ _ l0 _ _ l1 true w (Kd.C_of_reads (d := (0 : Int)) (h1 := fun _ => rfl) hr0) hc0 (Kd.C_of_reads (d := (0 : Int)) (h1 := fun _ => rfl) hr1) hc1 h).mono ?_
  rintro e w' ⟨rfl, hd⟩
  exact ⟨rfl, hd.below⟩

/-! ### postbaglaw05_light: function 8 -/
end Go.Proofs.YtpcfnkmljchiiaaGreatDoor.GPl
