/- Steps towards RDiskAll: DRin. -/
import Derived.Test.YtpcfnkmljchiiaaGreatDoorZ02
import Derived.Test.YtpcfnkmljchiiaaGreatDoorZ38
set_option linter.unusedVariables false
set_option linter.unusedSimpArgs false
/- A copy of whole numbers with marked room behind; whether list and room stand. -/
namespace Go.Proofs.YtpcfnkmljchiiaaGreatDoor.DRin
open Go Go.RowKit Go.Proofs.YtpcfnkmljchiiaaGreatDoorW.PrintWords Go.Proofs.YtpcfnkmljchiiaaGreatDoorW.PrintLast Go.Proofs.YtpcfnkmljchiiaaGreatDoorW.PrintMore GPl
theorem infoI4 : (Tryz.prog.info? 3).map (fun i => (i.zero, i.size, i.bytes)) = some (some (.int .i64 0), 1, 8) := by kernel_rfl
/-- A list is the same as itself. -/
theorem same_l (l : List Int) (hl : l.length ≤ 1000000000) : ∀ (m j : Nat), j + m = l.length → postbagnum_SameInts.l0 (m + 1) l l (l.length : Int) (j : Int) = some true
  | 0, j, h => by
    rw [postbagnum_SameInts.l0, if_neg (by omega)]
  | m + 1, j, h => by
    rw [postbagnum_SameInts.l0]
    have e : wrap64 ((j : Int) + 1) = ((j + 1 : Nat) : Int) := by unfold wrap64; omega
    have := same_l l hl m (j + 1) (by omega)
    simp only [if_pos (show (j : Int) < (l.length : Int) by omega), if_pos (show (0 : Int) ≤ (j : Int) by omega), e, if_true]
    exact this
theorem same_f (l : List Int) (hl : l.length ≤ 1000000000) : postbagnum_SameInts.f (l.length + 1) l l = some true := by
  unfold postbagnum_SameInts.f
  rw [if_pos rfl]
  exact same_l l hl l.length 0 (by omega)
def four4 : List Int := [-91, -92, -93, -94]
set_option maxHeartbeats 8000000 in
set_option maxRecDepth 100000 in
/-- A copy with marked room behind. -/
theorem ints.calls (A0 : Option Addr) (c0 : Nat) (l0 : List Int) (w : World) (hr0 : Kd.C (Kd.int .i64) w A0 l0.length l0) (hc0 : l0.length ≤ c0) (hn : l0.length ≤ 1000000) :
    Calls Tryz.prog 49 #[.slice A0 l0.length c0] w fun e w' => ∃ (a : Addr) (c : Nat), e = .returned (.slice (some a) l0.length c) ∧ l0.length + 4 ≤ c ∧
      Kd.R (Kd.int .i64) 3 w' w.heap.size (fun _ => True) (.slice (some a) (l0.length + 4) c) (l0 ++ four4) ∧ Below w.heap.size w w' := by
  have HB := Aside0.mk (Below.refl w.heap.size w)
  have HR0 := Aside0.mk hr0
  have HC0 := Aside0.mk hc0
  have LM := Aside0.mk hn
  have hle : (l0.length : Int) ≤ 1000000 := by omega
  clear hr0 hc0 hn
  obtain ⟨i7, hi7, hz7, hs7, hb7⟩ := info_parts infoI4
  have HI := Aside0.mk (And.intro hi7 (And.intro hz7 (And.intro hs7 hb7)))
  clear hi7 hz7 hs7 hb7
  go_enter Tryz.func49, Tryz.ntmps49
  go_wp2_with (first
    | ((with_reducible refine gate_dst (N := 7) rfl ?_); refine wpList_make_own _ rfl (.const (.int .i64 0)) (.tmp 6) 33 rfl w.heap.size 3 i7 (.int .i64 0) 1 Tryz.underlying33 HI.out.1 HI.out.2.1 HI.out.2.2.1 .i64 .i64 ((l0.length : Int) + 4) (l0.length + 4) rfl rfl (by omega) ?m1 ?m2 (Nat.le_refl _) ?_; (case m1 => have h1 := LM.out; have h2 := HI.out.2.2.2; rw [h2]; omega); (case m2 => have h1 := LM.out; unfold maxLen; omega); intro w7 how hgr; have HO := Aside0.mk (show Kd.R (Kd.int .i64) 3 w7 w.heap.size (fun _ => True) (.slice (some ⟨w.heap.size, 0, none⟩) 0 (l0.length + 4)) [] from ⟨fun _ _ => trivial, [], how, Reps.none _ _⟩); have n0_ := Aside0.mk (Below.grown (Below.refl w.heap.size w) hgr (Nat.le_refl _) (by simp)); clear HB; have HB := n0_; clear n0_ how hgr)
    | ((with_reducible refine gate_builtin (b := .append) (xs := #[.tmp 7, .tmp 8]) rfl ?_); at_builtin; refine Kd.R_append_rows (Kd.int .i64) (w0 := w) w.heap.size rfl (.tmp 7) (.tmp 8) 33 3 (.int .i64 0) 8 rfl Tryz.underlying33 infoI4 rfl (by decide) (by omega) (.slice (some ⟨w.heap.size, 0, none⟩) 0 (l0.length + 4)) [] l0 _ _ _ (fun _ => True) (fun _ => False) rfl rfl HO.out ?aR (fun _ _ h => h) (fun _ h => h.elim) (fun _ _ => trivial) HB.out (below_size HB.out) ?aL ?_; (case aR => exact Kd.C_below HR0.out HB.out); (case aL => have := LM.out; simp only [List.length_nil]; omega); intro v1 w8 ho hb hg hat; clear HO; have HO := Aside0.mk ho; have n0_ := Aside0.mk hb; clear HB; have HB := n0_; clear n0_ ho hb hg hat)
    | ((with_reducible refine gate_dst (N := 10) rfl ?_); refine Kd.R_lit (Kd.int .i64) (w0 := w) w.heap.size 3 ?hg (N := 10) ?hd (xs := four4) (inner := [.int .i64 (-91), .int .i64 (-92), .int .i64 (-93), .int .i64 (-94)]) (ok := fun _ => True) (okp := fun _ => True) ?hr ?hp (fun _ hk => hk) trivial HB.out (below_size HB.out) (by decide) ?_; (case hd => rfl); (case hg => rfl); (case hr => first | (go_simp; done) | (go_simp; rfl)); (case hp => exact (Reps.one (show Kd.M (Kd.int .i64) _ _ _ (-91) [.int .i64 (-91)] from rfl) (Reps.one (show Kd.M (Kd.int .i64) _ _ _ (-92) [.int .i64 (-92)] from rfl) (Reps.one (show Kd.M (Kd.int .i64) _ _ _ (-93) [.int .i64 (-93)] from rfl) (Reps.one (show Kd.M (Kd.int .i64) _ _ _ (-94) [.int .i64 (-94)] from rfl) (Reps.none _ _)))))); intro v2 w9 ho hb hg hat; have n0_ := Aside0.mk (Kd.R_grown HO.out hg (by simp)); clear HO; have HO := n0_; clear n0_; have HL := Aside0.mk ho; have n0_ := Aside0.mk hb; clear HB; have HB := n0_; clear n0_ ho hb hg hat; obtain ⟨A2, c2, e2⟩ := Kd.R_slice HL.out; subst e2)
    | ((with_reducible refine gate_builtin (b := .append) (xs := #[.tmp 9, .tmp 10]) rfl ?_); at_builtin; refine Kd.R_append_rows (Kd.int .i64) (w0 := w) w.heap.size rfl (.tmp 9) (.tmp 10) 33 3 (.int .i64 0) 8 rfl Tryz.underlying33 infoI4 rfl (by decide) (by omega) v1 ([] ++ l0) four4 _ _ _ (fun _ => True) (fun _ => False) rfl rfl HO.out ?aR (fun _ _ h => h) (fun _ h => h.elim) (fun _ _ => trivial) HB.out (below_size HB.out) ?aL ?_; (case aR => exact (Kd.R_reads' HL.out).2.2); (case aL => have := LM.out; simp only [List.nil_append, four4, List.length_cons, List.length_nil]; omega); intro v3 w10 ho hb hg hat; clear HO HL; have HO := Aside0.mk ho; have n0_ := Aside0.mk hb; clear HB; have HB := n0_; clear n0_ ho hb hg hat; obtain ⟨inner3, ow3⟩ := Kd.R_own HO.out; obtain ⟨g3, c3, e3, _, _⟩ := World.ownsRow.form ow3 (by simp only [List.nil_append, List.length_append, four4, List.length_cons, List.length_nil]; omega); clear ow3; subst e3; have HC3 := Aside0.mk (Kd.R_reads' HO.out).2.1; obtain ⟨L3, hL3⟩ : ∃ x, x = ([] ++ l0 ++ four4).length := ⟨_, rfl⟩; rw [← hL3] at HO HC3 ⊢; have HL3 := Aside0.mk hL3; clear hL3; have hcut := print_top_raw (P := Tryz.prog) 33 3 Tryz.underlying33 ⟨i7, HI.out.1⟩ ⟨g3, 0, none⟩ L3 c3 l0.length (by have h1 := HL3.out; have h2 := HC3.out; simp only [List.nil_append, List.length_append, four4, List.length_cons, List.length_nil] at h1; omega)))
  go_ret
  have hL := HL3.out
  simp only [List.nil_append, List.length_append, four4, List.length_cons, List.length_nil] at hL
  have hO := HO.out
  rw [List.nil_append] at hO
  refine ⟨_, _, rfl, by have := HC3.out; omega, ?_, HB.out⟩
  have e : L3 = l0.length + 4 := by omega
  rw [← e]
  exact hO

theorem kept_cell4 {w : World} {a : Addr} {l0 : List Int} (hR : Kd.C (Kd.int .i64) w (some a) (l0.length + 4) (l0 ++ four4)) (k : Nat) (hk : k < 4) :
    w.cell? (a.add (l0.length + k)) = some (.int .i64 (-91 - (k : Int))) := by
  obtain ⟨ad, e, h⟩ := hR.2.2 (by omega)
  obtain rfl : a = ad := Option.some.inj e
  have hg : (l0 ++ four4)[l0.length + k]? = some (-91 - (k : Int)) := by
    rw [List.getElem?_append_right (by omega), Nat.add_sub_cancel_left]
    match k, hk with
    | 0, _ => rfl
    | 1, _ => rfl
    | 2, _ => rfl
    | 3, _ => rfl
  obtain ⟨c, hc, hr, hcell⟩ := h _ _ hg
  have hr' : c = [.int .i64 (-91 - (k : Int))] := hr
  subst hr'
  have := hcell 0 _ rfl
  simpa [Kd.int, Kd.scalar] using this
theorem kept_head4 {w : World} {a : Addr} {l0 : List Int} (hR : Kd.C (Kd.int .i64) w (some a) (l0.length + 4) (l0 ++ four4)) : Kd.C (Kd.int .i64) w (some a) l0.length l0 := by
  have h := (Kd.reads_of_C (d := (0 : Int)) (h1 := fun _ => rfl) hR).take_ l0.length (by omega)
  rw [List.take_left' rfl] at h
  exact Kd.C_of_reads (d := (0 : Int)) (h1 := fun _ => rfl) h
set_option maxHeartbeats 8000000 in
set_option maxRecDepth 100000 in
theorem keptInts.calls (a : Addr) (c : Nat) (A1 : Option Addr) (c1 : Nat) (l0 : List Int) (w : World) (hR : Kd.C (Kd.int .i64) w (some a) (l0.length + 4) (l0 ++ four4)) (hc : l0.length + 4 ≤ c)
    (hr1 : Kd.C (Kd.int .i64) w A1 l0.length l0) (hc1 : l0.length ≤ c1) (hn : l0.length ≤ 1000000) :
    Calls Tryz.prog 51 #[.slice (some a) l0.length c, .slice A1 l0.length c1] w fun e w' => e = .returned (.bool true) ∧ Below w.heap.size w w' := by
  have HR := Aside0.mk hR
  have HS := Aside0.mk (postbagnum_SameInts.calls (l0.length + 1) (some a) c l0 A1 c1 l0 true w (kept_head4 hR) (by omega) hr1 hc1 (same_f l0 (by omega)))
  have HCI := Aside0.mk hc
  have hcut1 := fun W => print_top_raw (P := Tryz.prog) 33 3 Tryz.underlying33 (let ⟨i, hi, _⟩ := info_parts infoI4; ⟨i, hi⟩) a l0.length c c (Nat.le_refl _) W
  have hcut2 := fun W => print_top_raw (P := Tryz.prog) 33 3 Tryz.underlying33 (let ⟨i, hi, _⟩ := info_parts infoI4; ⟨i, hi⟩) a c c l0.length (by omega) W
  have hle : (l0.length : Int) ≤ 1000000 := by omega
  have e6 : IntKind.i64.wrap ((l0.length : Int) + 4) = (l0.length : Int) + 4 := IntWalk.i64_in _ (by omega)
  have ht : decide ((c : Int) < (l0.length : Int) + 4) = false := decide_eq_false (by omega)
  clear hR hr1 hc1 hn hc
  go_enter Tryz.func51, Tryz.ntmps51
  go_wp2_with (go_at_call 106; refine HS.out.mono ?_; rintro e w1 ⟨rfl, hd1⟩; have HB1 := Aside0.mk hd1.below; clear hd1)
  go_loopw [6] (fun i wr => ∃ k : Nat, k ≤ 4 ∧ i = .int .i64 k ∧ wr = w1) (fun i _ => 4 - (Go.RowKit.intOf i).toNat)
  case atStart => exact ⟨0, by omega, rfl, rfl⟩
  case round =>
    obtain ⟨k, hk, rfl, rfl⟩ := hrel
    by_cases hlt : k < 4
    · have t1 : decide (k < 4) = true := decide_eq_true hlt
      have hcell := kept_cell4 (Kd.C_below HR.out HB1.out) k hlt
      have e2 : ((l0.length : Int) + (k : Int)).toNat = l0.length + k := by omega
      have h0 : 0 ≤ (l0.length : Int) + (k : Int) := by omega
      have hltc : (l0.length : Int) + (k : Int) < (c : Int) := by have := HCI.out; omega
      have e1 : IntKind.i64.wrap ((l0.length : Int) + (k : Int)) = (l0.length : Int) + (k : Int) := IntWalk.i64_in _ (by omega)
      have e3 : wrap64 (-91 - (k : Int)) = -91 - (k : Int) := by unfold wrap64; omega
      go_wp2
      go_roundw
      case rel => exact ⟨k + 1, by omega, by go_num, trivial⟩
      case measure => simp [Go.RowKit.intOf]; omega
    · have t1 : decide (k < 4) = false := decide_eq_false hlt
      go_wp2
      go_ret
      exact ⟨rfl, HB1.out⟩

end Go.Proofs.YtpcfnkmljchiiaaGreatDoor.DRin
