/- Written by a program of mine (wip/tools/mkprint.py turns the kit's print; given contracts by hand). Lean checks it. -/
import Derived.Test.YthlofokgbogndaaGCheckx0
import Derived.Test.YthlofokgbogndaaGCheckx3
namespace Go.Proofs.Ythlofokgbogndaa.GCheck
open Go.RowKit Go.Proofs.YthlofokgbogndaaW.PrintWords Go.Proofs.YthlofokgbogndaaW.PrintLast Go.Proofs.YthlofokgbogndaaW.PrintMore
attribute [local go_sem] max2_int min2_int max_two min_two max_three min_three max_four min_four   -- for this text's walks alone
set_option linter.unusedVariables false
set_option linter.unusedSimpArgs false

/-! ### postbagnum_Kept: function 15 -/
theorem kept_cell {w : World} {a : Addr} {l0 : List Int} (hR : Kd.C (Kd.int .u8) w (some a) (l0.length + 6) (l0 ++ six)) (k : Nat) (hk : k < 6) :
    w.cell? (a.add (l0.length + k)) = some (.int .u8 (201 + (k : Int))) := by
  obtain ⟨ad, e, h⟩ := hR.2.2 (by omega)
  obtain rfl : a = ad := Option.some.inj e
  have hg : (l0 ++ six)[l0.length + k]? = some (201 + (k : Int)) := by
    rw [List.getElem?_append_right (by omega), Nat.add_sub_cancel_left]
    match k, hk with
    | 0, _ => rfl
    | 1, _ => rfl
    | 2, _ => rfl
    | 3, _ => rfl
    | 4, _ => rfl
    | 5, _ => rfl
  obtain ⟨c, hc, hr, hcell⟩ := h _ _ hg
  have hr' : c = [.int .u8 (201 + (k : Int))] := hr
  subst hr'
  have := hcell 0 _ rfl
  simpa [Kd.int, Kd.scalar] using this
theorem kept_head {w : World} {a : Addr} {l0 : List Int} (hR : Kd.C (Kd.int .u8) w (some a) (l0.length + 6) (l0 ++ six)) : Kd.C (Kd.int .u8) w (some a) l0.length l0 := by
  have h := (Kd.reads_of_C (d := (0 : Int)) (h1 := fun _ => rfl) hR).take_ l0.length (by omega)
  rw [List.take_left' rfl] at h
  exact Kd.C_of_reads (d := (0 : Int)) (h1 := fun _ => rfl) h
set_option maxHeartbeats 8000000 in
set_option maxRecDepth 100000 in
/-- What the marked copy holds, and its room, stand as they stood. -/
theorem postbagnum_Kept.calls (a : Addr) (c : Nat) (A1 : Option Addr) (c1 : Nat) (l0 : List Int) (w : World) (hR : Kd.C (Kd.int .u8) w (some a) (l0.length + 6) (l0 ++ six)) (hc : l0.length + 6 ≤ c)
    (hr1 : Kd.C (Kd.int .u8) w A1 l0.length l0) (hc1 : l0.length ≤ c1) (hn : l0.length ≤ 1000000) :
    Calls Try.prog 15 #[.slice (some a) l0.length c, .slice A1 l0.length c1] w fun e w' => e = .returned (.bool true) ∧ Drawn0 w w' := by
  have HR := Aside0.mk hR
  have HH := Aside0.mk (kept_head hR)
  have HR1 := Aside0.mk hr1
  have HC1 := Aside0.mk hc1
  have LM := Aside0.mk hn
  have HCI := Aside0.mk hc
  have hcut1 := fun W => print_top_raw (P := Try.prog) 23 5 Try.underlying23 (let ⟨i, hi, _⟩ := info_parts info5; ⟨i, hi⟩) a l0.length c c (Nat.le_refl _) W
  have hcut2 := fun W => print_top_raw (P := Try.prog) 23 5 Try.underlying23 (let ⟨i, hi, _⟩ := info_parts info5; ⟨i, hi⟩) a c c l0.length (by omega) W
  have hle : (l0.length : Int) ≤ 1000000 := by omega
  have e6 : IntKind.i64.wrap ((l0.length : Int) + 6) = (l0.length : Int) + 6 := IntWalk.i64_in _ (by omega)
  have ht : decide ((c : Int) < (l0.length : Int) + 6) = false := decide_eq_false (by omega)
  have hcv1 := fun n => Kd.C_string (P := Try.prog) (w := w.drewN n) (A := some a) (c := c) Try.underlying23 Try.underlying5 Try.underlying9 (Kd.C_drewN HH.out n)
  have hcv2 := fun n => Kd.C_string (P := Try.prog) (w := w.drewN n) (A := A1) (c := c1) Try.underlying23 Try.underlying5 Try.underlying9 (Kd.C_drewN HR1.out n)
  have hcv3 := Kd.C_string (P := Try.prog) (A := some a) (c := c) Try.underlying23 Try.underlying5 Try.underlying9 HH.out
  have hcv4 := Kd.C_string (P := Try.prog) (A := A1) (c := c1) Try.underlying23 Try.underlying5 Try.underlying9 HR1.out
  clear hR hr1 hc1 hn hc
  go_enter Try.func15, Try.ntmps15
  go_wp2
  go_quiet (fail)
  go_wp2
  go_loop [6] (fun i => ∃ k : Nat, k ≤ 6 ∧ i = .int .i64 k) (fun i => 6 - (intOf i).toNat)
  case atStart => exact ⟨0, by omega, rfl⟩
  case round =>
    obtain ⟨k, hk, rfl⟩ := hrel
    by_cases hlt : k < 6
    · have hcell := kept_cell HR.out k hlt
      have e2 : ((l0.length : Int) + (k : Int)).toNat = l0.length + k := by omega
      have e3 : ((201 + (k : Int)) % 256) = 201 + (k : Int) := by omega
      have h0 : 0 ≤ (l0.length : Int) + (k : Int) := by omega
      have hltc : (l0.length : Int) + (k : Int) < (c : Int) := by have := HCI.out; omega
      have e1 : IntKind.i64.wrap ((l0.length : Int) + (k : Int)) = (l0.length : Int) + (k : Int) := IntWalk.i64_in _ (by omega)
      go_wp2
      go_round
      case rel => exact ⟨k + 1, by omega, by go_num⟩
      case measure => simp [intOf]; omega
    · go_wp2
      go_ret
      exact ⟨rfl, by repeat (first | exact Drawn0.refl _ | apply Drawn0.step)⟩

-- function 5 (postbaglaw04_CheckTakes): its walk stands in a text of its own

end Go.Proofs.Ythlofokgbogndaa.GCheck
