/- CheckRecords, the walk: what each record's bytes are. -/
import Derived.Test.YthlofokgbogndaaDoorLibCk
import Derived.Deep.RegionWith
namespace Go.Proofs.YthlofokgbogndaaDoor.GCheck
open Go.RowKit Go.Proofs.YthlofokgbogndaaDoorW.PrintWords Go.Proofs.YthlofokgbogndaaDoorW.PrintLast Go.Proofs.YthlofokgbogndaaDoorW.PrintMore
set_option linter.unusedVariables false
set_option linter.unusedSimpArgs false
set_option maxHeartbeats 8000000 in
set_option maxRecDepth 100000 in
theorem records_walk (A0 : Option Addr) (c0 : Nat) (l0 : List Int) (w : World) (hr0 : Kd.C (Kd.int .u8) w A0 l0.length l0) (hc0 : l0.length ≤ c0)
    (ha : postbaglaw04_alive.f 10 = some true) (r : List Int) (h12 : 20000 < l0.length ∨ check_Record.f 30000 l0 = some (r, none) ∧ postbagref04_Record.f 30000 l0 = some r) :
    Calls Tryd.prog 3 #[.slice A0 l0.length c0] w fun e w' => e = .returned (.bool true) ∧ Below w.heap.size w w' := by
  have HR0 := Aside0.mk hr0
  have HC0 := Aside0.mk hc0
  have HA := Aside0.mk ha
  clear hr0 hc0 ha
  by_cases hbig : 20000 < (l0.length : Int)
  · have t1 : decide (20000 < (l0.length : Int)) = true := decide_eq_true hbig
    have t2 : decide (20000 < l0.length) = true := decide_eq_true (by omega)
    clear hbig h12
    go_enter Tryd.func3, Tryd.ntmps3
    go_wp2_with (go_at_call 5; (with_reducible refine (postbaglaw04_alive.calls 10 true _ HA.out).mono ?_); rintro e w' ⟨rfl, hb⟩; have HB := Aside0.mk hb; clear hb)
    go_ret
    exact ⟨rfl, HB.out⟩
  · have t1 : decide (20000 < (l0.length : Int)) = false := decide_eq_false hbig
    have t2 : decide (20000 < l0.length) = false := decide_eq_false (by omega)
    have h12' := h12.resolve_left (by omega)
    have H1 := Aside0.mk h12'.1
    have H2 := Aside0.mk h12'.2
    clear hbig h12 h12'
    go_enter Tryd.func3, Tryd.ntmps3
    go_wp2_with (first
      | (go_at_call 5; (with_reducible refine (postbaglaw04_alive.calls 10 true _ HA.out).mono ?_); rintro e w1 ⟨rfl, hb⟩; have HB1 := Aside0.mk hb; clear hb)
      | (go_at_call 6; refine (show Calls Tryd.prog 6 #[.slice A0 l0.length c0] _ (fun e w' => ∃ v0_ : Value, e = .returned (.tuple #[v0_, .nilIface]) ∧ Kd.R (Kd.int .u8) 5 w' _ (fun _ => True) v0_ r ∧ Below _ _ w') from check_Record.calls 30000 _ _ l0 r none _ (Kd.C_below HR0.out HB1.out) HC0.out H1.out).mono ?_; rintro e w2 ⟨v2, rfl, hO, hb⟩; obtain ⟨A2, c2, e2⟩ := Kd.R_slice hO; subst e2; have HO2 := Aside0.mk (Kd.R_reads' hO).2.2; have HB2 := Aside0.mk (below_step HB1.out hb); clear hO hb))
    have KS := Aside0.mk (show ∀ W : World, Below w2.heap.size w2 W → (convert 22 9 (.slice A2 r.length c2)).run Tryd.prog W = .ok (.string (strOfNums r)) W ∧ Below w2.heap.size w2 W from fun W h => ⟨Kd.C_string (P := Tryd.prog) (A := A2) (c := c2) Tryd.underlying22 Tryd.underlying5 Tryd.underlying9 (Kd.C_below HO2.out h), h⟩)
    have hnil : errW none = .nilIface := rfl
    have hcvA := (KS.out _ (below_drew1 (Below.refl _ _))).1
    go_region_with ((go_at_call 7; refine (postbagref04_Record.calls 30000 _ _ l0 r _ ?s1 HC0.out H2.out).mono ?_; (case s1 => exact Kd.C_drew (Kd.C_below HR0.out HB2.out)); rintro e w3 ⟨v3, rfl, hO, hb⟩; obtain ⟨A3, c3, e3⟩ := Kd.R_slice hO; subst e3; have hcv := Kd.C_string (P := Tryd.prog) (A := A3) (c := c3) Tryd.underlying22 Tryd.underlying5 Tryd.underlying9 (Kd.R_reads' hO).2.2; have hcvB := (KS.out _ (below_step (below_drew1 (Below.refl _ _)) hb)).1; have HB3 := Aside0.mk hb; clear hO hb))
    all_goals (go_wp2; go_ret; exact ⟨rfl, below_step HB2.out (below_step (below_drew1 (Below.refl _ _)) HB3.out)⟩)
end Go.Proofs.YthlofokgbogndaaDoor.GCheck
