/- smtp.Code. -/
import Derived.Test.YtjggdkcfpdhoaaaGreatDoorBase
import Derived.Test.YtjggdkcfpdhoaaaGreatDoorReply
import Derived.KernelRfl
namespace Go.Proofs.YtjggdkcfpdhoaaaGreatDoor.CodeT
open Go Go.RowKit Go.Proofs.YtjggdkcfpdhoaaaGreatDoorW.PrintWords Go.Proofs.YtjggdkcfpdhoaaaGreatDoor.Take Go.Proofs.YtjggdkcfpdhoaaaGreatDoor.Number Go.Proofs.YtjggdkcfpdhoaaaGreatDoor.Opt Go.Proofs.YtjggdkcfpdhoaaaGreatDoor.Parse Go.Proofs.YtjggdkcfpdhoaaaGreatDoor.Bld Go.Proofs.YtjggdkcfpdhoaaaGreatDoor.Reply
set_option linter.unusedVariables false
set_option linter.unusedSimpArgs false
/-- The code that a text begins with. -/
def codeV (s : ByteArray) : Int := if 3 ≤ s.size then numV (s.extract 0 3) else 0
theorem code_calls (s : ByteArray) (w : World) : Calls Tryz.prog 12 #[.string s] w fun e w' => e = .returned (.int .i64 (codeV s)) ∧ Below w.heap.size w w' := by
  by_cases h3 : 3 ≤ s.size
  · have HN := Aside0.mk (fun W => number_calls (s.extract 0 3) (by rw [ByteArray.size_extract]; omega) W)
    have hv : codeV s = numV (s.extract 0 3) := if_pos h3
    rw [hv]
    clear hv
    have hnv : numF (s.extract 0 3) = false → numV (s.extract 0 3) = 0 := fun h => if_neg (by rw [h]; simp)
    obtain ⟨v, hv⟩ : ∃ x, x = numV (s.extract 0 3) := ⟨_, rfl⟩
    rw [← hv] at HN hnv ⊢
    clear hv
    have t1 : decide ((s.size : Int) < 3) = false := decide_eq_false (by omega)
    cases hf : numF (s.extract 0 3) with
    | true =>
      rw [hf] at HN
      clear hnv hf
      go_enter Tryz.func12, Tryz.ntmps12
      go_wp2_with (go_at_call 32; refine (HN.out _).mono ?_; rintro e w1 ⟨rfl, hb1⟩; have HB1 := Aside0.mk hb1; clear hb1)
      go_ret
      exact ⟨rfl, HB1.out⟩
    | false =>
      rw [hf] at HN
      have HV := Aside0.mk (hnv hf)
      clear hnv hf
      go_enter Tryz.func12, Tryz.ntmps12
      go_wp2_with (go_at_call 32; refine (HN.out _).mono ?_; rintro e w1 ⟨rfl, hb1⟩; have HB1 := Aside0.mk hb1; clear hb1)
      go_ret
      exact ⟨by rw [HV.out]; rfl, HB1.out⟩
  · have hv : codeV s = 0 := if_neg h3
    rw [hv]
    clear hv
    have t1 : decide ((s.size : Int) < 3) = true := decide_eq_true (by omega)
    go_enter Tryz.func12, Tryz.ntmps12
    go_wp2
    go_ret
    exact ⟨rfl, Below.refl _ _⟩
end Go.Proofs.YtjggdkcfpdhoaaaGreatDoor.CodeT
