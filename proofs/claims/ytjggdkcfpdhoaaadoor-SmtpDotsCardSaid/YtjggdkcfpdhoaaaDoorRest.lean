/- smtp's Code, Stuff, Unstuff, Data; the law's alive. -/
import Derived.Test.YtjggdkcfpdhoaaaDoorParse
import Derived.Test.YtjggdkcfpdhoaaaDoorReply
import Derived.KernelRfl
namespace Go.Proofs.YtjggdkcfpdhoaaaDoor.Rest
open Go Go.RowKit Go.Proofs.YtjggdkcfpdhoaaaDoorW.PrintWords Go.Proofs.YtjggdkcfpdhoaaaDoor.Take Go.Proofs.YtjggdkcfpdhoaaaDoor.Number Go.Proofs.YtjggdkcfpdhoaaaDoor.Opt Go.Proofs.YtjggdkcfpdhoaaaDoor.Parse Go.Proofs.YtjggdkcfpdhoaaaDoor.Bld Go.Proofs.YtjggdkcfpdhoaaaDoor.Reply
set_option linter.unusedVariables false
set_option linter.unusedSimpArgs false
/-- The code that a text begins with. -/
def codeV (s : ByteArray) : Int := if 3 ≤ s.size then numV (s.extract 0 3) else 0
theorem code_calls (s : ByteArray) (w : World) : Calls Tryd.prog 10 #[.string s] w fun e w' => e = .returned (.int .i64 (codeV s)) ∧ Below w.heap.size w w' := by
  by_cases h3 : 3 ≤ s.size
  · have HN := Aside0.mk (fun W => number_calls (s.extract 0 3) (by rw [ByteArray.size_extract]; omega) W)
    have hv : codeV s = numV (s.extract 0 3) := if_pos h3
    rw [hv]
    clear hv
    have hnv : numF (s.extract 0 3) = false → numV (s.extract 0 3) = 0 := fun h => if_neg (by rw [h]; simp)
    obtain ⟨v, hv⟩ : ∃ x, x = numV (s.extract 0 3) := ⟨_, rfl⟩
    rw [← hv] at HN hnv ⊢
    clear hv
    have t1 : decide ((s.size : Int) < 3) = false := decide_eq_false (by omega)
    cases hf : numF (s.extract 0 3) with
    | true =>
      rw [hf] at HN
      clear hnv hf
      go_enter Tryd.func10, Tryd.ntmps10
      go_wp2_with (go_at_call 20; refine (HN.out _).mono ?_; rintro e w1 ⟨rfl, hb1⟩; have HB1 := Aside0.mk hb1; clear hb1)
      go_ret
      exact ⟨rfl, HB1.out⟩
    | false =>
      rw [hf] at HN
      have HV := Aside0.mk (hnv hf)
      clear hnv hf
      go_enter Tryd.func10, Tryd.ntmps10
      go_wp2_with (go_at_call 20; refine (HN.out _).mono ?_; rintro e w1 ⟨rfl, hb1⟩; have HB1 := Aside0.mk hb1; clear hb1)
      go_ret
      exact ⟨by rw [HV.out]; rfl, HB1.out⟩
  · have hv : codeV s = 0 := if_neg h3
    rw [hv]
    clear hv
    have t1 : decide ((s.size : Int) < 3) = true := decide_eq_true (by omega)
    go_enter Tryd.func10, Tryd.ntmps10
    go_wp2
    go_ret
    exact ⟨rfl, Below.refl _ _⟩
/-- A line as it stands in data. -/
def stuffB (s : ByteArray) : ByteArray := if preF s 46 = true then (⟨#[46]⟩ : ByteArray) ++ s else s
theorem stuff_calls (s : ByteArray) (hs : s.size ≤ 1000000) (w : World) : Calls Tryd.prog 11 #[.string s] w fun e w' => e = .returned (.string (stuffB s)) ∧ w' = w := by
  have HP : Aside0 (∀ W, Calls Tryd.prog 21 #[.string s, .string ⟨#[46]⟩] W fun e w' => e = .returned (.bool (preF s 46)) ∧ w' = W) := ⟨fun W => Tryd.strings_HasPrefix s ⟨#[46]⟩ W⟩
  cases hf : preF s 46 with
  | true =>
    have e : stuffB s = (⟨#[46]⟩ : ByteArray) ++ s := if_pos hf
    rw [hf] at HP
    rw [e]
    clear e hf
    have f1 : ¬ 9223372036854775807 < 1 + s.size := by omega
    go_enter Tryd.func11, Tryd.ntmps11
    go_wp2_with (go_at_call 21; refine (HP.out _).mono ?_; rintro e w1 ⟨rfl, rfl⟩)
    go_ret
    exact ⟨rfl, rfl⟩
  | false =>
    have e : stuffB s = s := if_neg (by rw [hf]; simp)
    rw [hf] at HP
    rw [e]
    clear e hf
    go_enter Tryd.func11, Tryd.ntmps11
    go_wp2_with (go_at_call 21; refine (HP.out _).mono ?_; rintro e w1 ⟨rfl, rfl⟩)
    go_ret
    exact ⟨rfl, rfl⟩
/-- A line of data: does it go on, which line is it? -/
def unF (s : ByteArray) : Bool := !(preF s 46 && (preT s 46).toList.isEmpty)
def unV (s : ByteArray) : ByteArray := if unF s = true then preT s 46 else ⟨#[]⟩
theorem unstuff_calls (s : ByteArray) (w : World) : Calls Tryd.prog 12 #[.string s] w fun e w' => e = .returned (.tuple #[.string (unV s), .bool (unF s)]) ∧ w' = w := by
  have HP := Aside0.mk (fun W => prefix_calls s 46 W)
  have hu : unF s = !(preF s 46 && (preT s 46).toList.isEmpty) := rfl
  have hv : unV s = if unF s = true then preT s 46 else ⟨#[]⟩ := rfl
  obtain ⟨x, hx⟩ : ∃ x, x = preT s 46 := ⟨_, rfl⟩
  rw [← hx] at HP hu hv
  clear hx
  rw [hv, hu]
  clear hv hu
  cases hf : preF s 46 with
  | true =>
    rw [hf] at HP
    cases he : x.toList.isEmpty with
    | true =>
      go_enter Tryd.func12, Tryd.ntmps12
      go_wp2_with (go_at_call 22; refine (HP.out _).mono ?_; rintro e w1 ⟨rfl, rfl⟩)
      refine bodyPost_ret (v := .tuple #[.string ⟨#[]⟩, .bool false]) (by simp [results, Tryd.results12, go_sem]) rfl ⟨rfl, rfl⟩
    | false =>
      go_enter Tryd.func12, Tryd.ntmps12
      go_wp2_with (go_at_call 22; refine (HP.out _).mono ?_; rintro e w1 ⟨rfl, rfl⟩)
      refine bodyPost_ret (v := .tuple #[.string x, .bool true]) (by simp [results, Tryd.results12, go_sem]) rfl ⟨rfl, rfl⟩
  | false =>
    rw [hf] at HP
    go_enter Tryd.func12, Tryd.ntmps12
    go_wp2_with (go_at_call 22; refine (HP.out _).mono ?_; rintro e w1 ⟨rfl, rfl⟩)
    refine bodyPost_ret (v := .tuple #[.string x, .bool true]) (by simp [results, Tryd.results12, go_sem]) rfl ⟨rfl, rfl⟩
end Go.Proofs.YtjggdkcfpdhoaaaDoor.Rest
