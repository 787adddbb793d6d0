/- path's small ones: which bytes may stand in an atom, a label; texts all of whose bytes may. -/
import Derived.Test.YtjggdkcfpdhoaaaGreatDoorSh
import Derived.Test.YtjggdkcfpdhoaaaGreatDoorDots
import Derived.WalkKit
import Derived.Below
import Derived.WalkSpells
import Derived.OwnWalkIn
import Derived.LoopIn
import Derived.IntWalk
namespace Go.Proofs.YtjggdkcfpdhoaaaGreatDoor.Path
open Go Go.RowKit Go.Proofs.YtjggdkcfpdhoaaaGreatDoorW.PrintWords Go.Proofs.YtjggdkcfpdhoaaaGreatDoor.Dots
set_option linter.unusedVariables false
set_option linter.unusedSimpArgs false
def plainC (c : Int) : Bool := decide (97 ≤ c) && decide (c ≤ 122) || decide (65 ≤ c) && decide (c ≤ 90) || decide (48 ≤ c) && decide (c ≤ 57)
def marksL : List UInt8 := [33, 35, 36, 37, 38, 39, 42, 43, 45, 47, 61, 63, 94, 95, 96, 123, 124, 125, 126]
def atomC (c : Int) : Bool := plainC c || decide (0 ≤ Lib.indexByte marksL c.toNat.toUInt8)
def labelC (c : Int) : Bool := plainC c || c == 45
theorem plain_calls (c : Int) (hc : 0 ≤ c ∧ c ≤ 255) (w : World) : Calls Tryz.prog 80 #[.int .u8 c] w fun e w' => e = .returned (.bool (plainC c)) ∧ w' = w := by
  by_cases h1 : 97 ≤ c
  · by_cases h2 : c ≤ 122
    · have hr : plainC c = true := by simp [plainC, h1, h2]
      rw [hr]
      go_enter Tryz.func80, Tryz.ntmps80
      go_wp2
      go_ret
      exact ⟨rfl, rfl⟩
    · have h3 : 65 ≤ c := by omega
      have h4 : ¬ c ≤ 90 := by omega
      have h5 : 48 ≤ c := by omega
      have h6 : ¬ c ≤ 57 := by omega
      have hr : plainC c = false := by simp [plainC, h1, h2, h3, h4, h5, h6]
      rw [hr]
      go_enter Tryz.func80, Tryz.ntmps80
      go_wp2
      go_ret
      exact ⟨rfl, rfl⟩
  · by_cases h3 : 65 ≤ c
    · by_cases h4 : c ≤ 90
      · have hr : plainC c = true := by simp [plainC, h3, h4]
        rw [hr]
        go_enter Tryz.func80, Tryz.ntmps80
        go_wp2
        go_ret
        exact ⟨rfl, rfl⟩
      · have h5 : 48 ≤ c := by omega
        have h6 : ¬ c ≤ 57 := by omega
        have hr : plainC c = false := by simp [plainC, h1, h3, h4, h5, h6]
        rw [hr]
        go_enter Tryz.func80, Tryz.ntmps80
        go_wp2
        go_ret
        exact ⟨rfl, rfl⟩
    · by_cases h5 : 48 ≤ c
      · by_cases h6 : c ≤ 57
        · have hr : plainC c = true := by simp [plainC, h5, h6]
          rw [hr]
          go_enter Tryz.func80, Tryz.ntmps80
          go_wp2
          go_ret
          exact ⟨rfl, rfl⟩
        · have hr : plainC c = false := by simp [plainC, h1, h3, h5, h6]
          rw [hr]
          go_enter Tryz.func80, Tryz.ntmps80
          go_wp2
          go_ret
          exact ⟨rfl, rfl⟩
      · have hr : plainC c = false := by simp [plainC, h1, h3, h5]
        rw [hr]
        go_enter Tryz.func80, Tryz.ntmps80
        go_wp2
        go_ret
        exact ⟨rfl, rfl⟩
theorem atom1_calls (c : Int) (hc : 0 ≤ c ∧ c ≤ 255) (w : World) : Calls Tryz.prog 114 #[.int .u8 c] w fun e w' => e = .returned (.bool (atomC c)) ∧ w' = w := by
  have hp := plain_calls c hc w
  have hi := Tryz.strings_IndexByte (⟨#[33, 35, 36, 37, 38, 39, 42, 43, 45, 47, 61, 63, 94, 95, 96, 123, 124, 125, 126]⟩ : ByteArray) c w
  obtain ⟨z, hz⟩ : ∃ z, z = Lib.indexByte marksL c.toNat.toUInt8 := ⟨_, rfl⟩
  have hi2 : Calls Tryz.prog 83 #[.string (⟨#[33, 35, 36, 37, 38, 39, 42, 43, 45, 47, 61, 63, 94, 95, 96, 123, 124, 125, 126]⟩ : ByteArray), .int .u8 c] w fun e w' => e = .returned (.int .i64 z) ∧ w' = w := by rw [hz]; exact hi
  have hr : atomC c = (plainC c || decide (0 ≤ z)) := by rw [hz]; rfl
  have HP := Aside0.mk hp
  have HI := Aside0.mk hi2
  rw [hr]
  clear hp hi hi2 hr hz
  cases hb : plainC c with
  | true =>
    rw [hb] at HP
    go_enter Tryz.func114, Tryz.ntmps114
    go_wp2_with (go_at_call 80; refine HP.out.mono ?_; rintro e w' ⟨rfl, rfl⟩)
    go_ret
    exact ⟨rfl, rfl⟩
  | false =>
    rw [hb] at HP
    by_cases h : 0 ≤ z
    · rw [decide_eq_true h]
      go_enter Tryz.func114, Tryz.ntmps114
      go_wp2_with (first
        | (go_at_call 80; refine HP.out.mono ?_; rintro e w' ⟨rfl, rfl⟩)
        | (go_at_call 83; refine HI.out.mono ?_; rintro e w' ⟨rfl, rfl⟩))
      go_ret
      exact ⟨rfl, rfl⟩
    · rw [decide_eq_false h]
      go_enter Tryz.func114, Tryz.ntmps114
      go_wp2_with (first
        | (go_at_call 80; refine HP.out.mono ?_; rintro e w' ⟨rfl, rfl⟩)
        | (go_at_call 83; refine HI.out.mono ?_; rintro e w' ⟨rfl, rfl⟩))
      go_ret
      exact ⟨by show Ending.returned (Value.bool (decide (0 ≤ z))) = _; rw [decide_eq_false (by omega)]; rfl, rfl⟩
theorem label1_calls (c : Int) (hc : 0 ≤ c ∧ c ≤ 255) (w : World) : Calls Tryz.prog 79 #[.int .u8 c] w fun e w' => e = .returned (.bool (labelC c)) ∧ w' = w := by
  have HP := Aside0.mk (plain_calls c hc w)
  unfold labelC
  cases hb : plainC c with
  | true =>
    rw [hb] at HP
    go_enter Tryz.func79, Tryz.ntmps79
    go_wp2_with (go_at_call 80; refine HP.out.mono ?_; rintro e w' ⟨rfl, rfl⟩)
    go_ret
    exact ⟨rfl, rfl⟩
  | false =>
    rw [hb] at HP
    rw [Bool.false_or]
    cases he : (c == 45) with
    | true =>
      go_enter Tryz.func79, Tryz.ntmps79
      go_wp2_with (go_at_call 80; refine HP.out.mono ?_; rintro e w' ⟨rfl, rfl⟩)
      go_ret
      exact ⟨rfl, rfl⟩
    | false =>
      go_enter Tryz.func79, Tryz.ntmps79
      go_wp2_with (go_at_call 80; refine HP.out.mono ?_; rintro e w' ⟨rfl, rfl⟩)
      go_ret
      exact ⟨rfl, rfl⟩
theorem bt_is (s : ByteArray) (k : Nat) (h : k < s.size) : (((s[k]'h).toNat : Nat) : Int) = bt s (k : Int) := by
  unfold bt
  rw [dif_pos (by simpa using h)]
  rfl
theorem all_no (xs : List Int) (p : Int → Bool) (k : Nat) (hk : k < xs.length) (h : p (xs.getD k 0) = false) : xs.all p = false := by
  rw [List.all_eq_false]
  refine ⟨xs.getD k 0, ?_, by rw [h]; decide⟩
  rw [List.getD_eq_getElem?_getD, List.getElem?_eq_getElem hk]
  exact List.getElem_mem hk
theorem all_yes (xs : List Int) (p : Int → Bool) (k : Nat) (hk : k < xs.length) (h : (xs.take k).all p = true) (h1 : p (xs.getD k 0) = true) : (xs.take (k + 1)).all p = true := by
  rw [List.take_add_one, List.getElem?_eq_getElem hk, List.all_append, h, Bool.true_and]
  rw [List.getD_eq_getElem?_getD, List.getElem?_eq_getElem hk] at h1
  simpa using h1
set_option maxHeartbeats 1000000 in
/-- Do all bytes pass? (A predicate that neither writes nor draws.) -/
theorem each_calls (s : ByteArray) (g : Nat) (is : Int → Bool) (hs : s.size ≤ 1000000) (eg : ∀ args w, (callFunc g args).run Tryz.prog w = .ok (.enter g args) w)
    (hcl : ∀ c, 0 ≤ c ∧ c ≤ 255 → ∀ W, Calls Tryz.prog g #[.int .u8 c] W fun e w' => e = .returned (.bool (is c)) ∧ w' = W) (w : World) :
    Calls Tryz.prog 78 #[.string s, .func (.func g) #[] #[]] w fun e w' => e = .returned (.bool ((bytesOf s).all is)) ∧ w' = w := by
  have HCL := Aside0.mk hcl
  obtain ⟨r, hr⟩ : ∃ r, r = (bytesOf s).all is := ⟨_, rfl⟩
  rw [← hr]
  have HR := Aside0.mk hr
  clear hcl hr
  go_enter Tryz.func78, Tryz.ntmps78
  go_wp2
  go_loopw [8] (fun i wr => ∃ k : Nat, k ≤ s.size ∧ i = .int .i64 k ∧ wr = w ∧ Aside0 (((bytesOf s).take k).all is = true)) (fun i _ => s.size - (intOf i).toNat)
  case atStart => exact ⟨0, Nat.zero_le _, rfl, rfl, ⟨rfl⟩⟩
  case round =>
    obtain ⟨k, hk, rfl, rfl, HA⟩ := hrel
    by_cases hlt : k < s.size
    · have hl : k < (bytesOf s).length := by rw [bytesOf_length]; exact hlt
      have hbt := btD_at s k hlt
      have hrg := bt_range s k hlt
      have HL := Aside0.mk hl
      have t1 : decide (k < s.size) = true := decide_eq_true hlt
      have t2 : decide ((k : Int) < (s.size : Int)) = true := decide_eq_true (by omega)
      have hx := bt_is s k hlt
      obtain ⟨c, hc⟩ : ∃ c, c = bt s (k : Int) := ⟨_, rfl⟩
      have HC := Aside0.mk (HCL.out c (by rw [hc]; exact hrg) wr)
      rw [← hc] at hbt hx
      have HB := Aside0.mk hbt
      clear hbt hl hrg hc
      cases hb : is c with
      | true =>
        rw [hb] at HC
        have HQ := Aside0.mk hb
        clear hb
        go_wp2_with (go_at_fn g; refine HC.out.mono ?_; rintro e w' ⟨rfl, rfl⟩)
        go_roundw
        case rel => exact ⟨k + 1, by omega, by go_num, by trivial, ⟨all_yes _ _ k HL.out HA.out (by rw [← HB.out]; exact HQ.out)⟩⟩
        case measure => first | (simp [intOf]; done) | (simp [intOf]; omega)
      | false =>
        rw [hb] at HC
        have HQ := Aside0.mk hb
        clear hb
        go_wp2_with (go_at_fn g; refine HC.out.mono ?_; rintro e w' ⟨rfl, rfl⟩)
        go_ret
        exact ⟨by rw [HR.out, all_no _ _ k HL.out (by rw [← HB.out]; exact HQ.out)]; rfl, rfl⟩
    · have hks : k = s.size := by omega
      subst hks
      have t1 : decide (s.size < s.size) = false := decide_eq_false (Nat.lt_irrefl _)
      go_wp2
      go_ret
      exact ⟨by rw [HR.out, show (bytesOf s).all is = true by have := HA.out; rwa [← bytesOf_length, List.take_length] at this]; rfl, rfl⟩
theorem atom_calls (s : ByteArray) (hs : s.size ≤ 1000000) (w : World) : Calls Tryz.prog 100 #[.string s] w fun e w' => e = .returned (.bool ((bytesOf s).all atomC)) ∧ w' = w := by
  have HE := Aside0.mk (each_calls s 114 atomC hs (enters_of Tryz.func114 (by kernel_rfl) rfl) (fun c hc W => atom1_calls c hc W) w)
  go_enter Tryz.func100, Tryz.ntmps100
  go_wp2_with (go_at_call 78; refine HE.out.mono ?_; rintro e w' ⟨rfl, rfl⟩)
  go_ret
  exact ⟨rfl, rfl⟩
def labelB (s : ByteArray) : Bool := (bytesOf s).all labelC && (bt s 0 != 45 && bt s ((s.size : Int) - 1) != 45)
theorem label_calls (s : ByteArray) (hs : s.size ≤ 1000000) (h1 : 1 ≤ s.size) (w : World) : Calls Tryz.prog 52 #[.string s] w fun e w' => e = .returned (.bool (labelB s)) ∧ w' = w := by
  have HE := Aside0.mk (each_calls s 79 labelC hs (enters_of Tryz.func79 (by kernel_rfl) rfl) (fun c hc W => label1_calls c hc W) w)
  obtain ⟨m, hm⟩ : ∃ m, s.size = m + 1 := ⟨s.size - 1, by omega⟩
  have hx0 := bt_is s 0 (by omega)
  have hxm := bt_is s m (by omega)
  have em : ((s.size : Int) - 1) = (m : Int) := by omega
  unfold labelB
  rw [em]
  have hm1 : (0 < s.size) = True := eq_true (by omega)
  have hm2 : (m < s.size) = True := eq_true (by omega)
  have hm3 : decide ((m : Int) < (s.size : Int)) = true := decide_eq_true (by omega)
  cases hb : (bytesOf s).all labelC with
  | false =>
    rw [hb] at HE
    go_enter Tryz.func52, Tryz.ntmps52
    go_wp2_with (go_at_call 78; refine HE.out.mono ?_; rintro e w' ⟨rfl, rfl⟩)
    go_ret
    exact ⟨rfl, rfl⟩
  | true =>
    rw [hb] at HE
    rw [Bool.true_and]
    go_enter Tryz.func52, Tryz.ntmps52
    go_wp2_with (go_at_call 78; refine HE.out.mono ?_; rintro e w' ⟨rfl, rfl⟩)
    all_goals go_ret
    all_goals refine ⟨?_, rfl⟩
    all_goals first | rfl | simp_all
end Go.Proofs.YtjggdkcfpdhoaaaGreatDoor.Path
