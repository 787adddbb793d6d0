/- Steps towards RDiskAll: DRsu, DRnu. -/
import Derived.Test.YtpcfnkmljchiiaaGreatDoorZ42
import Derived.Test.YtpcfnkmljchiiaaGreatDoorZ43
import Derived.Test.YtpcfnkmljchiiaaGreatDoorZ33
set_option linter.unusedVariables false
set_option linter.unusedSimpArgs false
section
/- DiskSure, plainly: what a light script bears, what its acts keep. -/
namespace Go.Proofs.YtpcfnkmljchiiaaGreatDoor.DRsu
open Go Go.RowKit Go.Maps Go.Proofs.YtpcfnkmljchiiaaGreatDoorW.PrintWords DPl DOk DOk2 DSu DSs DAc DRpa DRow GPl
/-- Few and light. -/
def Few (l : List S35) : Prop := l.length ≤ 150 ∧ ∀ o ∈ l, o.f4.length ≤ 10000 ∧ o.f5.length ≤ 10000
theorem wid (a : Int) (h0 : -9223372036854775808 ≤ a) (h1 : a ≤ 9223372036854775807) : wrap64 a = a := by unfold wrap64; omega
theorem fifty (n : Nat) (h : n ≤ 9223372036854775807) : 0 ≤ (n : Int) / 50 ∧ (n : Int) / 50 ≤ 184467440737095517 := by omega
theorem ten (n : Nat) (h : n ≤ 9223372036854775807) : 0 ≤ (n : Int) / 10 ∧ (n : Int) / 10 ≤ 922337203685477581 := by omega
theorem light_l (L : List S35) (hL : L.length ≤ maxLen) (hs : ∀ o ∈ L, o.f4.length ≤ maxLen ∧ o.f5.length ≤ maxLen) : ∀ (m i : Nat) (x : Int), m + i = L.length → (i : Int) ≤ x → x ≤ 150 → (∀ o ∈ L.take i, o.f4.length ≤ 10000 ∧ o.f5.length ≤ 10000) →
    ∃ r, postbaglaw05_light.l0 (m + 1) x L (L.length : Int) (i : Int) = some r ∧ (r = true → Few L) := by
  intro m
  have hL : L.length ≤ 9223372036854775807 := hL
  have hs : ∀ o ∈ L, o.f4.length ≤ 9223372036854775807 ∧ o.f5.length ≤ 9223372036854775807 := hs
  induction m with
  | zero =>
    intro i x hm h0 h1 hp
    refine ⟨true, ?_, fun _ => ⟨by omega, fun o ho => hp o (by rw [List.take_of_length_le (by omega)]; exact ho)⟩⟩
    unfold postbaglaw05_light.l0
    rw [if_neg (by omega)]
  | succ m ih =>
    intro i x hm h0 h1 hp
    have hi : i < L.length := by omega
    have hg : rd_T35 L (i : Int) = L[i] := by
      unfold rd_T35
      rw [Int.toNat_natCast, List.getD_eq_getElem?_getD, List.getElem?_eq_getElem hi]
      rfl
    obtain ⟨s4, s5⟩ := hs _ (List.getElem_mem hi)
    unfold postbaglaw05_light.l0
    rw [if_pos (by omega), if_pos (by omega), if_pos (by omega), hg]
    have ew : wrap64 (x + wrap64 (wrap64 (1 + wrap64 ((L[i].f4.length : Int) / 50)) + wrap64 ((L[i].f5.length : Int) / 10))) = x + (1 + (L[i].f4.length : Int) / 50 + (L[i].f5.length : Int) / 10) := by
      have d4 := fifty (L[i].f4.length) s4
      have d5 := ten (L[i].f5.length) s5
      generalize (L[i].f4.length : Int) / 50 = y4 at d4
      generalize (L[i].f5.length : Int) / 10 = y5 at d5
      rw [wid y4 (by omega) (by omega), wid y5 (by omega) (by omega), wid (1 + y4) (by omega) (by omega), wid (1 + y4 + y5) (by omega) (by omega), wid (x + (1 + y4 + y5)) (by omega) (by omega)]
    rw [ew]
    by_cases hb : x + (1 + (L[i].f4.length : Int) / 50 + (L[i].f5.length : Int) / 10) > 150
    · rw [if_pos hb]
      exact ⟨false, rfl, fun h => by cases h⟩
    · rw [if_neg hb, if_neg (by omega)]
      obtain ⟨r, h1, h2⟩ := ih (i + 1) (x + (1 + (L[i].f4.length : Int) / 50 + (L[i].f5.length : Int) / 10)) (by omega) (by omega) (by omega) (fun o ho => by
        rw [List.take_add_one, List.getElem?_eq_getElem hi] at ho
        rcases List.mem_append.1 ho with ho | ho
        · exact hp o ho
        · obtain rfl : o = L[i] := by simpa using ho
          omega)
      refine ⟨r, ?_, h2⟩
      rw [show wrap64 ((i : Int) + 1) = ((i + 1 : Nat) : Int) by unfold wrap64; omega]
      exact h1
theorem light_f (L : List S35) (hL : L.length ≤ maxLen) (hs : ∀ o ∈ L, Sm o) : ∃ r, postbaglaw05_light.f (L.length + 1) L = some r ∧ (r = true → Few L) := by
  obtain ⟨r, h1, h2⟩ := light_l L hL (fun o ho => ⟨(hs o ho).a4, (hs o ho).a5⟩) L.length 0 0 (Nat.add_zero _) (Int.le_refl _) (by omega) (fun o ho => by simp at ho)
  refine ⟨r, ?_, h2⟩
  unfold postbaglaw05_light.f
  rw [Int.natCast_zero] at h1
  exact h1
end Go.Proofs.YtpcfnkmljchiiaaGreatDoor.DRsu
end
section
/- The document's new disk. -/
namespace Go.Proofs.YtpcfnkmljchiiaaGreatDoor.DRnu
open Go Go.RowKit Go.Maps Go.Proofs.YtpcfnkmljchiiaaGreatDoorW.PrintWords Go.Proofs.YtpcfnkmljchiiaaGreatDoorW.PrintLast DPl DAt Go.Proofs.YtpcfnkmljchiiaaGreatDoor.Is DRn DRd DRl DRlm
set_option maxRecDepth 100000 in
set_option maxHeartbeats 4000000 in
theorem rnewO_calls (q : Int) (w : World) : Calls Tryz.prog 10 #[.int .i64 q] w fun e w' => e = .returned (.pointer (some ⟨w.heap.size, 0, none⟩)) ∧ w' = w.alloc (rdO (.slice none 0 0) (.slice none 0 0) (.slice none 0 0) (.slice none 0 0) q (-1) false 0) := by
  go_enter Tryz.func10, Tryz.ntmps10
  go_wp2
  all_goals try go_ret
  exact ⟨rfl, rfl⟩
theorem rnew_calls (q : Int) (B : Nat) (w : World) (hB : B ≤ w.heap.size) : Calls Tryz.prog 10 #[.int .i64 q] w fun e w' => ∃ p, e = .returned (.pointer (some ⟨p, 0, none⟩)) ∧ RDiskAt B w' p (newD q) ∧ Below w.heap.size w w' := by
  refine (rnewO_calls q w).mono ?_
  rintro e w' ⟨rfl, rfl⟩
  have ho := heap_alloc_new w (rdO (.slice none 0 0) (.slice none 0 0) (.slice none 0 0) (.slice none 0 0) q (-1) false 0)
  exact ⟨_, rfl, ⟨[], .slice none 0 0, .slice none 0 0, .slice none 0 0, .slice none 0 0, ⟨ho, hB, Kd.R_nil _ _ _ _ _, Kd.R_nil _ _ _ _ _, Kd.R_nil _ _ _ _ _, Kd.R_nil _ _ _ _ _, ⟨rfl, fun i x f hx => by simp at hx, fun x hx => by simp at hx, fun i j x y hx => by simp at hx⟩⟩⟩, (Below.refl _ _).alloc (Nat.le_refl _) _⟩
end Go.Proofs.YtpcfnkmljchiiaaGreatDoor.DRnu
end
