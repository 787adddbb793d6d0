/- Steps towards RDiskAll: DRx. -/
import Derived.Test.YtpcfnkmljchiiaaGreatDoorZ16
set_option linter.unusedVariables false
set_option linter.unusedSimpArgs false
/- The document's next number of keep; its count of open steps. -/
namespace Go.Proofs.YtpcfnkmljchiiaaGreatDoor.DRx
open Go Go.RowKit Go.Maps Go.Proofs.YtpcfnkmljchiiaaGreatDoorW.PrintWords Go.Proofs.YtpcfnkmljchiiaaGreatDoorW.PrintLast DPl DAt DCra
theorem ofK_drop (l : List Int) (i : Nat) (k : Int) (h : l[i]? = some k) (n : Nat) : ofK (l.drop i) n = ((max k 0) % ((n : Int) + 1)).toNat := by
  obtain ⟨hi, hx⟩ := List.getElem?_eq_some_iff.1 h
  rw [List.drop_eq_getElem_cons hi, hx]
  rfl
set_option maxRecDepth 100000 in
set_option maxHeartbeats 8000000 in
theorem rnext_calls (A : Option Addr) (c ab i n : Nat) (l : List Int) (w : World) (hr : ReadsInt w .i64 A l.length l) (ho : w.heap[ab]? = some (.cells #[.int .i64 (i : Int)] 3 (0, 0))) (hi : i ≤ l.length) (hn : n ≤ 1100000000000) :
    Calls Tryz.prog 104 #[.slice A l.length c, .pointer (some ⟨ab, 0, none⟩), .int .i64 (n : Int)] w fun e w' => e = .returned (.int .i64 (ofK (l.drop i) n : Nat)) ∧ w' = if i < l.length then w.setCell ⟨ab, 0, none⟩ (.int .i64 ((i + 1 : Nat) : Int)) else w := by
  have c0 : w.cell? ⟨ab, 0, none⟩ = some (.int .i64 (i : Int)) := (blk_cell ho 0).trans rfl
  have f0 := blk_frozen ho 0
  have hlb := hr.2.1
  obtain ⟨nl, hnl⟩ : ∃ nl, nl = l.length := ⟨_, rfl⟩
  by_cases hlt : i < l.length
  · rw [if_pos hlt]
    obtain ⟨k, hk⟩ : ∃ k, l[i]? = some k := ⟨_, List.getElem?_eq_getElem hlt⟩
    rw [ofK_drop l i k hk]
    obtain ⟨ad, rfl, hz⟩ := hr.at_ (i : Int) (by omega) (by omega)
    have ek : rd l (i : Int) = k := by simp [rd, List.getD_eq_getElem?_getD, hk]
    rw [ek] at hz
    have hz2 : w.cell? (ad.add i) = some (.int .i64 k) := hz
    rw [← hnl] at hlt hlb ⊢
    have t1 : decide (nl ≤ i) = false := decide_eq_false (by omega)
    have u0 : (0 : Int) ≤ (i : Int) := by omega
    have u1 : (i : Int) < (nl : Int) := by omega
    clear ho hr hk ek hz hnl hi
    by_cases hneg : k < 0
    · have t2 : decide (k < 0) = true := decide_eq_true hneg
      have em : max k 0 = 0 := by omega
      rw [em]
      go_enter Tryz.func104, Tryz.ntmps104
      go_wp2
      go_ret
      exact ⟨by simp, by simp⟩
    · have t2 : decide (k < 0) = false := decide_eq_false hneg
      have em : max k 0 = k := by omega
      have e2 : ((k % ((n : Int) + 1)).toNat : Int) = k % ((n : Int) + 1) := by have := Int.emod_nonneg k (show ((n : Int) + 1) ≠ 0 by omega); omega
      have e3 : Int.tmod k ((n : Int) + 1) = k % ((n : Int) + 1) := Int.tmod_eq_emod_of_nonneg (by omega)
      have e4 : wrap64 ((n : Int) + 1) = (n : Int) + 1 := by unfold wrap64; omega
      have hne : ((n : Int) + 1) ≠ 0 := by omega
      rw [em, e2, ← e3]
      clear em e2 e3
      go_enter Tryz.func104, Tryz.ntmps104
      go_wp2
      go_ret
      exact ⟨by simp; exact (Int.tmod_eq_emod_of_nonneg (by omega)).symm, by simp⟩
  · rw [if_neg hlt]
    have e : ofK (l.drop i) n = 0 := by rw [List.drop_eq_nil_of_le (by omega)]; rfl
    rw [e]
    rw [← hnl] at hlt hlb hi ⊢
    have t1 : decide (nl ≤ i) = true := decide_eq_true (by omega)
    clear ho hr
    go_enter Tryz.func104, Tryz.ntmps104
    go_wp2
    go_ret
    exact ⟨rfl, rfl⟩
end Go.Proofs.YtpcfnkmljchiiaaGreatDoor.DRx
