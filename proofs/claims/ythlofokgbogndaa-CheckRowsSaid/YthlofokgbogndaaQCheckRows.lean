/- CheckRows, the plain law: records one behind the other are told, up to what is none's. -/
import Derived.Test.YthlofokgbogndaaLibCk
namespace Go.Proofs.Ythlofokgbogndaa.Pure
open Go.RowKit Go.Proofs.Ythlofokgbogndaa.GCheck Go.Proofs.YthlofokgbogndaaW.PrintWords Go.Proofs.YthlofokgbogndaaW.PrintLast Go.Proofs.Ythlofokgbogndaa.Lib04

def flat (xs : List (List Int)) : List Int := xs.flatMap recS
theorem flat_B (xs : List (List Int)) (h : ∀ x ∈ xs, isB x) : isB (flat xs) := by
  intro y hy
  unfold flat at hy
  obtain ⟨x, hx, hyx⟩ := List.mem_flatMap.1 hy
  exact recS_B (h x hx) y hyx
theorem flat_len (xs : List (List Int)) (h : ∀ x ∈ xs, x.length ≤ 2000) : (flat xs).length ≤ 2008 * xs.length := by
  induction xs with
  | nil => simp [flat]
  | cons x xs ih =>
    have h1 := h x (by simp)
    have h2 := ih (fun y hy => h y (by simp [hy]))
    unfold flat at *
    rw [List.flatMap_cons, List.length_append, recS_len, List.length_cons]
    omega
theorem records_l0 (tail : List Int) (ht : isB tail) (hw : wholeS tail = none) (xs : List (List Int)) : ∀ (k : Nat) (acc : List (List Int)), (∀ x ∈ xs, isB x ∧ x.length ≤ 2000) → (flat xs ++ tail).length ≤ 140737488351232 → acc.length + xs.length ≤ 1000000 →
    (flat xs ++ tail).length + xs.length + 1 < k → check_Records.l0 k (flat xs ++ tail) acc = some (acc ++ xs, (tail.length : Int)) := by
  induction xs with
  | nil =>
    intro k acc _ hl _ hk
    obtain ⟨k, rfl⟩ : ∃ m, k = m + 1 := ⟨k - 1, by omega⟩
    have e : flat [] ++ tail = tail := rfl
    rw [e] at hl hk ⊢
    simp only [check_Records.l0]
    rw [take_f ht hl k (by have : ([] : List (List Int)).length = 0 := rfl; omega), hw]
    simp
  | cons x xs ih =>
    intro k acc hx hl ha hk
    obtain ⟨k, rfl⟩ : ∃ m, k = m + 1 := ⟨k - 1, by omega⟩
    have e : flat (x :: xs) ++ tail = recS x ++ (flat xs ++ tail) := by
      unfold flat
      rw [List.flatMap_cons, List.append_assoc]
    have hbx := hx x (by simp)
    rw [e] at hl hk ⊢
    have hl2 : (recS x ++ (flat xs ++ tail)).length = x.length + 8 + (flat xs ++ tail).length := by rw [List.length_append, recS_len]
    rw [List.length_cons] at ha hk
    have hb : isB (recS x ++ (flat xs ++ tail)) := isB_append (recS_B hbx.1) (isB_append (flat_B xs (fun y hy => (hx y (by simp [hy])).1)) ht)
    simp only [check_Records.l0]
    rw [take_f hb hl k (by omega), whole_rec (by omega)]
    simp only [Option.bind_some, if_true]
    rw [if_pos (by omega), rec_drop, ← List.drop_drop, rec_drop]
    have t1 : (x ++ (flat xs ++ tail)).take x.length = x := by simp
    have t2 : (x ++ (flat xs ++ tail)).drop x.length = flat xs ++ tail := by simp
    rw [t1, t2, ih k (acc ++ [x]) (fun y hy => hx y (by simp [hy])) (by omega) (by rw [List.length_append]; simp; omega) (by omega)]
    simp
theorem same_l1 (xs : List (List Int)) (hn : xs.length ≤ 1000) (d : Nat) : ∀ (k i : Nat), i + d = xs.length → d < k → postbaglaw04_CheckRows.l1 k xs xs (xs.length : Int) (i : Int) = some true := by
  induction d with
  | zero =>
    intro k i hi hk
    obtain ⟨k, rfl⟩ : ∃ m, k = m + 1 := ⟨k - 1, by omega⟩
    simp only [postbaglaw04_CheckRows.l1]
    rw [if_neg (by omega)]
  | succ d ih =>
    intro k i hi hk
    obtain ⟨k, rfl⟩ : ∃ m, k = m + 1 := ⟨k - 1, by omega⟩
    simp only [postbaglaw04_CheckRows.l1]
    rw [if_pos (by omega), if_pos (by omega), if_pos (by omega), if_pos (by omega), same_f rfl]
    simp only [Option.bind_some, if_true]
    rw [wrap_up (n := xs.length) (by omega) (by omega) (by omega)]
    have e : ((i : Int) + 1) = ((i + 1 : Nat) : Int) := by omega
    rw [e]
    exact ih k (i + 1) (by omega) (by omega)
theorem rdL_at (xs : List (List Int)) (i : Nat) (h : i < xs.length) : rd_L1 xs (i : Int) = xs[i] := by
  unfold rd_L1
  simp [List.getD_eq_getElem?_getD, h]
theorem rows_l0 (xs : List (List Int)) (tail : List Int) (hx : ∀ x ∈ xs, isB x) (hn : xs.length ≤ 140737488351232) (ht : isB tail) (d : Nat) : ∀ (k i : Nat), i + d = xs.length → d + 300000 < k → i ≤ 51 →
    (∀ x ∈ xs.take i, x.length ≤ 2000) → postbaglaw04_CheckRows.l0 k xs tail (flat (xs.take i)) xs (xs.length : Int) (i : Int) = some true := by
  induction d with
  | zero =>
    intro k i hi hk h51 hs
    obtain ⟨k, rfl⟩ : ∃ m, k = m + 1 := ⟨k - 1, by omega⟩
    have ei : xs.take i = xs := List.take_of_length_le (by omega)
    rw [ei] at hs ⊢
    simp only [postbaglaw04_CheckRows.l0]
    rw [if_neg (by omega)]
    have hl := flat_len xs hs
    have hb := flat_B xs (fun x h => hx x h)
    by_cases c1 : (tail.length : Int) > 2000
    · rw [if_pos c1]
      obtain ⟨k, rfl⟩ : ∃ m, k = m + 1 := ⟨k - 1, by omega⟩
      simp [postbaglaw04_CheckRows.j1]
    · rw [if_neg c1, whole_f ht (by omega) k (by omega)]
      simp only [Option.bind_some]
      obtain ⟨k, rfl⟩ : ∃ m, k = m + 1 := ⟨k - 1, by omega⟩
      cases hw : wholeS tail with
      | some n => simp [postbaglaw04_CheckRows.j1]
      | none =>
        have hla : (flat xs ++ tail).length ≤ 200000 := by rw [List.length_append]; omega
        have hr := records_l0 tail ht hw xs k [] (fun x h => ⟨hx x h, hs x h⟩) (by omega) (by simp; omega) (by omega)
        obtain ⟨k', rfl⟩ : ∃ m, k = m + 1 := ⟨k - 1, by omega⟩
        simp only [postbaglaw04_CheckRows.j1, check_Records.f]
        rw [if_neg (by simp), if_pos (by omega), hr]
        simp only [Option.bind_some, List.nil_append, postbaglaw04_CheckRows.j2]
        rw [if_pos trivial, if_neg (by simp)]
        exact same_l1 xs (by omega) xs.length k' 0 (by omega) (by omega)
  | succ d ih =>
    intro k i hi hk h51 hs
    obtain ⟨k, rfl⟩ : ∃ m, k = m + 1 := ⟨k - 1, by omega⟩
    have hlt : i < xs.length := by omega
    have hxi := hx xs[i] (List.getElem_mem hlt)
    simp only [postbaglaw04_CheckRows.l0]
    rw [if_pos (by omega), if_pos (by omega), if_pos (by omega), rdL_at xs i hlt]
    by_cases c1 : (i : Int) > 50
    · rw [if_pos c1]
    · rw [if_neg c1]
      by_cases c2 : (xs[i].length : Int) > 2000
      · rw [if_pos c2]
      · have hl := flat_len _ hs
        have hti : (xs.take i).length = i := by rw [List.length_take]; omega
        rw [hti] at hl
        rw [if_neg c2, record_f hxi (by omega) k (by omega)]
        simp only [Option.bind_some]
        rw [if_pos (by rw [recS_len]; omega), wrap_up (n := xs.length) (by omega) (by omega) (by omega)]
        have e : ((i : Int) + 1) = ((i + 1 : Nat) : Int) := by omega
        have et : xs.take (i + 1) = xs.take i ++ [xs[i]] := by rw [List.take_succ_eq_append_getElem hlt]
        have ef : flat (xs.take i) ++ recS xs[i] = flat (xs.take (i + 1)) := by
          rw [et]
          unfold flat
          rw [List.flatMap_append, List.flatMap_cons, List.flatMap_nil, List.append_nil]
        rw [e, ef]
        refine ih k (i + 1) (by omega) (by omega) (by omega) (fun x h => ?_)
        rw [et] at h
        rcases List.mem_append.1 h with h | h
        · exact hs x h
        · rw [List.mem_singleton.1 h]
          omega
theorem CheckRows (xs : List (List Int)) (tail : List Int) (hx : ∀ x ∈ xs, isB x) (hn : xs.length ≤ 140737488351232) (ht : isB tail) : ∃ k, postbaglaw04_CheckRows.f k xs tail = some true := by
  refine ⟨xs.length + 300002, ?_⟩
  unfold postbaglaw04_CheckRows.f
  rw [alive_f _ (by omega)]
  simp only [Option.bind_some, if_true]
  exact rows_l0 xs tail hx hn ht xs.length _ 0 (by omega) (by omega) (by omega) (by simp)

end Go.Proofs.Ythlofokgbogndaa.Pure
