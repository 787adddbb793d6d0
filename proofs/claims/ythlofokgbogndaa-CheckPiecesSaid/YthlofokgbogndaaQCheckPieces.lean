/- CheckPieces: a sum over two pieces is the sum over both together, and the sum of none is where sums begin. No condition. -/
import Derived.Test.YthlofokgbogndaaCCheckPieces
import Derived.OpenShut
namespace Go.Proofs.Ythlofokgbogndaa.Pure
open Go.RowKit Go.Proofs.Ythlofokgbogndaa.PCheckPieces Go.Proofs.YthlofokgbogndaaW.PrintWords Go.Proofs.YthlofokgbogndaaW.PrintLast

theorem wrap_up {i : Int} {n : Nat} (h0 : 0 ≤ i) (h : i < (n : Int)) (hn : n ≤ 140737488351232) : wrap64 (i + 1) = i + 1 := by
  unfold wrap64
  omega

/-- One byte more. -/
def st (a : Int × Int) (x : Int) : Int × Int := ((a.1 + x) % 65521, (a.2 + (a.1 + x) % 65521) % 65521)
def enc (a : Int × Int) : Int := a.2 * 65536 + a.1
def good (a : Int × Int) : Prop := 0 ≤ a.1 ∧ a.1 < 65521 ∧ 0 ≤ a.2 ∧ a.2 < 65521
theorem good_st (a : Int × Int) (x : Int) : good (st a x) := by
  unfold good st
  dsimp only
  omega
theorem good_fold (xs : List Int) : ∀ a, good a → good (xs.foldl st a) := by
  induction xs with
  | nil => exact fun a h => h
  | cons x xs ih => exact fun a _ => ih _ (good_st a x)

theorem rd_at (xs : List Int) (i : Nat) (h : i < xs.length) : rd xs (i : Int) = xs[i] := by
  unfold rd
  simp [List.getD_eq_getElem?_getD, h]

theorem more_l0 (xs : List Int) (hx : ∀ x ∈ xs, 0 ≤ x ∧ x ≤ 255) (hn : xs.length ≤ 140737488351232) (d : Nat) : ∀ (k i : Nat) (l h : Int), i + d = xs.length → d < k → good (l, h) →
    check_More.l0 k l h xs (xs.length : Int) (i : Int) = some (enc ((xs.drop i).foldl st (l, h))) := by
  induction d with
  | zero =>
    intro k i l h hi hk hg
    obtain ⟨k, rfl⟩ : ∃ m, k = m + 1 := ⟨k - 1, by omega⟩
    simp only [check_More.l0]
    rw [if_neg (by omega), List.drop_eq_nil_of_le (by omega)]
    unfold good at hg
    simp only [List.foldl_nil, enc]
    congr 1
    dsimp only at hg
    omega
  | succ d ih =>
    intro k i l h hi hk hg
    obtain ⟨k, rfl⟩ : ∃ m, k = m + 1 := ⟨k - 1, by omega⟩
    have hlt : i < xs.length := by omega
    have hb := hx xs[i] (List.getElem_mem hlt)
    have h1 : ((l + ((rd xs i) % 4294967296)) % 4294967296) % 65521 = (l + xs[i]) % 65521 := by
      rw [rd_at xs i hlt]
      unfold good at hg
      dsimp only at hg
      omega
    have h2 : ((h + (l + xs[i]) % 65521) % 4294967296) % 65521 = (h + (l + xs[i]) % 65521) % 65521 := by
      unfold good at hg
      dsimp only at hg
      omega
    simp only [check_More.l0]
    rw [if_pos (by omega), if_pos (by omega), if_pos (by omega), wrap_up (n := xs.length) (by omega) (by omega) hn, h1, h2]
    have hi1 : ((i : Int) + 1) = ((i + 1 : Nat) : Int) := by omega
    rw [hi1, ih k (i + 1) _ _ (by omega) (by omega) (good_st (l, h) xs[i]), List.drop_eq_getElem_cons hlt]
    rfl

def start (a : Int) : Int × Int := (a % 65536 % 65521, a / 65536 % 65521)
theorem good_start (a : Int) : good (start a) := by
  unfold good start
  dsimp only
  omega
theorem more_f (xs : List Int) (hx : ∀ x ∈ xs, 0 ≤ x ∧ x ≤ 255) (hn : xs.length ≤ 140737488351232) (a : Int) (h0 : 0 ≤ a) (h1 : a ≤ 4294967295) (k : Nat) (hk : xs.length < k) :
    check_More.f k a xs = some (enc (xs.foldl st (start a))) := by
  unfold check_More.f
  have e1 : Int.tmod (Int.tmod a 65536) 65521 = a % 65536 % 65521 := by
    rw [Int.tmod_eq_emod_of_nonneg (a := a) h0, Int.tmod_eq_emod_of_nonneg (by omega)]
  have e2 : ((Int.tdiv a 65536) % 4294967296) % 65521 = a / 65536 % 65521 := by
    rw [Int.tdiv_eq_ediv_of_nonneg h0, Int.emod_eq_of_lt (b := 4294967296) (by omega) (by omega)]
  rw [e1, e2]
  have := more_l0 xs hx hn xs.length k 0 _ _ (by omega) hk (good_start a)
  simpa [start] using this
theorem start_enc (a : Int × Int) (h : good a) : start (enc a) = a := by
  obtain ⟨l, g⟩ := a
  unfold good at h
  unfold start enc
  dsimp only at *
  rw [Prod.mk.injEq]
  omega
theorem enc_range (a : Int × Int) (h : good a) : 0 ≤ enc a ∧ enc a ≤ 4294967295 := by
  unfold good at h
  unfold enc
  omega
theorem sum_f (xs : List Int) (hx : ∀ x ∈ xs, 0 ≤ x ∧ x ≤ 255) (hn : xs.length ≤ 140737488351232) (k : Nat) (hk : xs.length < k) :
    check_Sum.f k xs = some (enc (xs.foldl st (1, 0))) := by
  unfold check_Sum.f check_Start.f
  simp only [Option.bind_some]
  rw [more_f xs hx hn 1 (by omega) (by omega) k hk]
  rfl
theorem alive_f (k : Nat) (hk : 3 < k) : postbaglaw04_alive.f k = some true := by
  unfold postbaglaw04_alive.f
  rw [sum_f _ (by decide) (by decide) k (by simpa using hk)]
  rfl
theorem CheckPieces : postbaglaw04_CheckPieces.Pure := by
  intro xs ys _ hl hw _ hl' hw'
  have hx : ∀ x ∈ xs, 0 ≤ x ∧ x ≤ 255 := fun x h => bounds_u8 (hw x h)
  have hy : ∀ x ∈ ys, 0 ≤ x ∧ x ≤ 255 := fun x h => bounds_u8 (hw' x h)
  have hxy : ∀ x ∈ xs ++ ys, 0 ≤ x ∧ x ≤ 255 := fun x h => by
    rcases List.mem_append.1 h with h | h
    · exact hx x h
    · exact hy x h
  refine ⟨xs.length + ys.length + 5, ?_⟩
  unfold postbaglaw04_CheckPieces.f
  rw [alive_f _ (by omega)]
  simp only [Option.bind_some, if_true]
  by_cases h : (xs.length : Int) > 20000
  · rw [if_pos h]
    simp [postbaglaw04_CheckPieces.j0]
  · rw [if_neg h]
    by_cases h2 : (ys.length : Int) > 20000
    · simp [postbaglaw04_CheckPieces.j0, h2]
    · have hd : decide ((ys.length : Int) > 20000) = false := decide_eq_false h2
      have g1 : good (1, 0) := by unfold good; omega
      have gx := good_fold xs _ g1
      have rx := enc_range _ gx
      have hs : check_Sum.f (xs.length + ys.length + 4) ([] : List Int) = some (enc (1, 0)) := sum_f [] (by simp) (by simp) _ (by simp)
      rw [hd]
      simp only [postbaglaw04_CheckPieces.j0, Bool.false_eq_true, if_false, Option.bind_some, List.nil_append, List.length_nil, Nat.zero_add]
      rw [sum_f xs hx (by omega) _ (by omega)]
      simp only [Option.bind_some]
      rw [more_f ys hy (by omega) _ rx.1 rx.2 _ (by omega)]
      simp only [Option.bind_some]
      rw [if_pos (by omega), if_pos (by omega), sum_f (xs ++ ys) hxy (by rw [List.length_append]; omega) _ (by rw [List.length_append]; omega)]
      simp only [Option.bind_some]
      rw [start_enc _ gx, List.foldl_append, if_pos rfl, hs]
      rfl

end Go.Proofs.Ythlofokgbogndaa.Pure
