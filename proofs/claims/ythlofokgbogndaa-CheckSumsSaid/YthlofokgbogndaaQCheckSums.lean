/- CheckSums: the sum over bytes that the program computes is the document's, behind any sum. No condition. -/
import Derived.Test.YthlofokgbogndaaCCheckSums
import Derived.OpenShut
namespace Go.Proofs.Ythlofokgbogndaa.Pure
open Go.RowKit Go.Proofs.Ythlofokgbogndaa.PCheckSums Go.Proofs.YthlofokgbogndaaW.PrintWords Go.Proofs.YthlofokgbogndaaW.PrintLast

theorem wrap_up {i : Int} {n : Nat} (h0 : 0 ≤ i) (h : i < (n : Int)) (hn : n ≤ 140737488351232) : wrap64 (i + 1) = i + 1 := by
  unfold wrap64
  omega

/-- One byte more. -/
def st (a : Int × Int) (x : Int) : Int × Int := ((a.1 + x) % 65521, (a.2 + (a.1 + x) % 65521) % 65521)
def enc (a : Int × Int) : Int := a.2 * 65536 + a.1
def good (a : Int × Int) : Prop := 0 ≤ a.1 ∧ a.1 < 65521 ∧ 0 ≤ a.2 ∧ a.2 < 65521
theorem good_st (a : Int × Int) (x : Int) : good (st a x) := by
  unfold good st
  dsimp only
  omega
theorem good_fold (xs : List Int) : ∀ a, good a → good (xs.foldl st a) := by
  induction xs with
  | nil => exact fun a h => h
  | cons x xs ih => exact fun a _ => ih _ (good_st a x)

theorem rd_at (xs : List Int) (i : Nat) (h : i < xs.length) : rd xs (i : Int) = xs[i] := by
  unfold rd
  simp [List.getD_eq_getElem?_getD, h]

theorem more_l0 (xs : List Int) (hx : ∀ x ∈ xs, 0 ≤ x ∧ x ≤ 255) (hn : xs.length ≤ 140737488351232) (d : Nat) : ∀ (k i : Nat) (l h : Int), i + d = xs.length → d < k → good (l, h) →
    check_More.l0 k l h xs (xs.length : Int) (i : Int) = some (enc ((xs.drop i).foldl st (l, h))) := by
  induction d with
  | zero =>
    intro k i l h hi hk hg
    obtain ⟨k, rfl⟩ : ∃ m, k = m + 1 := ⟨k - 1, by omega⟩
    simp only [check_More.l0]
    rw [if_neg (by omega), List.drop_eq_nil_of_le (by omega)]
    unfold good at hg
    simp only [List.foldl_nil, enc]
    congr 1
    dsimp only at hg
    omega
  | succ d ih =>
    intro k i l h hi hk hg
    obtain ⟨k, rfl⟩ : ∃ m, k = m + 1 := ⟨k - 1, by omega⟩
    have hlt : i < xs.length := by omega
    have hb := hx xs[i] (List.getElem_mem hlt)
    have h1 : ((l + ((rd xs i) % 4294967296)) % 4294967296) % 65521 = (l + xs[i]) % 65521 := by
      rw [rd_at xs i hlt]
      unfold good at hg
      dsimp only at hg
      omega
    have h2 : ((h + (l + xs[i]) % 65521) % 4294967296) % 65521 = (h + (l + xs[i]) % 65521) % 65521 := by
      unfold good at hg
      dsimp only at hg
      omega
    simp only [check_More.l0]
    rw [if_pos (by omega), if_pos (by omega), if_pos (by omega), wrap_up (n := xs.length) (by omega) (by omega) hn, h1, h2]
    have hi1 : ((i : Int) + 1) = ((i + 1 : Nat) : Int) := by omega
    rw [hi1, ih k (i + 1) _ _ (by omega) (by omega) (good_st (l, h) xs[i]), List.drop_eq_getElem_cons hlt]
    rfl

def start (a : Int) : Int × Int := (a % 65536 % 65521, a / 65536 % 65521)
theorem good_start (a : Int) : good (start a) := by
  unfold good start
  dsimp only
  omega
theorem more_f (xs : List Int) (hx : ∀ x ∈ xs, 0 ≤ x ∧ x ≤ 255) (hn : xs.length ≤ 140737488351232) (a : Int) (h0 : 0 ≤ a) (h1 : a ≤ 4294967295) (k : Nat) (hk : xs.length < k) :
    check_More.f k a xs = some (enc (xs.foldl st (start a))) := by
  unfold check_More.f
  have e1 : Int.tmod (Int.tmod a 65536) 65521 = a % 65536 % 65521 := by
    rw [Int.tmod_eq_emod_of_nonneg (a := a) h0, Int.tmod_eq_emod_of_nonneg (by omega)]
  have e2 : ((Int.tdiv a 65536) % 4294967296) % 65521 = a / 65536 % 65521 := by
    rw [Int.tdiv_eq_ediv_of_nonneg h0, Int.emod_eq_of_lt (b := 4294967296) (by omega) (by omega)]
  rw [e1, e2]
  have := more_l0 xs hx hn xs.length k 0 _ _ (by omega) hk (good_start a)
  simpa [start] using this
theorem start_enc (a : Int × Int) (h : good a) : start (enc a) = a := by
  obtain ⟨l, g⟩ := a
  unfold good at h
  unfold start enc
  dsimp only at *
  rw [Prod.mk.injEq]
  omega
theorem enc_range (a : Int × Int) (h : good a) : 0 ≤ enc a ∧ enc a ≤ 4294967295 := by
  unfold good at h
  unfold enc
  omega
theorem sum_f (xs : List Int) (hx : ∀ x ∈ xs, 0 ≤ x ∧ x ≤ 255) (hn : xs.length ≤ 140737488351232) (k : Nat) (hk : xs.length < k) :
    check_Sum.f k xs = some (enc (xs.foldl st (1, 0))) := by
  unfold check_Sum.f check_Start.f
  simp only [Option.bind_some]
  rw [more_f xs hx hn 1 (by omega) (by omega) k hk]
  rfl
theorem alive_f (k : Nat) (hk : 3 < k) : postbaglaw04_alive.f k = some true := by
  unfold postbaglaw04_alive.f
  rw [sum_f _ (by decide) (by decide) k (by simpa using hk)]
  rfl
theorem wraps_u32 (n : Int) (h₀ : 0 ≤ n) (h₁ : n < 2 ^ 32) : IntKind.u32.wrap n = n := by rw [IntKind.wrap_u32]; omega
theorem bits_low (a : Int) (h0 : 0 ≤ a) (h1 : a ≤ 4294967295) : Go.bits .and .u32 a 65535 = a % 65536 :=
  bits_mask .u32 32 (by decide) wraps_u32 16 (by decide) a h0 (by omega)

/-- The state of the document's sum at place i: what is still to come of it is in the high one. -/
theorem ref_l0 (xs : List Int) (hx : ∀ x ∈ xs, 0 ≤ x ∧ x ≤ 255) (hn : xs.length ≤ 20000) (d : Nat) : ∀ (k i : Nat) (l h g : Int), i + d = xs.length → d < k → good (l, h) → g = (h + l * d) % 65521 →
    postbagref04_More.l0 k l g (xs.length : Int) xs (xs.length : Int) (i : Int) = some (enc ((xs.drop i).foldl st (l, h))) := by
  induction d with
  | zero =>
    intro k i l h g hi hk hg hr
    obtain ⟨k, rfl⟩ : ∃ m, k = m + 1 := ⟨k - 1, by omega⟩
    simp only [postbagref04_More.l0]
    rw [if_neg (by omega), List.drop_eq_nil_of_le (by omega)]
    unfold good at hg
    simp only [List.foldl_nil, enc]
    congr 1
    dsimp only at hg
    simp at hr
    omega
  | succ d ih =>
    intro k i l h g hi hk hg hr
    obtain ⟨k, rfl⟩ : ∃ m, k = m + 1 := ⟨k - 1, by omega⟩
    have hlt : i < xs.length := by omega
    have hb := hx xs[i] (List.getElem_mem hlt)
    unfold good at hg
    dsimp only at hg
    have hg0 : 0 ≤ g ∧ g < 65521 := by rw [hr]; omega
    have hrd := rd_at xs i hlt
    have w1 : wrap64 xs[i] = xs[i] := by unfold wrap64; omega
    have h1 : Int.tmod (wrap64 (l + xs[i])) 65521 = (l + xs[i]) % 65521 := by
      have : wrap64 (l + xs[i]) = l + xs[i] := by unfold wrap64; omega
      rw [this, Int.tmod_eq_emod_of_nonneg (by omega)]
    have h2 : Int.tmod (wrap64 ((xs.length : Int) - i)) 65521 = (xs.length : Int) - i := by
      have : wrap64 ((xs.length : Int) - i) = (xs.length : Int) - i := by unfold wrap64; omega
      rw [this, Int.tmod_eq_emod_of_nonneg (by omega)]
      omega
    have hm0 : 0 ≤ xs[i] * ((xs.length : Int) - i) := Int.mul_nonneg (by omega) (by omega)
    have hm1 : xs[i] * ((xs.length : Int) - i) ≤ 255 * 20000 := Int.mul_le_mul (by omega) (by omega) (by omega) (by omega)
    have h3 : Int.tmod (wrap64 (g + wrap64 (xs[i] * ((xs.length : Int) - i)))) 65521 = (g + xs[i] * ((xs.length : Int) - i)) % 65521 := by
      generalize xs[i] * ((xs.length : Int) - i) = m at *
      have : wrap64 m = m := by unfold wrap64; omega
      rw [this]
      have : wrap64 (g + m) = g + m := by unfold wrap64; omega
      rw [this, Int.tmod_eq_emod_of_nonneg (by omega)]
    simp only [postbagref04_More.l0]
    rw [if_pos (by omega), if_pos (by omega), if_pos (by omega), hrd, w1, h1, h2, h3, wrap_up (n := xs.length) (by omega) (by omega) (by omega)]
    have hi1 : ((i : Int) + 1) = ((i + 1 : Nat) : Int) := by omega
    have key : (g + xs[i] * ((xs.length : Int) - i)) % 65521 = ((h + (l + xs[i]) % 65521) % 65521 + (l + xs[i]) % 65521 * (d : Int)) % 65521 := by
      have hd : (xs.length : Int) - i = (d : Int) + 1 := by omega
      rw [hd, hr]
      generalize xs[i] = x
      have q1 := Int.mul_ediv_add_emod (l + x) 65521
      have q2 := Int.mul_ediv_add_emod (h + (l + x) % 65521) 65521
      have q3 := Int.mul_ediv_add_emod (h + l * ((d + 1 : Nat) : Int)) 65521
      generalize (l + x) % 65521 = r1 at *
      generalize (h + r1) % 65521 = r2 at *
      generalize (h + l * ((d + 1 : Nat) : Int)) % 65521 = r3 at *
      generalize (l + x) / 65521 = q1' at *
      generalize (h + r1) / 65521 = q2' at *
      generalize (h + l * ((d + 1 : Nat) : Int)) / 65521 = q3' at *
      rw [Int.emod_eq_emod_iff_emod_sub_eq_zero]
      have hd1 : ((d + 1 : Nat) : Int) = (d : Int) + 1 := by omega
      rw [hd1] at q3
      have : r3 + x * ((d : Int) + 1) - (r2 + r1 * (d : Int)) = 65521 * (q1' + q2' + q1' * (d : Int) - q3') := by
        clear hr hg hb hrd w1 h1 h2 hm0 hm1 h3 hd hi ih hx hn hlt hg0 hk
        grind
      rw [this]
      exact Int.mul_emod_right _ _
    rw [hi1, ih k (i + 1) _ _ _ (by omega) (by omega) (good_st (l, h) xs[i]) key, List.drop_eq_getElem_cons hlt]
    rfl

theorem ref_f (xs : List Int) (hx : ∀ x ∈ xs, 0 ≤ x ∧ x ≤ 255) (hn : xs.length ≤ 20000) (a : Int) (h0 : 0 ≤ a) (h1 : a ≤ 4294967295) (k : Nat) (hk : xs.length < k) :
    postbagref04_More.f k a xs = some (enc (xs.foldl st (start a))) := by
  unfold postbagref04_More.f
  have e0 : Go.bits .and .u32 a 65535 = a % 65536 := bits_low a h0 h1
  have e1 : Int.tmod (wrap64 (a % 65536)) 65521 = a % 65536 % 65521 := by
    have : wrap64 (a % 65536) = a % 65536 := by unfold wrap64; omega
    rw [this, Int.tmod_eq_emod_of_nonneg (by omega)]
  have e2 : Int.tmod (wrap64 (a / 65536)) 65521 = a / 65536 % 65521 := by
    have : wrap64 (a / 65536) = a / 65536 := by unfold wrap64; omega
    rw [this, Int.tmod_eq_emod_of_nonneg (by omega)]
  have hg := good_start a
  have e3 : Int.tmod (wrap64 (a / 65536 % 65521 + wrap64 (a % 65536 % 65521 * ((xs.length : Int) % 65521)))) 65521 = (a / 65536 % 65521 + a % 65536 % 65521 * (xs.length : Int)) % 65521 := by
    have hl : (xs.length : Int) % 65521 = xs.length := by omega
    rw [hl]
    have hm0 : 0 ≤ a % 65536 % 65521 * (xs.length : Int) := Int.mul_nonneg (by omega) (by omega)
    have hm1 : a % 65536 % 65521 * (xs.length : Int) ≤ 65521 * 20000 := Int.mul_le_mul (by omega) (by omega) (by omega) (by omega)
    generalize a % 65536 % 65521 * (xs.length : Int) = m at *
    have : wrap64 m = m := by unfold wrap64; omega
    rw [this]
    have : wrap64 (a / 65536 % 65521 + m) = a / 65536 % 65521 + m := by unfold wrap64; omega
    rw [this, Int.tmod_eq_emod_of_nonneg (by omega)]
  rw [e0, e1, e2, e3]
  have := ref_l0 xs hx hn xs.length k 0 (start a).1 (start a).2 _ (by omega) hk hg rfl
  simpa [start] using this

theorem CheckSums : postbaglaw04_CheckSums.Pure := by
  intro a xs ha _ hl hw
  have hx : ∀ x ∈ xs, 0 ≤ x ∧ x ≤ 255 := fun x h => bounds_u8 (hw x h)
  have hb := bounds_u32 ha
  refine ⟨xs.length + 4, ?_⟩
  unfold postbaglaw04_CheckSums.f
  rw [alive_f _ (by omega)]
  simp only [Option.bind_some, if_true]
  by_cases h : (xs.length : Int) > 20000
  · rw [if_pos h]
  · rw [if_neg h, more_f xs hx (by omega) a hb.1 hb.2 _ (by omega), ref_f xs hx (by omega) a hb.1 hb.2 _ (by omega), sum_f xs hx (by omega) _ (by omega), ref_f xs hx (by omega) 1 (by omega) (by omega) _ (by omega)]
    simp [start]

end Go.Proofs.Ythlofokgbogndaa.Pure
