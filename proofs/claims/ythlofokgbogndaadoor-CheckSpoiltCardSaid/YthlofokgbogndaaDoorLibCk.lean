/- Plain facts on the check chapter's functions: what sums, records and takes compute on lists of bytes. -/
import Derived.Test.YthlofokgbogndaaDoorGCheckx
import Derived.OpenShut
namespace Go.Proofs.YthlofokgbogndaaDoor.Lib04
open Go.RowKit Go.Proofs.YthlofokgbogndaaDoor.GCheck Go.Proofs.YthlofokgbogndaaDoorW.PrintWords Go.Proofs.YthlofokgbogndaaDoorW.PrintLast

theorem wrap_up {i : Int} {n : Nat} (h0 : 0 ≤ i) (h : i < (n : Int)) (hn : n ≤ 140737488351232) : wrap64 (i + 1) = i + 1 := by
  unfold wrap64
  omega

/-- One byte more. -/
def st (a : Int × Int) (x : Int) : Int × Int := ((a.1 + x) % 65521, (a.2 + (a.1 + x) % 65521) % 65521)
def enc (a : Int × Int) : Int := a.2 * 65536 + a.1
def good (a : Int × Int) : Prop := 0 ≤ a.1 ∧ a.1 < 65521 ∧ 0 ≤ a.2 ∧ a.2 < 65521
theorem good_st (a : Int × Int) (x : Int) : good (st a x) := by
  unfold good st
  dsimp only
  omega
theorem good_fold (xs : List Int) : ∀ a, good a → good (xs.foldl st a) := by
  induction xs with
  | nil => exact fun a h => h
  | cons x xs ih => exact fun a _ => ih _ (good_st a x)

theorem rd_at (xs : List Int) (i : Nat) (h : i < xs.length) : rd xs (i : Int) = xs[i] := by
  unfold rd
  simp [List.getD_eq_getElem?_getD, h]

theorem more_l0 (xs : List Int) (hx : ∀ x ∈ xs, 0 ≤ x ∧ x ≤ 255) (hn : xs.length ≤ 140737488351232) (d : Nat) : ∀ (k i : Nat) (l h : Int), i + d = xs.length → d < k → good (l, h) →
    check_More.l0 k l h xs (xs.length : Int) (i : Int) = some (enc ((xs.drop i).foldl st (l, h))) := by
  induction d with
  | zero =>
    intro k i l h hi hk hg
    obtain ⟨k, rfl⟩ : ∃ m, k = m + 1 := ⟨k - 1, by omega⟩
    simp only [check_More.l0]
    rw [if_neg (by omega), List.drop_eq_nil_of_le (by omega)]
    unfold good at hg
    simp only [List.foldl_nil, enc]
    congr 1
    dsimp only at hg
    omega
  | succ d ih =>
    intro k i l h hi hk hg
    obtain ⟨k, rfl⟩ : ∃ m, k = m + 1 := ⟨k - 1, by omega⟩
    have hlt : i < xs.length := by omega
    have hb := hx xs[i] (List.getElem_mem hlt)
    have h1 : ((l + ((rd xs i) % 4294967296)) % 4294967296) % 65521 = (l + xs[i]) % 65521 := by
      rw [rd_at xs i hlt]
      unfold good at hg
      dsimp only at hg
      omega
    have h2 : ((h + (l + xs[i]) % 65521) % 4294967296) % 65521 = (h + (l + xs[i]) % 65521) % 65521 := by
      unfold good at hg
      dsimp only at hg
      omega
    simp only [check_More.l0]
    rw [if_pos (by omega), if_pos (by omega), if_pos (by omega), wrap_up (n := xs.length) (by omega) (by omega) hn, h1, h2]
    have hi1 : ((i : Int) + 1) = ((i + 1 : Nat) : Int) := by omega
    rw [hi1, ih k (i + 1) _ _ (by omega) (by omega) (good_st (l, h) xs[i]), List.drop_eq_getElem_cons hlt]
    rfl

def start (a : Int) : Int × Int := (a % 65536 % 65521, a / 65536 % 65521)
theorem good_start (a : Int) : good (start a) := by
  unfold good start
  dsimp only
  omega
theorem more_f (xs : List Int) (hx : ∀ x ∈ xs, 0 ≤ x ∧ x ≤ 255) (hn : xs.length ≤ 140737488351232) (a : Int) (h0 : 0 ≤ a) (h1 : a ≤ 4294967295) (k : Nat) (hk : xs.length < k) :
    check_More.f k a xs = some (enc (xs.foldl st (start a))) := by
  unfold check_More.f
  have e1 : Int.tmod (Int.tmod a 65536) 65521 = a % 65536 % 65521 := by
    rw [Int.tmod_eq_emod_of_nonneg (a := a) h0, Int.tmod_eq_emod_of_nonneg (by omega)]
  have e2 : ((Int.tdiv a 65536) % 4294967296) % 65521 = a / 65536 % 65521 := by
    rw [Int.tdiv_eq_ediv_of_nonneg h0, Int.emod_eq_of_lt (b := 4294967296) (by omega) (by omega)]
  rw [e1, e2]
  have := more_l0 xs hx hn xs.length k 0 _ _ (by omega) hk (good_start a)
  simpa [start] using this
theorem start_enc (a : Int × Int) (h : good a) : start (enc a) = a := by
  obtain ⟨l, g⟩ := a
  unfold good at h
  unfold start enc
  dsimp only at *
  rw [Prod.mk.injEq]
  omega
theorem enc_range (a : Int × Int) (h : good a) : 0 ≤ enc a ∧ enc a ≤ 4294967295 := by
  unfold good at h
  unfold enc
  omega
theorem sum_f (xs : List Int) (hx : ∀ x ∈ xs, 0 ≤ x ∧ x ≤ 255) (hn : xs.length ≤ 140737488351232) (k : Nat) (hk : xs.length < k) :
    check_Sum.f k xs = some (enc (xs.foldl st (1, 0))) := by
  unfold check_Sum.f check_Start.f
  simp only [Option.bind_some]
  rw [more_f xs hx hn 1 (by omega) (by omega) k hk]
  rfl
theorem alive_f (k : Nat) (hk : 3 < k) : postbaglaw04_alive.f k = some true := by
  unfold postbaglaw04_alive.f
  rw [sum_f _ (by decide) (by decide) k (by simpa using hk)]
  rfl
theorem wraps_u32 (n : Int) (h₀ : 0 ≤ n) (h₁ : n < 2 ^ 32) : IntKind.u32.wrap n = n := by rw [IntKind.wrap_u32]; omega
theorem bits_low (a : Int) (h0 : 0 ≤ a) (h1 : a ≤ 4294967295) : Go.bits .and .u32 a 65535 = a % 65536 :=
  bits_mask .u32 32 (by decide) wraps_u32 16 (by decide) a h0 (by omega)

/-- The state of the document's sum at place i: what is still to come of it is in the high one. -/
theorem ref_l0 (xs : List Int) (hx : ∀ x ∈ xs, 0 ≤ x ∧ x ≤ 255) (hn : xs.length ≤ 20000) (d : Nat) : ∀ (k i : Nat) (l h g : Int), i + d = xs.length → d < k → good (l, h) → g = (h + l * d) % 65521 →
    postbagref04_More.l0 k l g (xs.length : Int) xs (xs.length : Int) (i : Int) = some (enc ((xs.drop i).foldl st (l, h))) := by
  induction d with
  | zero =>
    intro k i l h g hi hk hg hr
    obtain ⟨k, rfl⟩ : ∃ m, k = m + 1 := ⟨k - 1, by omega⟩
    simp only [postbagref04_More.l0]
    rw [if_neg (by omega), List.drop_eq_nil_of_le (by omega)]
    unfold good at hg
    simp only [List.foldl_nil, enc]
    congr 1
    dsimp only at hg
    simp at hr
    omega
  | succ d ih =>
    intro k i l h g hi hk hg hr
    obtain ⟨k, rfl⟩ : ∃ m, k = m + 1 := ⟨k - 1, by omega⟩
    have hlt : i < xs.length := by omega
    have hb := hx xs[i] (List.getElem_mem hlt)
    unfold good at hg
    dsimp only at hg
    have hg0 : 0 ≤ g ∧ g < 65521 := by rw [hr]; omega
    have hrd := rd_at xs i hlt
    have w1 : wrap64 xs[i] = xs[i] := by unfold wrap64; omega
    have h1 : Int.tmod (wrap64 (l + xs[i])) 65521 = (l + xs[i]) % 65521 := by
      have : wrap64 (l + xs[i]) = l + xs[i] := by unfold wrap64; omega
      rw [this, Int.tmod_eq_emod_of_nonneg (by omega)]
    have h2 : Int.tmod (wrap64 ((xs.length : Int) - i)) 65521 = (xs.length : Int) - i := by
      have : wrap64 ((xs.length : Int) - i) = (xs.length : Int) - i := by unfold wrap64; omega
      rw [this, Int.tmod_eq_emod_of_nonneg (by omega)]
      omega
    have hm0 : 0 ≤ xs[i] * ((xs.length : Int) - i) := Int.mul_nonneg (by omega) (by omega)
    have hm1 : xs[i] * ((xs.length : Int) - i) ≤ 255 * 20000 := Int.mul_le_mul (by omega) (by omega) (by omega) (by omega)
    have h3 : Int.tmod (wrap64 (g + wrap64 (xs[i] * ((xs.length : Int) - i)))) 65521 = (g + xs[i] * ((xs.length : Int) - i)) % 65521 := by
      generalize xs[i] * ((xs.length : Int) - i) = m at *
      have : wrap64 m = m := by unfold wrap64; omega
      rw [this]
      have : wrap64 (g + m) = g + m := by unfold wrap64; omega
      rw [this, Int.tmod_eq_emod_of_nonneg (by omega)]
    simp only [postbagref04_More.l0]
    rw [if_pos (by omega), if_pos (by omega), if_pos (by omega), hrd, w1, h1, h2, h3, wrap_up (n := xs.length) (by omega) (by omega) (by omega)]
    have hi1 : ((i : Int) + 1) = ((i + 1 : Nat) : Int) := by omega
    have key : (g + xs[i] * ((xs.length : Int) - i)) % 65521 = ((h + (l + xs[i]) % 65521) % 65521 + (l + xs[i]) % 65521 * (d : Int)) % 65521 := by
      have hd : (xs.length : Int) - i = (d : Int) + 1 := by omega
      rw [hd, hr]
      generalize xs[i] = x
      have q1 := Int.mul_ediv_add_emod (l + x) 65521
      have q2 := Int.mul_ediv_add_emod (h + (l + x) % 65521) 65521
      have q3 := Int.mul_ediv_add_emod (h + l * ((d + 1 : Nat) : Int)) 65521
      generalize (l + x) % 65521 = r1 at *
      generalize (h + r1) % 65521 = r2 at *
      generalize (h + l * ((d + 1 : Nat) : Int)) % 65521 = r3 at *
      generalize (l + x) / 65521 = q1' at *
      generalize (h + r1) / 65521 = q2' at *
      generalize (h + l * ((d + 1 : Nat) : Int)) / 65521 = q3' at *
      rw [Int.emod_eq_emod_iff_emod_sub_eq_zero]
      have hd1 : ((d + 1 : Nat) : Int) = (d : Int) + 1 := by omega
      rw [hd1] at q3
      have : r3 + x * ((d : Int) + 1) - (r2 + r1 * (d : Int)) = 65521 * (q1' + q2' + q1' * (d : Int) - q3') := by
        clear hr hg hb hrd w1 h1 h2 hm0 hm1 h3 hd hi ih hx hn hlt hg0 hk
        grind
      rw [this]
      exact Int.mul_emod_right _ _
    rw [hi1, ih k (i + 1) _ _ _ (by omega) (by omega) (good_st (l, h) xs[i]) key, List.drop_eq_getElem_cons hlt]
    rfl

theorem ref_f (xs : List Int) (hx : ∀ x ∈ xs, 0 ≤ x ∧ x ≤ 255) (hn : xs.length ≤ 20000) (a : Int) (h0 : 0 ≤ a) (h1 : a ≤ 4294967295) (k : Nat) (hk : xs.length < k) :
    postbagref04_More.f k a xs = some (enc (xs.foldl st (start a))) := by
  unfold postbagref04_More.f
  have e0 : Go.bits .and .u32 a 65535 = a % 65536 := bits_low a h0 h1
  have e1 : Int.tmod (wrap64 (a % 65536)) 65521 = a % 65536 % 65521 := by
    have : wrap64 (a % 65536) = a % 65536 := by unfold wrap64; omega
    rw [this, Int.tmod_eq_emod_of_nonneg (by omega)]
  have e2 : Int.tmod (wrap64 (a / 65536)) 65521 = a / 65536 % 65521 := by
    have : wrap64 (a / 65536) = a / 65536 := by unfold wrap64; omega
    rw [this, Int.tmod_eq_emod_of_nonneg (by omega)]
  have hg := good_start a
  have e3 : Int.tmod (wrap64 (a / 65536 % 65521 + wrap64 (a % 65536 % 65521 * ((xs.length : Int) % 65521)))) 65521 = (a / 65536 % 65521 + a % 65536 % 65521 * (xs.length : Int)) % 65521 := by
    have hl : (xs.length : Int) % 65521 = xs.length := by omega
    rw [hl]
    have hm0 : 0 ≤ a % 65536 % 65521 * (xs.length : Int) := Int.mul_nonneg (by omega) (by omega)
    have hm1 : a % 65536 % 65521 * (xs.length : Int) ≤ 65521 * 20000 := Int.mul_le_mul (by omega) (by omega) (by omega) (by omega)
    generalize a % 65536 % 65521 * (xs.length : Int) = m at *
    have : wrap64 m = m := by unfold wrap64; omega
    rw [this]
    have : wrap64 (a / 65536 % 65521 + m) = a / 65536 % 65521 + m := by unfold wrap64; omega
    rw [this, Int.tmod_eq_emod_of_nonneg (by omega)]
  rw [e0, e1, e2, e3]
  have := ref_l0 xs hx hn xs.length k 0 (start a).1 (start a).2 _ (by omega) hk hg rfl
  simpa [start] using this

/-! ### numbers of four bytes -/
def isB (l : List Int) : Prop := ∀ x ∈ l, 0 ≤ x ∧ x ≤ 255
theorem isB_drop {l : List Int} (h : isB l) (n : Nat) : isB (l.drop n) := fun x hx => h x (List.mem_of_mem_drop hx)
theorem isB_take {l : List Int} (h : isB l) (n : Nat) : isB (l.take n) := fun x hx => h x (List.mem_of_mem_take hx)
theorem isB_append {a b : List Int} (ha : isB a) (hb : isB b) : isB (a ++ b) := fun x hx => by
  rcases List.mem_append.1 hx with h | h
  · exact ha x h
  · exact hb x h
def val4 (l : List Int) : Int := l.getD 0 0 * 16777216 + l.getD 1 0 * 65536 + l.getD 2 0 * 256 + l.getD 3 0
theorem getD_B {l : List Int} (h : isB l) (i : Nat) : 0 ≤ l.getD i 0 ∧ l.getD i 0 ≤ 255 := by
  rw [List.getD_eq_getElem?_getD]
  cases e : l[i]? with
  | none => simp
  | some v =>
    simp only [Option.getD_some]
    exact h v (List.mem_of_getElem? e)
theorem val4_range {l : List Int} (h : isB l) : 0 ≤ val4 l ∧ val4 l ≤ 4294967295 := by
  have h0 := getD_B h 0
  have h1 := getD_B h 1
  have h2 := getD_B h 2
  have h3 := getD_B h 3
  unfold val4
  omega
theorem number_f {l : List Int} (h : isB l) (hl : 4 ≤ l.length) : check_number.f l = some (val4 l) := by
  have h0 := getD_B h 0
  have h1 := getD_B h 1
  have h2 := getD_B h 2
  have h3 := getD_B h 3
  unfold check_number.f
  rw [if_pos (by omega), if_pos (by omega), if_pos (by omega), if_pos (by omega)]
  unfold rd val4
  simp only [show (0 : Int).toNat = 0 from rfl, show (1 : Int).toNat = 1 from rfl, show (2 : Int).toNat = 2 from rfl, show (3 : Int).toNat = 3 from rfl]
  generalize l.getD 0 0 = a at *
  generalize l.getD 1 0 = b at *
  generalize l.getD 2 0 = c at *
  generalize l.getD 3 0 = d at *
  have e1 : a % 4294967296 * 16777216 % 4294967296 = a * 16777216 := by omega
  have e2 : b % 4294967296 * 65536 % 4294967296 = b * 65536 := by omega
  have e3 : c % 4294967296 * 256 % 4294967296 = c * 256 := by omega
  have e4 : d % 4294967296 = d := by omega
  rw [e1, e2, e3, e4]
  rw [bits_join .u32 32 (by decide) wraps_u32 24 (a * 16777216) (b * 65536) (by omega) (by omega) (by omega) (by omega) (by omega) (by omega)]
  rw [bits_join .u32 32 (by decide) wraps_u32 16 (a * 16777216 + b * 65536) (c * 256) (by omega) (by omega) (by omega) (by omega) (by omega) (by omega)]
  rw [bits_join .u32 32 (by decide) wraps_u32 8 (a * 16777216 + b * 65536 + c * 256) d (by omega) (by omega) (by omega) (by omega) (by omega) (by omega)]
def four (n : Int) : List Int := [(n / 16777216) % 256, (n / 65536) % 256, (n / 256) % 256, n % 256]
theorem four_B (n : Int) : isB (four n) := by
  intro x hx
  simp only [four, List.mem_cons, List.not_mem_nil, or_false] at hx
  omega
theorem four_len (n : Int) : (four n).length = 4 := rfl
theorem val4_four (n : Int) (h0 : 0 ≤ n) (h1 : n ≤ 4294967295) (l : List Int) : val4 (four n ++ l) = n := by
  simp [val4, four]
  omega

/-! ### records -/
def sumS (l : List Int) : Int := enc (l.foldl st (1, 0))
theorem sumS_range (l : List Int) : 0 ≤ sumS l ∧ sumS l ≤ 4294967295 := enc_range _ (good_fold l _ (by unfold good; omega))
def recS (x : List Int) : List Int := four x.length ++ (four (sumS x) ++ x)
theorem recS_len (x : List Int) : (recS x).length = x.length + 8 := by
  simp [recS, four_len]
  omega
theorem recS_B {x : List Int} (h : isB x) : isB (recS x) := isB_append (four_B _) (isB_append (four_B _) h)
theorem rmore_f {x : List Int} (h : isB x) (hn : x.length ≤ 20000) (k : Nat) (hk : x.length < k) : postbagref04_More.f k 1 x = some (sumS x) := by
  rw [ref_f x h hn 1 (by omega) (by omega) k hk]
  rfl
theorem record_f {x : List Int} (h : isB x) (hn : x.length ≤ 20000) (k : Nat) (hk : x.length < k) : postbagref04_Record.f k x = some (recS x) := by
  have hs := sumS_range x
  unfold postbagref04_Record.f postbagref04_four.f
  simp only [Option.bind_some]
  rw [rmore_f h hn k hk]
  simp only [Option.bind_some]
  rw [if_pos (by simp), if_pos (by simp), if_pos (by simp; omega)]
  have e : (x.length : Int) % 4294967296 = x.length := by omega
  rw [e]
  simp [recS, four]

/-- The whole record at the beginning, if there is one. -/
def wholeS (b : List Int) : Option Nat :=
  if 8 ≤ b.length ∧ val4 b ≤ 400000 ∧ val4 b ≤ (b.length : Int) - 8 ∧ sumS ((b.drop 8).take (val4 b).toNat) = val4 (b.drop 4) then some (val4 b).toNat else none
theorem mid_eq (b : List Int) (n : Int) (h0 : 0 ≤ n) : (b.take (8 + n).toNat).drop 8 = (b.drop 8).take n.toNat := by
  rw [List.drop_take]
  congr 1
  omega
theorem clone_f (l : List Int) (h : l.length < 140737488355328) : slices_Clone_byte_byte.f l = some l := by
  unfold slices_Clone_byte_byte.f
  rw [if_pos h]
theorem take_f {b : List Int} (h : isB b) (hn : b.length ≤ 140737488351232) (k : Nat) (hk : b.length < k) :
    check_Take.f k b = some (match wholeS b with | some n => ((b.drop 8).take n, b.drop (8 + n), true) | none => ([], [], false)) := by
  obtain ⟨k, rfl⟩ : ∃ m, k = m + 1 := ⟨k - 1, by omega⟩
  unfold check_Take.f wholeS
  by_cases c1 : (b.length : Int) < 8
  · rw [if_pos c1, if_neg (by omega)]
  · have hv := val4_range h
    have e8 : wrap64 ((b.length : Int) - 8) = (b.length : Int) - 8 := by unfold wrap64; omega
    have en : wrap64 (val4 b) = val4 b := by unfold wrap64; omega
    rw [if_neg c1, number_f h (by omega)]
    simp only [Option.bind_some]
    rw [en, e8]
    by_cases c2 : val4 b > 400000
    · rw [if_pos c2, if_neg (by omega)]
      simp [check_Take.j0]
    · rw [if_neg c2]
      by_cases c3 : val4 b > (b.length : Int) - 8
      · rw [if_pos c3, if_neg (by omega)]
        simp [check_Take.j0]
      · have e9 : wrap64 (8 + val4 b) = 8 + val4 b := by unfold wrap64; omega
        have hml : ((b.drop 8).take (val4 b).toNat).length ≤ b.length := by simp; omega
        rw [if_neg c3, e9, if_pos (by omega), if_pos (by omega), mid_eq b _ hv.1, sum_f _ (isB_take (isB_drop h 8) _) (by omega) _ (by omega)]
        simp only [Option.bind_some]
        rw [if_pos (by omega), number_f (isB_drop h 4) (by simp; omega)]
        simp only [Option.bind_some]
        by_cases c4 : sumS ((b.drop 8).take (val4 b).toNat) = val4 (b.drop 4)
        · rw [if_pos ⟨by omega, by omega, by omega, c4⟩]
          unfold sumS at c4
          have hne : (enc (List.foldl st (1, 0) (List.take (val4 b).toNat (List.drop 8 b))) != val4 (List.drop 4 b)) = false := by rw [c4]; simp
          rw [hne]
          simp only [check_Take.j0, Bool.false_eq_true, if_false]
          rw [e9, if_pos (by omega), if_pos (by omega), mid_eq b _ hv.1, clone_f _ (by omega)]
          simp only [Option.bind_some]
          have e10 : (8 + val4 b).toNat = 8 + (val4 b).toNat := by omega
          rw [if_pos (by omega), clone_f _ (by simp; omega), e10]
          simp only [Option.bind_some]
        · rw [if_neg (fun hh => c4 hh.2.2.2)]
          have hne : (enc (List.foldl st (1, 0) (List.take (val4 b).toNat (List.drop 8 b))) != val4 (List.drop 4 b)) = true := by
            rw [bne_iff_ne]
            exact c4
          rw [hne]
          simp [check_Take.j0]
/-- A record is whole, whatever stands behind it. -/
theorem whole_rec {x : List Int} (hn : x.length ≤ 400000) (r : List Int) : wholeS (recS x ++ r) = some x.length := by
  have hs := sumS_range x
  have h1 : val4 (recS x ++ r) = x.length := by
    unfold recS
    rw [List.append_assoc, val4_four _ (by omega) (by omega)]
  have h2 : (recS x ++ r).drop 4 = four (sumS x) ++ (x ++ r) := by
    unfold recS
    rw [List.append_assoc, List.drop_left' (four_len _), List.append_assoc]
  have h3 : (recS x ++ r).drop 8 = x ++ r := by
    have : (8 : Nat) = 4 + 4 := rfl
    rw [this, ← List.drop_drop, h2, List.drop_left' (four_len _)]
  unfold wholeS
  rw [h1, h2, h3, val4_four _ hs.1 hs.2]
  rw [if_pos]
  · simp
  · refine ⟨by rw [List.length_append, recS_len]; omega, by omega, by rw [List.length_append, recS_len]; omega, ?_⟩
    simp
theorem rec_drop (x r : List Int) : (recS x ++ r).drop 8 = x ++ r := by
  have h2 : (recS x ++ r).drop 4 = four (sumS x) ++ (x ++ r) := by
    unfold recS
    rw [List.append_assoc, List.drop_left' (four_len _), List.append_assoc]
  have : (8 : Nat) = 4 + 4 := rfl
  rw [this, ← List.drop_drop, h2, List.drop_left' (four_len _)]
theorem crecord_f {x : List Int} (h : isB x) (hn : x.length ≤ 20000) (k : Nat) (hk : x.length < k) : check_Record.f k x = some (recS x, none) := by
  have hs := sumS_range x
  unfold check_Record.f check_four.f
  rw [if_pos (by omega), sum_f x h (by omega) k hk]
  simp only [Option.bind_some]
  have e : (x.length : Int) % 4294967296 = x.length := by omega
  rw [e]
  have hc : slices_Concat_byte_byte.f [four (x.length : Int), four (sumS x), x] = some (recS x) := by
    unfold slices_Concat_byte_byte.f
    rw [if_pos (by simp [four_len]; omega)]
    simp [recS]
  have e1 : ([((x.length : Int) / 16777216) % 256, ((x.length : Int) / 65536) % 256, ((x.length : Int) / 256) % 256, (x.length : Int) % 256] : List Int) = four (x.length : Int) := rfl
  have e2 : ([(enc (List.foldl st (1, 0) x) / 16777216) % 256, (enc (List.foldl st (1, 0) x) / 65536) % 256, (enc (List.foldl st (1, 0) x) / 256) % 256, enc (List.foldl st (1, 0) x) % 256] : List Int) = four (sumS x) := rfl
  rw [e1, e2, hc]
  rfl

end Go.Proofs.YthlofokgbogndaaDoor.Lib04
