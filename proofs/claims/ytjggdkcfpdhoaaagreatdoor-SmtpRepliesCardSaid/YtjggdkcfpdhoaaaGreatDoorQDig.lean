/- postbagref10.Digits is the decimal numeral. -/
import Derived.Test.YtjggdkcfpdhoaaaGreatDoorQRef4
import Derived.Lib.ItoaNum
namespace Go.Proofs.YtjggdkcfpdhoaaaGreatDoor.QDig
open Go Go.RowKit Go.Proofs.YtjggdkcfpdhoaaaGreatDoorW.PrintWords Go.Proofs.YtjggdkcfpdhoaaaGreatDoor.GSmtp Go.Proofs.YtjggdkcfpdhoaaaGreatDoor.QRef3 Go.Proofs.YtjggdkcfpdhoaaaGreatDoor.QRef4
set_option linter.unusedVariables false
set_option linter.unusedSimpArgs false
def decB (n : Nat) : ByteArray := ⟨(Lib.decDigits n).toArray⟩
theorem str_one (x : Nat) (h : x < 10) : strOfNums [((48 + x : Nat) : Int)] = ⟨#[UInt8.ofNat (48 + x)]⟩ := by
  rw [strOfNums, List.map_cons, List.map_nil, Int.toNat_natCast]
theorem l0_big (k n : Nat) (t R : ByteArray) (h10 : ¬ n < 10) (h9 : n ≤ 9223372036854775807) (hz : 1 + t.size ≤ 9223372036854775807)
    (hk : postbagref10_Digits.l0 k ((n / 10 : Nat) : Int) ((⟨#[UInt8.ofNat (48 + n % 10)]⟩ : ByteArray) ++ t) = some R) : postbagref10_Digits.l0 (k + 1) (n : Int) t = some R := by
  have r1 : Int.tmod (n : Int) 10 = ((n % 10 : Nat) : Int) := by
    rw [Int.tmod_eq_emod_of_nonneg (by omega)]; omega
  have d1 : wrap64 (Int.tdiv (n : Int) 10) = ((n / 10 : Nat) : Int) := by
    rw [Int.tdiv_eq_ediv_of_nonneg (by omega)]
    unfold wrap64; omega
  have e1 : (wrap64 (48 + (Int.tmod (n : Int) 10))) % 256 = ((48 + n % 10 : Nat) : Int) := by rw [r1]; unfold wrap64; omega
  have e2 : strOfNums [(wrap64 (48 + (Int.tmod (n : Int) 10))) % 256] = ⟨#[UInt8.ofNat (48 + n % 10)]⟩ := by rw [e1, str_one _ (by omega)]
  have c1 : (n : Int) > 9 := by omega
  have c2 : (strOfNums [(wrap64 (48 + (Int.tmod (n : Int) 10))) % 256]).size + t.size ≤ 9223372036854775807 := by
    rw [e2]
    exact hz
  unfold postbagref10_Digits.l0
  rw [if_pos c1, Option.bind_some, if_pos c2, e2, d1]
  exact hk
theorem l0_small (n : Nat) (t : ByteArray) (h10 : n < 10) (hz : 1 + t.size ≤ 9223372036854775807) : postbagref10_Digits.l0 1 (n : Int) t = some ((⟨#[UInt8.ofNat (48 + n)]⟩ : ByteArray) ++ t) := by
  have e1 : (wrap64 (48 + (n : Int))) % 256 = ((48 + n : Nat) : Int) := by unfold wrap64; omega
  have e2 : strOfNums [(wrap64 (48 + (n : Int))) % 256] = ⟨#[UInt8.ofNat (48 + n)]⟩ := by rw [e1, str_one _ h10]
  have c1 : ¬ (n : Int) > 9 := by omega
  have c2 : (strOfNums [(wrap64 (48 + (n : Int))) % 256]).size + t.size ≤ 9223372036854775807 := by
    rw [e2]
    exact hz
  unfold postbagref10_Digits.l0
  rw [if_neg c1, Option.bind_some, if_pos c2, e2]
theorem digits_l0 : ∀ (m n : Nat) (t : ByteArray), n ≤ m → n ≤ 9223372036854775807 → t.size + Lib.nDigits n ≤ 1000000 → ∃ k, postbagref10_Digits.l0 k (n : Int) t = some (decB n ++ t) := by
  intro m
  induction m with
  | zero =>
    intro n t hn h9 hz
    obtain rfl : n = 0 := by omega
    rw [Lib.nDigits_small (by decide)] at hz
    have e3 : decB 0 = ⟨#[UInt8.ofNat (48 + 0)]⟩ := by rw [decB, Lib.decDigits_one (by decide)]
    exact ⟨1, by rw [e3]; exact l0_small 0 t (by decide) (by omega)⟩
  | succ m ih =>
    intro n t hn h9 hz
    by_cases h10 : n < 10
    · rw [Lib.nDigits_small h10] at hz
      have e3 : decB n = ⟨#[UInt8.ofNat (48 + n)]⟩ := by rw [decB, Lib.decDigits_one h10]
      exact ⟨1, by rw [e3]; exact l0_small n t h10 (by omega)⟩
    · have hnd := Lib.nDigits_big h10
      have hpos := Lib.nDigits_pos (n / 10)
      have hsz : ((⟨#[UInt8.ofNat (48 + n % 10)]⟩ : ByteArray) ++ t).size = 1 + t.size := by rw [ByteArray.size_append]; rfl
      obtain ⟨k, hk⟩ := ih (n / 10) (⟨#[UInt8.ofNat (48 + n % 10)]⟩ ++ t) (by omega) (by omega) (by rw [hsz]; omega)
      have hcat : decB (n / 10) ++ ((⟨#[UInt8.ofNat (48 + n % 10)]⟩ : ByteArray) ++ t) = decB n ++ t := by
        apply data_inj
        have h1 : ∀ a b : ByteArray, (a ++ b).data.toList = a.data.toList ++ b.data.toList := fun a b => by
          have : (a ++ b).data = a.data ++ b.data := ByteArray.data_append
          rw [this, Array.toList_append]
        rw [h1, h1, h1, decB, decB, Lib.decDigits.eq_def n, dif_neg h10]
        simp
      rw [hcat] at hk
      exact ⟨k + 1, l0_big k n t _ h10 h9 (by omega) hk⟩
theorem small_digits (n : Nat) (h : n ≤ 9223372036854775807) : Lib.nDigits n ≤ 19 := by
  rcases Nat.lt_or_ge 19 (Lib.nDigits n) with h1 | h1
  · exfalso
    have h2 := Lib.decDigits_length n
    obtain ⟨k, hk⟩ : ∃ k, Lib.nDigits n = k + 1 := ⟨Lib.nDigits n - 1, by omega⟩
    have h3 : 10 ^ k ≤ n := by
      rcases Nat.lt_or_ge n (10 ^ k) with h4 | h4
      · exfalso
        have : ∀ (k n : Nat), n < 10 ^ (k + 1) → Lib.nDigits n ≤ k + 1 := by
          intro k
          induction k with
          | zero => intro n hn; rw [Lib.nDigits_small (by simpa using hn)]; exact Nat.le_refl _
          | succ k ih =>
            intro n hn
            by_cases h10 : n < 10
            · rw [Lib.nDigits_small h10]; omega
            · rw [Lib.nDigits_big h10]
              have := ih (n / 10) (by rw [Nat.pow_succ] at hn; omega)
              omega
        cases k with
        | zero => omega
        | succ k => have := this k n h4; omega
      · exact h4
    have h5 : 10 ^ 19 ≤ 10 ^ k := Nat.pow_le_pow_right (by decide) (by omega)
    have h6 : (10 : Nat) ^ 19 = 10000000000000000000 := by decide
    omega
  · exact h1
/-- A numeral, as the library writes it. -/
def itoaB (n : Int) : ByteArray := ⟨(Lib.itoa n).toArray⟩
theorem digits_f (n : Int) (h0 : 0 ≤ n) (h9 : n ≤ 9223372036854775807) : ∃ k, postbagref10_Digits.f k n = some (itoaB n) := by
  obtain ⟨m, rfl⟩ := Int.eq_ofNat_of_zero_le h0
  have hs := small_digits m (by omega)
  obtain ⟨k, hk⟩ := digits_l0 m m ⟨#[]⟩ (Nat.le_refl _) (by omega) (by show 0 + _ ≤ _; omega)
  refine ⟨k, ?_⟩
  rw [postbagref10_Digits.f, hk, itoaB, Lib.itoa, if_neg (by omega), decB]
  congr 1
  apply data_inj
  have : ((⟨(Lib.decDigits m).toArray⟩ : ByteArray) ++ ⟨#[]⟩).data = (Lib.decDigits m).toArray ++ #[] := ByteArray.data_append
  rw [this]
  simp
theorem refDigits10_calls (n : Int) (h0 : 0 ≤ n) (h9 : n ≤ 9223372036854775807) (w : World) : Calls Tryz.prog 31 #[.int .i64 n] w fun e w' => e = .returned (.string (itoaB n)) ∧ Below w.heap.size w w' := by
  obtain ⟨k, hk⟩ := digits_f n h0 h9
  exact postbagref10_Digits.calls k n _ w hk
theorem itoaB_size (n : Int) (h0 : 0 ≤ n) (h9 : n ≤ 9223372036854775807) : (itoaB n).size ≤ 19 := by
  obtain ⟨m, rfl⟩ := Int.eq_ofNat_of_zero_le h0
  have e : (itoaB (m : Int)).size = (Lib.itoa (m : Int)).length := by
    show (Lib.itoa (m : Int)).toArray.size = _
    simp
  rw [e, Lib.itoa, if_neg (by omega), Lib.decDigits_length]
  exact small_digits m (by omega)
end Go.Proofs.YtjggdkcfpdhoaaaGreatDoor.QDig
