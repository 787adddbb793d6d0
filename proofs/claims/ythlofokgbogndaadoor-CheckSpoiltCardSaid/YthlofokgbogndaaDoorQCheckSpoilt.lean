/- CheckSpoilt, the plain law: a record comes back, and with one of its bytes changed, or cut short, it is none. -/
import Derived.Test.YthlofokgbogndaaDoorLibCk
namespace Go.Proofs.YthlofokgbogndaaDoor.Pure
open Go.RowKit Go.Proofs.YthlofokgbogndaaDoor.GCheck Go.Proofs.YthlofokgbogndaaDoorW.PrintWords Go.Proofs.YthlofokgbogndaaDoorW.PrintLast Go.Proofs.YthlofokgbogndaaDoor.Lib04

theorem xor_byte (x b : Int) (h0 : 0 ≤ x) (h1 : x ≤ 255) (b0 : 0 ≤ b) (b1 : b ≤ 255) (hb : b ≠ 0) : 0 ≤ Go.bits .xor .u8 x b ∧ Go.bits .xor .u8 x b ≤ 255 ∧ Go.bits .xor .u8 x b ≠ x := by
  obtain ⟨m, rfl⟩ := Int.eq_ofNat_of_zero_le h0
  obtain ⟨n, rfl⟩ := Int.eq_ofNat_of_zero_le b0
  have hm : m < 2 ^ 8 := by omega
  have hn : n < 2 ^ 8 := by omega
  have hx : m ^^^ n < 2 ^ 8 := Nat.xor_lt_two_pow hm hn
  have e : Go.bits .xor .u8 (m : Int) (n : Int) = ((m ^^^ n : Nat) : Int) := by
    have hm' : m % 2 ^ IntKind.u8.bits = m := Nat.mod_eq_of_lt hm
    have hn' : n % 2 ^ IntKind.u8.bits = n := Nat.mod_eq_of_lt hn
    simp only [bits, BitVec.ofInt_natCast, BitVec.toNat_xor, BitVec.toNat_ofNat, hm', hn']
    exact wraps_u8 _ (Int.natCast_nonneg _) (by exact_mod_cast hx)
  rw [e]
  refine ⟨by omega, by omega, fun hh => hb ?_⟩
  have h2 : m ^^^ n = m := by exact_mod_cast hh
  have h3 : m ^^^ (m ^^^ n) = m ^^^ m := by rw [h2]
  rw [← Nat.xor_assoc, Nat.xor_self, Nat.zero_xor] at h3
  omega
theorem fold_low (xs : List Int) : ∀ (l h : Int), 0 ≤ l → l < 65521 → (xs.foldl st (l, h)).1 = (l + xs.sum) % 65521 := by
  induction xs with
  | nil =>
    intro l h h0 h1
    simp only [List.foldl_nil, List.sum_nil]
    omega
  | cons x xs ih =>
    intro l h h0 h1
    simp only [List.foldl_cons, List.sum_cons]
    have := ih ((l + x) % 65521) ((h + (l + x) % 65521) % 65521) (by omega) (by omega)
    show (xs.foldl st ((l + x) % 65521, (h + (l + x) % 65521) % 65521)).1 = _
    rw [this]
    omega
theorem sumS_low (xs : List Int) : sumS xs % 65536 = (1 + xs.sum) % 65521 := by
  have h := fold_low xs 1 0 (by omega) (by omega)
  have hg := good_fold xs (1, 0) (by unfold good; omega)
  unfold good at hg
  unfold sumS enc
  omega
theorem sum_set (xs : List Int) (i : Nat) (hi : i < xs.length) (y : Int) : (xs.set i y).sum = xs.sum - xs[i] + y := by
  have h1 : xs = xs.take i ++ xs[i] :: xs.drop (i + 1) := by rw [← List.drop_eq_getElem_cons hi, List.take_append_drop]
  have h2 : xs.set i y = xs.take i ++ y :: xs.drop (i + 1) := List.set_eq_take_append_cons_drop.trans (if_pos hi)
  rw [h2]
  have h3 : xs.sum = (xs.take i).sum + (xs[i] + (xs.drop (i + 1)).sum) := by
    conv => lhs; rw [h1]
    rw [List.sum_append, List.sum_cons]
  rw [List.sum_append, List.sum_cons, h3]
  omega
theorem sumS_set (xs : List Int) (hB : isB xs) (i : Nat) (hi : i < xs.length) (y : Int) (h0 : 0 ≤ y) (h1 : y ≤ 255) (hne : y ≠ xs[i]) : sumS (xs.set i y) ≠ sumS xs := by
  intro h
  have e1 := sumS_low xs
  have e2 := sumS_low (xs.set i y)
  rw [h, e1, sum_set xs i hi y] at e2
  have hx := hB xs[i] (List.getElem_mem hi)
  omega
theorem val4_take (b : List Int) (n : Nat) (hn : 4 ≤ n) : val4 (b.take n) = val4 b := by
  unfold val4
  have e : ∀ i, i < 4 → (b.take n).getD i 0 = b.getD i 0 := fun i hi => by
    rw [List.getD_eq_getElem?_getD, List.getD_eq_getElem?_getD, List.getElem?_take, if_pos (by omega)]
  rw [e 0 (by omega), e 1 (by omega), e 2 (by omega), e 3 (by omega)]
theorem val4_set (b : List Int) (n : Nat) (y : Int) (hn : 4 ≤ n) : val4 (b.set n y) = val4 b := by
  unfold val4
  have e : ∀ i, i < 4 → (b.set n y).getD i 0 = b.getD i 0 := fun i hi => by
    rw [List.getD_eq_getElem?_getD, List.getD_eq_getElem?_getD, List.getElem?_set_ne (by omega)]
  rw [e 0 (by omega), e 1 (by omega), e 2 (by omega), e 3 (by omega)]
theorem rec_val (x : List Int) (hn : x.length ≤ 400000) : val4 (recS x) = x.length := by
  unfold recS
  rw [val4_four _ (by omega) (by omega)]
theorem rec_drop4 (x : List Int) : (recS x).drop 4 = four (sumS x) ++ x := by
  unfold recS
  rw [List.drop_left' (four_len _)]
theorem rec_drop8 (x : List Int) : (recS x).drop 8 = x := by
  have := rec_drop x []
  simpa using this
theorem cut_none (x : List Int) (hn : x.length ≤ 400000) (q : Nat) (hq : q < x.length + 8) : wholeS ((recS x).take q) = none := by
  unfold wholeS
  rw [if_neg]
  rintro ⟨h1, h2, h3, h4⟩
  have hl : ((recS x).take q).length = q := by rw [List.length_take, recS_len]; omega
  rw [hl] at h1 h3
  rw [val4_take _ q (by omega), rec_val x hn] at h3
  omega
theorem spoilt_none (x : List Int) (hB : isB x) (hn : x.length ≤ 400000) (q : Nat) (h8 : 8 ≤ q) (hq : q < x.length + 8) (y : Int) (h0 : 0 ≤ y) (h1 : y ≤ 255) (hne : y ≠ (recS x).getD q 0) : wholeS ((recS x).set q y) = none := by
  have hs := sumS_range x
  have e1 : val4 ((recS x).set q y) = x.length := by rw [val4_set _ q y (by omega), rec_val x hn]
  have e2 : ((recS x).set q y).drop 8 = x.set (q - 8) y := by
    rw [List.drop_set, if_neg (by omega), rec_drop8]
  have e3 : val4 (((recS x).set q y).drop 4) = sumS x := by
    rw [List.drop_set, if_neg (by omega), rec_drop4, val4_set _ (q - 4) y (by omega), val4_four _ hs.1 hs.2]
  have e4 : (recS x).getD q 0 = x[q - 8]'(by omega) := by
    have h := congrArg (fun l : List Int => l.getD (q - 8) 0) (rec_drop8 x)
    simp only [List.getD_eq_getElem?_getD, List.getElem?_drop] at h
    have e : 8 + (q - 8) = q := by omega
    rw [e] at h
    rw [List.getD_eq_getElem?_getD, h, List.getElem?_eq_getElem (by omega)]
    rfl
  unfold wholeS
  rw [if_neg]
  rintro ⟨_, _, _, h5⟩
  rw [e1, e2, e3] at h5
  have e5 : (x.set (q - 8) y).take ((x.length : Int)).toNat = x.set (q - 8) y := List.take_of_length_le (by simp)
  rw [e5] at h5
  exact sumS_set x hB (q - 8) (by omega) y h0 h1 (by rw [← e4]; exact hne) h5
theorem u64_small (m : Nat) (hm : m ≤ 20000) : IntKind.u64.wrap (m : Int) = m := by
  simp only [IntKind.wrap, IntKind.bits, IntKind.signed]
  simp
  omega
theorem u64_nonneg (a : Int) : 0 ≤ IntKind.u64.wrap a := by
  simp only [IntKind.wrap, IntKind.bits, IntKind.signed]
  simp
  omega
theorem small_wrap (q : Nat) (h : q ≤ 20000) : wrap64 (q : Int) = q := by
  unfold wrap64
  omega
/-- The place in the record: at modulo its length. -/
theorem place (a : Int) (m : Nat) (h0 : 0 < m) (hm : m ≤ 20000) : ∃ q : Nat, q < m ∧ wrap64 (Int.tmod (IntKind.u64.wrap a) (IntKind.u64.wrap (m : Int))) = (q : Int) ∧ ¬ IntKind.u64.wrap (m : Int) = 0 := by
  have hA := u64_nonneg a
  rw [u64_small m hm]
  generalize IntKind.u64.wrap a = A at hA
  have hmm : (m : Int) ≠ 0 := by omega
  have hmp : (0 : Int) < m := by omega
  have hq0 : Int.tmod A (m : Int) = A % (m : Int) := Int.tmod_eq_emod_of_nonneg hA
  have hq1 : 0 ≤ A % (m : Int) := Int.emod_nonneg _ hmm
  have hq2 : A % (m : Int) < (m : Int) := Int.emod_lt_of_pos _ hmp
  rw [hq0]
  generalize A % (m : Int) = r at hq1 hq2
  obtain ⟨q, rfl⟩ := Int.eq_ofNat_of_zero_le hq1
  exact ⟨q, by omega, small_wrap q (by omega), hmm⟩
theorem CheckSpoilt : postbaglaw04_CheckSpoilt.Pure := by
  intro x a b _ hl hw ha hb
  have hB : isB x := fun y h => bounds_u8 (hw y h)
  have hbb := bounds_u8 hb
  obtain ⟨K, hK⟩ : ∃ K : Nat, K = 30000 := ⟨_, rfl⟩
  refine ⟨K + 2, ?_⟩
  unfold postbaglaw04_CheckSpoilt.f
  rw [alive_f _ (by omega)]
  simp only [Option.bind_some, if_true]
  by_cases hbig : (x.length : Int) > 10000
  · rw [if_pos hbig]
  have hn : x.length ≤ 10000 := by omega
  rw [if_neg hbig]
  rw [crecord_f hB (by omega) (K + 2) (by omega)]
  rw [Option.bind_some, if_pos (show (none : Option Int).isNone = true from rfl)]
  have ew : wrap64 ((x.length : Int) + 8) = (x.length : Int) + 8 := by unfold wrap64; omega
  have hrl := recS_len x
  have e0 : (((recS x).length : Int) != wrap64 ((x.length : Int) + 8)) = false := by
    rw [ew, hrl, bne_eq_false_iff_eq]
    omega
  rw [e0]
  simp only [postbaglaw04_CheckSpoilt.j0, Bool.false_eq_true, if_false]
  have hw0 : wholeS (recS x) = some x.length := by
    have := whole_rec (x := x) (by omega) []
    simpa using this
  rw [take_f (recS_B hB) (by omega) _ (by omega), hw0]
  simp only [Option.bind_some, if_true]
  have ed : (recS x).drop (8 + x.length) = [] := List.drop_eq_nil_of_le (by omega)
  have et : ((recS x).drop 8).take x.length = x := by rw [rec_drop8, List.take_length]
  rw [ed, et]
  simp only [List.length_nil, Int.natCast_zero, if_true, bne_self_eq_false, postbaglaw04_CheckSpoilt.j1, Bool.false_eq_true, if_false]
  obtain ⟨q, hq2, hqw, hqm⟩ := place a (recS x).length (by omega) (by omega)
  rw [if_neg hqm, hqw, if_pos (by omega), if_pos (by omega)]
  have hqt : ((q : Int)).toNat = q := by omega
  rw [hqt, take_f (isB_take (recS_B hB) q) (by rw [List.length_take]; omega) _ (by rw [List.length_take]; omega), cut_none x (by omega) q (by omega)]
  simp only [Option.bind_some, Bool.false_eq_true, if_false]
  by_cases c8 : (q : Int) < 8
  · rw [if_pos c8]
  rw [if_neg c8]
  by_cases cb : b = 0
  · rw [if_pos cb]
  have hrd : rd (recS x) (q : Int) = (recS x).getD q 0 := by unfold rd; rw [hqt]
  have hrb := getD_B (recS_B hB) q
  have hx := xor_byte ((recS x).getD q 0) b hrb.1 hrb.2 hbb.1 hbb.2 cb
  rw [if_neg cb]
  simp only [List.nil_append, List.length_nil, Nat.zero_add]
  rw [if_pos (by omega), if_pos (by omega), hrd]
  have hsB : isB ((recS x).set q (Go.bits .xor .u8 ((recS x).getD q 0) b)) := fun y hy => by
    rcases List.mem_or_eq_of_mem_set hy with h | h
    · exact recS_B hB y h
    · rw [h]
      exact ⟨hx.1, hx.2.1⟩
  rw [take_f hsB (by rw [List.length_set]; omega) _ (by rw [List.length_set]; omega), spoilt_none x hB (by omega) q (by omega) (by omega) _ hx.1 hx.2.1 hx.2.2]
  rfl

end Go.Proofs.YthlofokgbogndaaDoor.Pure
