/- What smtp.Parse makes of MAIL with a size, in plain Lean. -/
import Derived.Test.YtjggdkcfpdhoaaaDoorLow
namespace Go.Proofs.YtjggdkcfpdhoaaaDoor.QSizes
open Go.Proofs.YtjggdkcfpdhoaaaDoorW.SRows
open Go Go.RowKit Go.Proofs.YtjggdkcfpdhoaaaDoorW.PrintWords Go.Proofs.YtjggdkcfpdhoaaaDoor.Dots Go.Proofs.YtjggdkcfpdhoaaaDoor.Large Go.Proofs.YtjggdkcfpdhoaaaDoor.Path Go.Proofs.YtjggdkcfpdhoaaaDoor.Dotted Go.Proofs.YtjggdkcfpdhoaaaDoor.Take Go.Proofs.YtjggdkcfpdhoaaaDoor.Number Go.Proofs.YtjggdkcfpdhoaaaDoor.Opt Go.Proofs.YtjggdkcfpdhoaaaDoor.Mail Go.Proofs.YtjggdkcfpdhoaaaDoor.Read Go.Proofs.YtjggdkcfpdhoaaaDoor.Parse Go.Proofs.YtjggdkcfpdhoaaaDoor.RefSmall Go.Proofs.YtjggdkcfpdhoaaaDoor.Low
set_option linter.unusedVariables false
set_option linter.unusedSimpArgs false
def mkB (l : List UInt8) : ByteArray := ⟨l.toArray⟩
theorem mk_data (l : List UInt8) : (mkB l).data.toList = l := by simp [mkB]
theorem mk_list (l : List UInt8) : (mkB l).toList = l := by rw [toList_data, mk_data]
theorem mk_size (l : List UInt8) : (mkB l).size = l.length := by rw [← data_length, mk_data]
theorem mk_cut (l : List UInt8) (j i : Nat) : (mkB l).extract j i = mkB ((l.drop j).take (i - j)) := data_inj (by rw [cut_data, mk_data, mk_data])
theorem mk_app (l r : List UInt8) : mkB l ++ mkB r = mkB (l ++ r) := by
  apply data_inj
  have : (mkB l ++ mkB r).data = (mkB l).data ++ (mkB r).data := ByteArray.data_append
  rw [this, mk_data]
  simp [mkB]
theorem mk_self (s : ByteArray) : mkB s.data.toList = s := data_inj (mk_data _)
theorem index_hit (d : UInt8) : ∀ (p r : List UInt8), d ∉ p → Lib.indexByte (p ++ d :: r) d = p.length
  | [], r, _ => by simp [Lib.indexByte]
  | b :: p, r, h => by
    have h1 : (b == d) = false := by
      rw [beq_eq_false_iff_ne]
      exact fun e => h (by simp [e])
    have h2 := index_hit d p r (fun m => h (List.mem_cons_of_mem _ m))
    rw [List.cons_append, Lib.indexByte, h1, h2, if_neg (by decide), if_neg (by simp), List.length_cons]
    omega
theorem index_miss (d : UInt8) : ∀ l : List UInt8, d ∉ l → Lib.indexByte l d = -1
  | [], _ => rfl
  | b :: l, h => by
    have h1 : (b == d) = false := by
      rw [beq_eq_false_iff_ne]
      exact fun e => h (by simp [e])
    rw [Lib.indexByte, h1, index_miss d l (fun m => h (List.mem_cons_of_mem _ m))]
    rfl
theorem cut_hit (d : UInt8) (p r : List UInt8) (h : d ∉ p) : cutA (mkB (p ++ d :: r)) d = mkB p ∧ cutB (mkB (p ++ d :: r)) d = mkB r ∧ cutF (mkB (p ++ d :: r)) d = true := by
  have e : cutI (mkB (p ++ d :: r)) d = p.length := by rw [cutI, mk_data, index_hit d p r h]
  have hn : ¬ cutI (mkB (p ++ d :: r)) d < 0 := by omega
  refine ⟨?_, ?_, ?_⟩
  · rw [cutA, if_neg hn, e, mk_cut]
    simp
  · rw [cutB, if_neg hn, e, mk_cut, mk_size]
    congr 1
    rw [List.take_of_length_le (by simp; omega)]
    simp
  · rw [cutF, e]
    simp
theorem cut_miss (d : UInt8) (l : List UInt8) (h : d ∉ l) : cutA (mkB l) d = mkB l ∧ cutB (mkB l) d = mkB [] ∧ cutF (mkB l) d = false := by
  have e : cutI (mkB l) d = -1 := by rw [cutI, mk_data, index_miss d l h]
  refine ⟨?_, ?_, ?_⟩
  · rw [cutA, e]; rfl
  · rw [cutB, e]; rfl
  · rw [cutF, e]; rfl
theorem pre_mk (d : UInt8) (l : List UInt8) : preF (mkB (d :: l)) d = true ∧ preT (mkB (d :: l)) d = mkB l := by
  have h : Lib.hasPrefix (d :: l) [d] = true := by simp [Lib.hasPrefix]
  refine ⟨?_, ?_⟩
  · rw [preF, mk_data, h]
  · apply data_inj
    show Lib.trimPrefix (mkB (d :: l)).data.toList [d] = _
    rw [mk_data, mk_data, Lib.trimPrefix, if_pos h]
    rfl
def mailL : List UInt8 := [77, 65, 73, 76]
def rest1 (D : List UInt8) : List UInt8 := [70, 82, 79, 77, 58] ++ ([60] ++ 62 :: (32 :: ([83, 73, 90, 69] ++ 61 :: D)))
def lineL (D : List UInt8) : List UInt8 := mailL ++ 32 :: rest1 D
def mailC0 : CmdR := { emptyC with v := mkB mailL }
theorem mail_opt (D : List UInt8) (hD : ∀ b ∈ D, 48 ≤ b.toNat ∧ b.toNat ≤ 57) (c : CmdR) (hc : c.n = -1) :
    optC c (mkB ([83, 73, 90, 69] ++ 61 :: D)) = if numF (mkB D) = true then some { c with n := numV (mkB D) } else none := by
  have h := cut_hit 61 [83, 73, 90, 69] D (by decide)
  rw [optC, h.1, h.2.1, if_pos (by decide +kernel), hc]
  rfl
theorem opts_size (D : List UInt8) (hD : ∀ b ∈ D, 48 ≤ b.toNat ∧ b.toNat ≤ 57) (c : CmdR) (hc : c.n = -1) (k : Nat) :
    optsO (k + 1) c (mkB (32 :: ([83, 73, 90, 69] ++ 61 :: D))) = if numF (mkB D) = true then some { c with n := numV (mkB D) } else none := by
  have hp := pre_mk 32 ([83, 73, 90, 69] ++ 61 :: D)
  have hm := cut_miss 32 ([83, 73, 90, 69] ++ 61 :: D) (by
    intro hmem
    simp only [List.mem_append, List.mem_cons, List.not_mem_nil, or_false] at hmem
    rcases hmem with h | h | h
    · revert h; decide
    · revert h; decide
    · have := hD _ h
      exact absurd this.1 (by decide))
  have e1 : (mkB (32 :: ([83, 73, 90, 69] ++ 61 :: D))).toList.isEmpty = false := by rw [mk_list]; rfl
  rw [optsO, e1, hp.1, hp.2, hm.1, mail_opt D hD c hc, mk_size, mk_size, mk_cut]
  cases hf : numF (mkB D) with
  | false => rfl
  | true =>
    have e2 : (List.take ((32 :: ([83, 73, 90, 69] ++ 61 :: D)).length - (1 + ([83, 73, 90, 69] ++ 61 :: D).length)) (List.drop (1 + ([83, 73, 90, 69] ++ 61 :: D).length) (32 :: ([83, 73, 90, 69] ++ 61 :: D)))) = [] := by
      rw [List.drop_of_length_le (by simp; omega), List.take_nil]
    rw [e2]
    show optsO k { c with n := numV (mkB D) } (mkB []) = some { c with n := numV (mkB D) }
    have he : (mkB []).toList.isEmpty = true := by rw [mk_list]; rfl
    cases k with
    | zero => rw [optsO, if_pos he]
    | succ k => rw [optsO, if_pos he]
theorem parse_size (D : List UInt8) (hD : ∀ b ∈ D, 48 ≤ b.toNat ∧ b.toNat ≤ 57) :
    parseC (mkB (lineL D)) = if numF (mkB D) = true then ({ mailC0 with n := numV (mkB D) }, 0) else (emptyC, 501) := by
  have h := cut_hit 32 mailL (rest1 D) (by decide)
  have h1 : aftF (mkB (rest1 D)) fromS = true := by
    rw [aftF, mk_size, mk_cut]
    have e : ((rest1 D).drop 0).take (fromS.size - 0) = [70, 82, 79, 77, 58] := rfl
    rw [e]
    have e2 : decide (fromS.size ≤ (rest1 D).length) = true := decide_eq_true (by simp [rest1, fromS, ByteArray.size])
    rw [e2]
    decide +kernel
  have h2 : aftV (mkB (rest1 D)) fromS = mkB ([60] ++ 62 :: (32 :: ([83, 73, 90, 69] ++ 61 :: D))) := by
    rw [aftV, if_pos h1, mk_size, mk_cut]
    congr 1
    rw [List.take_of_length_le (by simp)]
    rfl
  have h3 := cut_hit 62 [60] (32 :: ([83, 73, 90, 69] ++ 61 :: D)) (by decide)
  have h4 := pre_mk 60 []
  have h5 : takeB (mkB ([60] ++ 62 :: (32 :: ([83, 73, 90, 69] ++ 61 :: D)))) = some (mkB [], mkB [], mkB (32 :: ([83, 73, 90, 69] ++ 61 :: D))) := by
    rw [takeB, takeI, h3.1, h4.1, h4.2, h3.2.1, h3.2.2, (cut_miss 64 [] (by simp)).1, (cut_miss 64 [] (by simp)).2.1, show (mkB []).toList.isEmpty = true by rw [mk_list]; rfl]
    rfl
  have h6 : mailO mailC0 (mkB (rest1 D)) fromS = if numF (mkB D) = true then some { mailC0 with n := numV (mkB D) } else none := by
    rw [mailO, h1, h2, h5]
    show (if (mailC0.v.toList == [82, 67, 80, 84]) = true then _ else optsO (mkB (32 :: ([83, 73, 90, 69] ++ 61 :: D))).size { mailC0 with n := -1 } (mkB (32 :: ([83, 73, 90, 69] ++ 61 :: D)))) = _
    rw [if_neg (by decide +kernel), mk_size, List.length_cons, opts_size D hD _ rfl]
  have hv : largeB (mkB mailL) = mkB mailL := by decide +kernel
  have hc : Lib.containsS verbsL (mkB mailL) = true := by decide +kernel
  have h7 : readO mailC0 (mkB (rest1 D)) true = if numF (mkB D) = true then some { mailC0 with n := numV (mkB D) } else none := by
    rw [readO, h6]
    have b1 : (mailC0.v.toList == [72, 69, 76, 79]) = false := by decide +kernel
    have b2 : (mailC0.v.toList == [69, 72, 76, 79]) = false := by decide +kernel
    have b3 : (mailC0.v.toList == [77, 65, 73, 76]) = true := by decide +kernel
    rw [b1, b2, b3]
    rfl
  rw [parseC, lineL, h.1, h.2.1, h.2.2, hv, hc, if_neg (by decide)]
  have h8 : readO { emptyC with v := mkB mailL } (mkB (rest1 D)) true = if numF (mkB D) = true then some { mailC0 with n := numV (mkB D) } else none := h7
  rw [h8]
  cases numF (mkB D) with
  | false => rfl
  | true => rfl
/-- What the digits say while they are written: j of them, k being what is left. -/
structure DW (n k : Nat) (D : List UInt8) : Prop where
  dig : ∀ b ∈ D, 48 ≤ b.toNat ∧ b.toNat ≤ 57
  val : valL (D.map fun b => (b.toNat : Int)) + k * 10 ^ D.length = n
  low : 0 ≤ valL (D.map fun b => (b.toNat : Int)) ∧ valL (D.map fun b => (b.toNat : Int)) < 10 ^ D.length
  big : D.length ≤ 1 ∨ 10 ^ (D.length - 1) ≤ n
  end_ : k = 0 → D ≠ [] ∨ n = 0
theorem valL_cons (c : Int) (l : List Int) : valL (c :: l) = (c - 48) * 10 ^ l.length + valL l := by
  have h : ∀ (l : List Int) (a : Int), l.foldl (fun n c => 10 * n + (c - 48)) a = a * 10 ^ l.length + l.foldl (fun n c => 10 * n + (c - 48)) 0 := by
    intro l
    induction l with
    | nil => intro a; simp
    | cons x l ih =>
      intro a
      rw [List.foldl_cons, List.foldl_cons, ih, ih (10 * 0 + (x - 48)), List.length_cons, Int.pow_succ, Int.add_mul]
      have h0 : (10 * 0 + (x - 48) : Int) = x - 48 := by omega
      rw [h0]
      have : 10 * a * 10 ^ l.length = a * (10 ^ l.length * 10) := by rw [Int.mul_comm 10 a, Int.mul_assoc, Int.mul_comm 10]
      rw [this]
      omega
  rw [valL, List.foldl_cons, h]
  simp [valL]
theorem DW.start (n : Nat) : DW n n [] := ⟨by simp, by simp [valL], by simp [valL], .inl (by simp), fun h => .inr (by omega)⟩
theorem DW.step {n k : Nat} {D : List UInt8} (h : DW n k D) (hk : 0 < k ∨ D = []) : DW n (k / 10) (UInt8.ofNat (48 + k % 10) :: D) := by
  have hb : (UInt8.ofNat (48 + k % 10)).toNat = 48 + k % 10 := by
    rw [UInt8.toNat_ofNat']
    omega
  have hv : valL ((UInt8.ofNat (48 + k % 10) :: D).map fun b => (b.toNat : Int)) = ((k % 10 : Nat) : Int) * 10 ^ D.length + valL (D.map fun b => (b.toNat : Int)) := by
    rw [List.map_cons, valL_cons, hb, List.length_map]
    congr 2
    omega
  have hpos : (0 : Int) < 10 ^ D.length := Int.pow_pos (by decide)
  have hm : ((k % 10 : Nat) : Int) * 10 ^ D.length ≤ 9 * 10 ^ D.length := Int.mul_le_mul_of_nonneg_right (by omega) (by omega)
  have hm0 : 0 ≤ ((k % 10 : Nat) : Int) * 10 ^ D.length := Int.mul_nonneg (by omega) (by omega)
  have hsplit : (k : Int) * 10 ^ D.length = ((k % 10 : Nat) : Int) * 10 ^ D.length + ((k / 10 : Nat) : Int) * (10 ^ D.length * 10) := by
    have e : (k : Int) = ((k % 10 : Nat) : Int) + ((k / 10 : Nat) : Int) * 10 := by omega
    have e2 : ((k / 10 : Nat) : Int) * (10 ^ D.length * 10) = (((k / 10 : Nat) : Int) * 10) * 10 ^ D.length := by rw [Int.mul_comm (10 ^ D.length) 10, Int.mul_assoc]
    rw [e2, ← Int.add_mul, ← e]
  refine ⟨?_, ?_, ?_, ?_, ?_⟩
  · intro b hm
    rcases List.mem_cons.1 hm with rfl | hm
    · rw [hb]; omega
    · exact h.dig b hm
  · rw [hv, List.length_cons, Int.pow_succ]
    have := h.val
    omega
  · rw [hv, List.length_cons, Int.pow_succ]
    have := h.low
    omega
  · rw [List.length_cons, Nat.add_sub_cancel]
    rcases hk with hk | hk
    · right
      have h1 := h.val
      have h2 := h.low.1
      have h3 : (1 : Int) * 10 ^ D.length ≤ (k : Int) * 10 ^ D.length := Int.mul_le_mul_of_nonneg_right (by omega) (by omega)
      have h4 : (10 : Int) ^ D.length ≤ (n : Int) := by omega
      have h5 : (((10 : Nat) ^ D.length : Nat) : Int) = (10 : Int) ^ D.length := by simp
      omega
    · left
      rw [hk]
      simp
  · intro _
    left
    simp
theorem DW.size {n k : Nat} {D : List UInt8} (h : DW n k D) (hn : n < 2147483648) : D.length ≤ 10 := by
  rcases h.big with h1 | h1
  · omega
  · rcases Nat.lt_or_ge 10 D.length with h2 | h2
    · exfalso
      have h3 : 10 ^ 10 ≤ 10 ^ (D.length - 1) := Nat.pow_le_pow_right (by decide) (by omega)
      have h4 : (10 : Nat) ^ 10 = 10000000000 := by decide
      omega
    · exact h2
theorem bytes_mk (D : List UInt8) : bytesOf (mkB D) = D.map fun b => (b.toNat : Int) := by rw [bytesOf, mk_data]
theorem DW.all {n k : Nat} {D : List UInt8} (h : DW n k D) : (bytesOf (mkB D)).all digI = true := by
  rw [bytes_mk, List.all_eq_true]
  intro c hc
  obtain ⟨b, hb, rfl⟩ := List.mem_map.1 hc
  have := h.dig b hb
  rw [digI, decide_eq_true (by omega), decide_eq_true (by omega)]
  rfl
/-- What comes of the text with the digits of n. -/
theorem DW.done {n : Nat} {D : List UInt8} (h : DW n 0 D) (hD : D ≠ []) : parseC (mkB (lineL D)) = if n ≤ 999999999 then ({ mailC0 with n := n }, 0) else (emptyC, 501) := by
  have hl : 1 ≤ D.length := by
    rcases Nat.eq_zero_or_pos D.length with h0 | h0
    · exact absurd (List.eq_nil_of_length_eq_zero h0) hD
    · exact h0
  have h1 := h.val
  have h2 := h.low
  have h3 : valL (D.map fun b => (b.toNat : Int)) = n := by
    have : ((0 : Nat) : Int) * 10 ^ D.length = 0 := by simp
    omega
  have h4 : (((10 : Nat) ^ D.length : Nat) : Int) = (10 : Int) ^ D.length := by simp
  have h5 : n < 10 ^ D.length := by omega
  rw [parse_size D h.dig]
  by_cases hn : n ≤ 999999999
  · have h9 : D.length ≤ 9 := by
      rcases h.big with hb | hb
      · omega
      · rcases Nat.lt_or_ge 9 D.length with h6 | h6
        · exfalso
          have h7 : 10 ^ 9 ≤ 10 ^ (D.length - 1) := Nat.pow_le_pow_right (by decide) (by omega)
          have h8 : (10 : Nat) ^ 9 = 1000000000 := by decide
          omega
        · exact h6
    have hf : numF (mkB D) = true := by
      rw [numF, h.all, mk_size, decide_eq_true hl, decide_eq_true h9]
      rfl
    rw [if_pos hf, if_pos hn, numV, if_pos hf, bytes_mk, h3]
  · have h9 : ¬ D.length ≤ 9 := by
      intro h6
      have h7 : 10 ^ D.length ≤ 10 ^ 9 := Nat.pow_le_pow_right (by decide) h6
      have h8 : (10 : Nat) ^ 9 = 1000000000 := by decide
      omega
    have hf : numF (mkB D) = false := by
      rw [numF, mk_size, decide_eq_false h9]
      simp
    rw [hf, if_neg hn]
    rfl
end Go.Proofs.YtjggdkcfpdhoaaaDoor.QSizes
