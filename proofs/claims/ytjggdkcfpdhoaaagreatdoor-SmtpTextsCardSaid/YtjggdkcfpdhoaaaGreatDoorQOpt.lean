/- MAIL's options: what the document makes of their parts is what the program makes of them; plain Lean. -/
import Derived.Test.YtjggdkcfpdhoaaaGreatDoorQRef4
import Derived.Test.YtjggdkcfpdhoaaaGreatDoorBase
namespace Go.Proofs.YtjggdkcfpdhoaaaGreatDoor.QOpt
open Go Go.RowKit Go.Proofs.YtjggdkcfpdhoaaaGreatDoorW.PrintWords Go.Proofs.YtjggdkcfpdhoaaaGreatDoor.Dots Go.Proofs.YtjggdkcfpdhoaaaGreatDoor.Large Go.Proofs.YtjggdkcfpdhoaaaGreatDoor.Dotted Go.Proofs.YtjggdkcfpdhoaaaGreatDoor.Take Go.Proofs.YtjggdkcfpdhoaaaGreatDoor.Number Go.Proofs.YtjggdkcfpdhoaaaGreatDoor.Opt Go.Proofs.YtjggdkcfpdhoaaaGreatDoor.Mail Go.Proofs.YtjggdkcfpdhoaaaGreatDoor.Read Go.Proofs.YtjggdkcfpdhoaaaGreatDoor.Parse Go.Proofs.YtjggdkcfpdhoaaaGreatDoor.QRef3 Go.Proofs.YtjggdkcfpdhoaaaGreatDoor.QRef4
set_option linter.unusedVariables false
set_option linter.unusedSimpArgs false
def up8 (b : UInt8) : UInt8 := UInt8.ofNat (upI (b.toNat : Int)).toNat
theorem large_data (s : ByteArray) : (largeB s).data.toList = s.data.toList.map up8 := by
  rw [largeB, strOfNums, bytesOf, List.map_map, List.map_map]
  rfl
theorem large_size (s : ByteArray) : (largeB s).size = s.size := by rw [← data_length, large_data, List.length_map, data_length]
theorem large_cut (s : ByteArray) (j i : Nat) : largeB (s.extract j i) = (largeB s).extract j i := by
  apply data_inj
  rw [cut_data, large_data, large_data, cut_data, List.map_take, List.map_drop]
theorem every8 (p : UInt8 → Bool) (h : (List.range 256).all (fun n => p (UInt8.ofNat n)) = true) (b : UInt8) : p b = true := by
  have h1 := List.all_eq_true.1 h b.toNat (List.mem_range.2 b.toNat_lt)
  simpa using h1
theorem up_eq61 (b : UInt8) : (up8 b = 61) ↔ b = 61 := by
  have h := every8 (fun b => (up8 b == 61) == (b == 61)) (by decide +kernel) b
  have h2 : (up8 b == 61) = (b == 61) := by simpa using h
  constructor
  · intro e
    have : (up8 b == 61) = true := by simpa using e
    rw [h2] at this
    simpa using this
  · intro e
    have : (b == 61) = true := by simpa using e
    rw [← h2] at this
    simpa using this
/-- What stands before the first '=', and behind it, from a text whose capital letters begin so. -/
theorem cut61 (o : ByteArray) (nm : List UInt8) (h61 : (61 : UInt8) ∉ nm) (r : List UInt8) (h : (largeB o).data.toList = nm ++ 61 :: r) :
    (largeB (cutA o 61)).data.toList = nm ∧ cutB o 61 = o.extract (nm.length + 1) o.size ∧ (largeB (cutB o 61)).data.toList = r := by
  rw [large_data] at h
  have hget : o.data.toList[nm.length]? = some 61 := by
    have h1 : (o.data.toList.map up8)[nm.length]? = some 61 := by rw [h]; simp
    rw [List.getElem?_map] at h1
    cases hx : o.data.toList[nm.length]? with
    | none => rw [hx] at h1; cases h1
    | some x =>
      rw [hx] at h1
      have h2 : up8 x = 61 := by simpa using h1
      rw [(up_eq61 x).1 h2]
  have htake : (o.data.toList.take nm.length).map up8 = nm := by rw [List.map_take, h]; simp
  have hno : (61 : UInt8) ∉ o.data.toList.take nm.length := by
    intro hm
    apply h61
    rw [← htake]
    exact List.mem_map.2 ⟨61, hm, by decide +kernel⟩
  have hc : cutI o 61 = nm.length := first_of 61 o.data.toList nm.length hget hno
  have hA : cutA o 61 = o.extract 0 nm.length := by rw [cutA, hc, if_neg (by omega)]; rfl
  have hB : cutB o 61 = o.extract (nm.length + 1) o.size := by rw [cutB, hc, if_neg (by omega)]; rfl
  refine ⟨?_, hB, ?_⟩
  · rw [hA, large_data, cut_data, List.drop_zero, Nat.sub_zero, htake]
  · rw [hB, large_data, cut_data, List.map_take, List.map_drop, h, List.take_of_length_le]
    · simp
    · have : nm.length < o.data.toList.length := by
        rcases Nat.lt_or_ge nm.length o.data.toList.length with h' | h'
        · exact h'
        · rw [List.getElem?_eq_none h'] at hget; cases hget
      have e := data_length o
      have e2 : (o.data.toList.map up8).length = (nm ++ 61 :: r).length := by rw [h]
      simp only [List.length_map, List.length_append, List.length_cons] at e2
      simp
      omega
/-- The other way: the name and what is behind it make the text. -/
theorem cut61_back (o : ByteArray) (hf : cutF o 61 = true) : (largeB o).data.toList = (largeB (cutA o 61)).data.toList ++ 61 :: (largeB (cutB o 61)).data.toList := by
  rw [cutF] at hf
  have h0 := of_decide_eq_true hf
  obtain ⟨i, hi⟩ : ∃ i : Nat, cutI o 61 = i := ⟨(cutI o 61).toNat, by omega⟩
  have hlt := cutI_hit o 61 i hi
  have h61 := (Lib.indexByte_some (l := o.data.toList) (c := 61) (o := i) hi).1
  have hA : cutA o 61 = o.extract 0 i := by rw [cutA, hi, if_neg (by omega)]; rfl
  have hB : cutB o 61 = o.extract (i + 1) o.size := by rw [cutB, hi, if_neg (by omega)]; rfl
  have hl : i < o.data.toList.length := by rw [data_length]; exact hlt
  have hsplit : o.data.toList = o.data.toList.take i ++ 61 :: o.data.toList.drop (i + 1) := by
    have h1 := List.take_append_drop i o.data.toList
    rw [List.drop_eq_getElem_cons hl] at h1
    rw [List.getElem?_eq_getElem hl] at h61
    rw [Option.some.inj h61] at h1
    exact h1.symm
  rw [hA, hB, large_data, large_data, large_data, cut_data, cut_data, List.drop_zero, Nat.sub_zero, List.take_of_length_le (l := o.data.toList.drop (i + 1)) (by rw [List.length_drop, data_length]; exact Nat.le_refl _)]
  have e61 : up8 61 = 61 := by decide +kernel
  have h2 := congrArg (List.map up8) hsplit
  rw [List.map_append, List.map_cons, e61] at h2
  exact h2
theorem cutF_none (o : ByteArray) (hf : cutF o 61 = false) : cutA o 61 = o ∧ cutB o 61 = ⟨#[]⟩ := by
  rw [cutF] at hf
  have h0 := of_decide_eq_false hf
  exact ⟨by rw [cutA, if_pos (by omega)], by rw [cutB, if_pos (by omega)]⟩
def sizeE : ByteArray := ⟨#[83, 73, 90, 69, 61]⟩
def body7 : List UInt8 := [66, 79, 68, 89, 61, 55, 66, 73, 84]
def body8 : List UInt8 := [66, 79, 68, 89, 61, 56, 66, 73, 84, 77, 73, 77, 69]
/-- One of MAIL's options, as the document reads it. -/
def optR (c : CmdR) (o : ByteArray) : Option CmdR :=
  if (aftF o sizeE && (decide (0 ≤ digR (o.extract 5 o.size)) && decide (c.n < 0))) = true then some { c with n := digR (o.extract 5 o.size) }
  else if (((largeB o).toList == body7 || (largeB o).toList == body8) && c.b.toList.isEmpty) = true then some { c with b := (largeB o).extract 5 (largeB o).size }
  else none
theorem aft_size (o : ByteArray) : aftF o sizeE = true ↔ ∃ r, (largeB o).data.toList = [83, 73, 90, 69] ++ 61 :: r := by
  rw [aftF, Bool.and_eq_true, decide_eq_true_eq, beq_iff_eq, large_cut, toList_data, toList_data, cut_data, List.drop_zero, Nat.sub_zero]
  have hz : sizeE.size = 5 := rfl
  have hd : sizeE.data.toList = [83, 73, 90, 69, 61] := rfl
  rw [hz, hd]
  constructor
  · rintro ⟨h1, h2⟩
    refine ⟨(largeB o).data.toList.drop 5, ?_⟩
    have h3 := List.take_append_drop 5 (largeB o).data.toList
    rw [h2] at h3
    exact h3.symm
  · rintro ⟨r, h⟩
    refine ⟨?_, by rw [h]; rfl⟩
    have h1 := data_length (largeB o)
    rw [h, large_size] at h1
    simp at h1
    omega
theorem opt_eq (c : CmdR) (o : ByteArray) : optR c o = optC c o := by
  rw [optR, optC, toList_data (largeB (cutA o 61)), toList_data (largeB (cutB o 61)), toList_data (largeB o)]
  cases hf : cutF o 61 with
  | false =>
    obtain ⟨hA, hB⟩ := cutF_none o hf
    have hno : ∀ nm r, (61 : UInt8) ∉ nm → (largeB o).data.toList ≠ nm ++ 61 :: r := fun nm r h61 h => by
      have h1 := (cut61 o nm h61 r h).1
      rw [hA, h] at h1
      have := congrArg List.length h1
      simp at this
    have ha : aftF o sizeE = false := by
      cases hx : aftF o sizeE with
      | false => rfl
      | true => obtain ⟨r, hr⟩ := (aft_size o).1 hx; exact absurd hr (hno _ _ (by decide))
    have h7 : ((largeB o).data.toList == body7) = false := by
      rw [beq_eq_false_iff_ne]
      exact hno [66, 79, 68, 89] [55, 66, 73, 84] (by decide)
    have h8 : ((largeB o).data.toList == body8) = false := by
      rw [beq_eq_false_iff_ne]
      exact hno [66, 79, 68, 89] [56, 66, 73, 84, 77, 73, 77, 69] (by decide)
    have hB0 : (largeB ⟨#[]⟩).data.toList = [] := rfl
    have hn0 : numF ⟨#[]⟩ = false := by decide +kernel
    rw [ha, h7, h8, hA, hB, hB0, hn0]
    simp
  | true =>
    have hback := cut61_back o hf
    by_cases hS : (largeB (cutA o 61)).data.toList = [83, 73, 90, 69]
    · have ha : aftF o sizeE = true := (aft_size o).2 ⟨_, by rw [hback, hS]⟩
      have hB := (cut61 o [83, 73, 90, 69] (by decide) _ (by rw [hback, hS])).2.1
      have hB2 : cutB o 61 = o.extract 5 o.size := hB
      have h7 : ((largeB o).data.toList == body7) = false := by
        rw [beq_eq_false_iff_ne, hback, hS]
        intro h; cases h
      have h8 : ((largeB o).data.toList == body8) = false := by
        rw [beq_eq_false_iff_ne, hback, hS]
        intro h; cases h
      have hs : ((largeB (cutA o 61)).data.toList == ([83, 73, 90, 69] : List UInt8)) = true := by simpa using hS
      rw [ha, h7, h8, hs, ← hB2, if_pos rfl, digR]
      cases hn : numF (cutB o 61) with
      | false => simp
      | true =>
        have h0 : 0 ≤ numV (cutB o 61) := by
          rw [numV, if_pos hn]
          rw [numF, Bool.and_eq_true, Bool.and_eq_true] at hn
          have hall := hn.2.2
          have : ∀ (l : List Int) (a : Int), l.all digI = true → 0 ≤ a → 0 ≤ l.foldl (fun n c => 10 * n + (c - 48)) a := by
            intro l
            induction l with
            | nil => intro a _ h; exact h
            | cons x l ih =>
              intro a h1 h2
              rw [List.all_cons, Bool.and_eq_true, digI, Bool.and_eq_true] at h1
              have := of_decide_eq_true h1.1.1
              exact ih _ h1.2 (show 0 ≤ 10 * a + (x - 48) by omega)
          exact this _ 0 hall (Int.le_refl _)
        rw [if_pos rfl, decide_eq_true h0]
        by_cases hcn : c.n < 0
        · rw [decide_eq_true hcn, if_neg (show ¬ 0 ≤ c.n by omega)]
          rfl
        · rw [decide_eq_false hcn, if_pos (show 0 ≤ c.n by omega)]
          simp
    · have hs : ((largeB (cutA o 61)).data.toList == ([83, 73, 90, 69] : List UInt8)) = false := by rw [beq_eq_false_iff_ne]; exact hS
      have ha : aftF o sizeE = false := by
        cases hx : aftF o sizeE with
        | false => rfl
        | true =>
          obtain ⟨r, hr⟩ := (aft_size o).1 hx
          exact absurd (cut61 o [83, 73, 90, 69] (by decide) r hr).1 hS
      rw [ha, hs, Bool.false_and, if_neg (show ¬ (false = true) by decide), if_neg (show ¬ (false = true) by decide)]
      by_cases hBd : (largeB (cutA o 61)).data.toList = [66, 79, 68, 89]
      · have hb : ((largeB (cutA o 61)).data.toList == ([66, 79, 68, 89] : List UInt8)) = true := by simpa using hBd
        have hcut := cut61 o [66, 79, 68, 89] (by decide) _ (by rw [hback, hBd])
        have hval : (largeB o).extract 5 (largeB o).size = largeB (cutB o 61) := by
          rw [hcut.2.1, large_cut, large_size]
          rfl
        have e7 : ((largeB o).data.toList == body7) = ((largeB (cutB o 61)).data.toList == ([55, 66, 73, 84] : List UInt8)) := by
          rw [hback, hBd]
          rw [Bool.eq_iff_iff, beq_iff_eq, beq_iff_eq]
          constructor
          · intro h
            have h1 := congrArg (List.drop 5) h
            exact h1
          · intro h; rw [h]; rfl
        have e8 : ((largeB o).data.toList == body8) = ((largeB (cutB o 61)).data.toList == ([56, 66, 73, 84, 77, 73, 77, 69] : List UInt8)) := by
          rw [hback, hBd]
          rw [Bool.eq_iff_iff, beq_iff_eq, beq_iff_eq]
          constructor
          · intro h
            have h1 := congrArg (List.drop 5) h
            exact h1
          · intro h; rw [h]; rfl
        rw [hb, if_pos rfl, e7, e8, hval]
        cases c.b.toList.isEmpty with
        | false => simp
        | true => simp
      · have hb : ((largeB (cutA o 61)).data.toList == ([66, 79, 68, 89] : List UInt8)) = false := by rw [beq_eq_false_iff_ne]; exact hBd
        have h7 : ((largeB o).data.toList == body7) = false := by
          rw [beq_eq_false_iff_ne]
          intro h
          exact hBd (cut61 o [66, 79, 68, 89] (by decide) [55, 66, 73, 84] h).1
        have h8 : ((largeB o).data.toList == body8) = false := by
          rw [beq_eq_false_iff_ne]
          intro h
          exact hBd (cut61 o [66, 79, 68, 89] (by decide) [56, 66, 73, 84, 77, 73, 77, 69] h).1
        rw [hb, h7, h8]
        simp
/-- Options one behind the other. -/
def foldO : CmdR → List ByteArray → Option CmdR
  | c, [] => some c
  | c, p :: ps => match optC c p with
    | none => none
    | some c' => foldO c' ps
theorem parts_mk (d : UInt8) (s : ByteArray) : partsB s (d.toNat : Int) = (cuts (d.toNat : Int) (bytesOf s)).map strOfNums := rfl
theorem str_bytes2 (s : ByteArray) : strOfNums (bytesOf s) = s := str_bytes s
/-- A text's parts, by its first blank. -/
theorem parts_cut (s : ByteArray) : partsB s 32 = if cutI s 32 < 0 then [s] else cutA s 32 :: partsB (cutB s 32) 32 := by
  rw [partsB]
  have e32 : ((32 : UInt8).toNat : Int) = 32 := rfl
  split
  · rename_i h
    have h1 := Seq.cuts_miss s 32 h
    rw [e32] at h1
    rw [h1, List.map_cons, List.map_nil, str_bytes]
  · rename_i h
    obtain ⟨i, hi⟩ : ∃ i : Nat, cutI s 32 = i := ⟨(cutI s 32).toNat, by omega⟩
    have h1 := (Seq.cuts_hit s 32 i hi).2
    rw [e32] at h1
    rw [h1, cutA, cutB, if_neg h, if_neg h, hi, partsB, List.map_cons, str_bytes]
    rfl
theorem parts_size (s : ByteArray) : ∀ p ∈ partsB s 32, p.size ≤ s.size := by
  have h : ∀ (l cur : List Int), ∀ x ∈ cutsA 32 cur l, x.length ≤ cur.length + l.length := by
    intro l
    induction l with
    | nil => intro cur x hx; rw [cutsA, List.mem_singleton] at hx; rw [hx]; simp
    | cons c l ih =>
      intro cur x hx
      rw [cutsA] at hx
      split at hx
      · rcases List.mem_cons.1 hx with rfl | hx
        · simp
        · have := ih [] x hx
          simp at this ⊢
          omega
      · have := ih _ x hx
        simp at this ⊢
        omega
  intro p hp
  rw [partsB] at hp
  obtain ⟨x, hx, rfl⟩ := List.mem_map.1 hp
  have h1 := h _ _ x hx
  rw [bytesOf_length] at h1
  have h2 : (strOfNums x).size = x.length := by rw [← data_length, strOfNums]; simp
  rw [h2]
  simpa using h1
theorem parts_len (s : ByteArray) : (partsB s 32).length ≤ s.size + 1 := by
  have h : ∀ (l cur : List Int), (cutsA 32 cur l).length ≤ l.length + 1 := by
    intro l
    induction l with
    | nil => intro cur; simp [cutsA]
    | cons c l ih =>
      intro cur
      rw [cutsA]
      split
      · have := ih []
        simp at this ⊢
        omega
      · have := ih (cur ++ [c])
        simp at this ⊢
        omega
  rw [partsB, List.length_map]
  have := h (bytesOf s) []
  rw [bytesOf_length] at this
  exact this
theorem parts_nil : partsB ⟨#[]⟩ 32 = [⟨#[]⟩] := rfl
theorem parts_blank (o T : ByteArray) (h : o.data.toList = 32 :: T.data.toList) : partsB o 32 = ⟨#[]⟩ :: partsB T 32 := by
  have hc : cutI o 32 = (0 : Nat) := by rw [cutI, h]; simp [Lib.indexByte]
  have hA : cutA o 32 = ⟨#[]⟩ := by
    rw [cutA, hc, if_neg (by omega)]
    apply data_inj
    rw [cut_data]; rfl
  have hB : cutB o 32 = T := by
    rw [cutB, hc, if_neg (by omega)]
    apply data_inj
    rw [cut_data, h]
    have e := data_length o
    rw [h] at e
    simp at e
    rw [List.take_of_length_le]
    · rfl
    · simp; omega
  rw [parts_cut, if_neg (by rw [hc]; decide), hA, hB]
theorem empty_eq (o : ByteArray) (h : o.toList.isEmpty = true) : o = ⟨#[]⟩ := by
  apply data_inj
  rw [toList_data, List.isEmpty_iff] at h
  rw [h]
theorem pre_blank (o : ByteArray) (h : preF o 32 = true) : o.data.toList = 32 :: (preT o 32).data.toList := by
  have e : (preT o 32).data.toList = Lib.trimPrefix o.data.toList [32] := rfl
  rw [preF] at h
  rw [e, Lib.trimPrefix, if_pos h]
  rw [has_one] at h
  cases hl : o.data.toList with
  | nil => rw [hl] at h; simp at h
  | cons b l =>
    rw [hl] at h
    have : b = 32 := by simpa using h
    rw [this]; rfl
theorem opts_nil (k : Nat) (c : CmdR) : optsO k c ⟨#[]⟩ = some c := by
  have he : (⟨#[]⟩ : ByteArray).toList.isEmpty = true := by decide +kernel
  cases k with
  | zero => rw [optsO, if_pos he]
  | succ k => rw [optsO, if_pos he]
/-- The options behind a path, part by part. -/
def partsO (c : CmdR) (ps : List ByteArray) : Option CmdR := if (ps.getD 0 ByteArray.empty).toList.isEmpty = true then foldO c (ps.drop 1) else none
theorem opts_parts : ∀ (k : Nat) (c : CmdR) (o : ByteArray), o.size ≤ k → optsO k c o = partsO c (partsB o 32) := by
  intro k
  induction k with
  | zero =>
    intro c o h
    have : o = ⟨#[]⟩ := by
      apply data_inj
      have e := data_length o
      exact (List.eq_nil_of_length_eq_zero (by omega)).trans rfl
    subst this
    rw [opts_nil, parts_nil]
    have he : (⟨#[]⟩ : ByteArray).toList.isEmpty = true := by decide +kernel
    show _ = if (⟨#[]⟩ : ByteArray).toList.isEmpty = true then foldO c [] else none
    rw [if_pos he]
    rfl
  | succ k ih =>
    intro c o h
    have he0 : (⟨#[]⟩ : ByteArray).toList.isEmpty = true := by decide +kernel
    cases he : o.toList.isEmpty with
    | true =>
      have := empty_eq o he
      subst this
      rw [opts_nil, parts_nil]
      show _ = if (⟨#[]⟩ : ByteArray).toList.isEmpty = true then foldO c [] else none
      rw [if_pos he0]
      rfl
    | false =>
      rw [optsO, he, if_neg (by decide)]
      cases hp : preF o 32 with
      | false =>
        rw [if_pos rfl, partsO, parts_cut]
        rw [preF, has_one] at hp
        split
        · rw [if_neg]
          show ¬ (o.toList.isEmpty = true)
          rw [he]; decide
        · rename_i hn
          rw [if_neg]
          show ¬ ((cutA o 32).toList.isEmpty = true)
          obtain ⟨i, hi⟩ : ∃ i : Nat, cutI o 32 = i := ⟨(cutI o 32).toNat, by omega⟩
          have h32 := (Lib.indexByte_some (l := o.data.toList) (c := 32) (o := i) hi).1
          have hlt := cutI_hit o 32 i hi
          rw [cutA, if_neg hn, hi, toList_data, cut_data, List.isEmpty_iff]
          intro hx
          have hx2 := congrArg List.length hx
          have e := data_length o
          simp at hx2
          have hi0 : i = 0 := by
            rcases hx2 with h9 | h9
            · exact h9
            · rw [h9] at hlt; exact absurd hlt (by simp)
          subst hi0
          cases hl : o.data.toList with
          | nil => rw [hl] at e; simp at e; omega
          | cons b l =>
            rw [hl] at h32 hp
            have : b = 32 := by simpa using h32
            rw [this] at hp
            simp at hp
      | true =>
        rw [if_neg (by decide)]
        have hob := pre_blank o hp
        have hsz : o.size = (preT o 32).size + 1 := by
          have e := data_length o
          rw [hob, List.length_cons, data_length] at e
          omega
        obtain ⟨T, hT⟩ : ∃ T, T = preT o 32 := ⟨_, rfl⟩
        rw [← hT] at hob hsz ⊢
        rw [parts_blank o T hob]
        show _ = if (⟨#[]⟩ : ByteArray).toList.isEmpty = true then foldO c (partsB T 32) else none
        rw [if_pos he0, parts_cut T]
        by_cases hn : cutI T 32 < 0
        · have hA : cutA T 32 = T := by rw [cutA, if_pos hn]
          rw [if_pos hn, hA, foldO]
          cases optC c T with
          | none => rfl
          | some c' =>
            show optsO k c' (o.extract (1 + T.size) o.size) = some c'
            have : o.extract (1 + T.size) o.size = ⟨#[]⟩ := by
              apply data_inj
              rw [cut_data]
              have : o.size - (1 + T.size) = 0 := by omega
              rw [this, List.take_zero]
            rw [this, opts_nil]
        · obtain ⟨j, hj⟩ : ∃ j : Nat, cutI T 32 = j := ⟨(cutI T 32).toNat, by omega⟩
          have hlt := cutI_hit T 32 j hj
          have h32 := (Lib.indexByte_some (l := T.data.toList) (c := 32) (o := j) hj).1
          have hA : cutA T 32 = T.extract 0 j := by rw [cutA, if_neg hn, hj]; rfl
          have hB : cutB T 32 = T.extract (j + 1) T.size := by rw [cutB, if_neg hn, hj]; rfl
          have hAz : (cutA T 32).size = j := by rw [hA, ByteArray.size_extract]; omega
          rw [if_neg hn, foldO]
          cases optC c (cutA T 32) with
          | none => rfl
          | some c' =>
            show optsO k c' (o.extract (1 + (cutA T 32).size) o.size) = foldO c' (partsB (cutB T 32) 32)
            rw [hAz]
            have hrest : (o.extract (1 + j) o.size).data.toList = 32 :: (cutB T 32).data.toList := by
              rw [hB, cut_data, cut_data, hob]
              have hl : j < T.data.toList.length := by rw [data_length]; exact hlt
              have e1 : (32 :: T.data.toList).drop (1 + j) = T.data.toList.drop j := by rw [Nat.add_comm]; rfl
              rw [e1, List.take_of_length_le (by rw [List.length_drop, data_length]; omega), List.take_of_length_le (by rw [List.length_drop, data_length]; exact Nat.le_refl _), List.drop_eq_getElem_cons hl]
              rw [List.getElem?_eq_getElem hl] at h32
              rw [Option.some.inj h32]
            rw [ih c' (o.extract (1 + j) o.size) (by rw [ByteArray.size_extract]; omega), parts_blank _ _ hrest]
            show (if (⟨#[]⟩ : ByteArray).toList.isEmpty = true then foldO c' (partsB (cutB T 32) 32) else none) = _
            rw [if_pos he0]
/-- What Take tells, of the parts before the options. -/
theorem take_none (s : ByteArray) (h : takeB s = none) : takeR s = (⟨#[]⟩, ⟨#[]⟩, 0) := by rw [takeR, h]
theorem take_some (s l d o : ByteArray) (h : takeB s = some (l, d, o)) : ∃ n : Nat, 1 ≤ n ∧ n ≤ s.size ∧ takeR s = (l, d, (n : Int)) ∧ s.extract n s.size = o ∧ o.size + n = s.size := by
  have ho := takeB_rest s l d o h
  have hF : cutF s 62 = true := by
    cases hf : cutF s 62 with
    | true => rfl
    | false =>
      rw [takeB, takeI, hf] at h
      cases hp : preF (cutA s 62) 60 <;> rw [hp] at h <;> simp [takeG] at h
  rw [cutF] at hF
  have h0 := of_decide_eq_true hF
  obtain ⟨e, he⟩ : ∃ e : Nat, cutI s 62 = e := ⟨(cutI s 62).toNat, by omega⟩
  have hlt := cutI_hit s 62 e he
  have hB : cutB s 62 = s.extract (e + 1) s.size := by rw [cutB, if_neg (by omega), he]; rfl
  have hz : o.size = s.size - (e + 1) := by rw [ho, hB, ByteArray.size_extract]; omega
  refine ⟨e + 1, by omega, by omega, ?_, by rw [ho, hB], by omega⟩
  rw [takeR, h]
  show (l, d, (s.size : Int) - (o.size : Int)) = _
  have : (s.size : Int) - (o.size : Int) = ((e + 1 : Nat) : Int) := by omega
  rw [this]
end Go.Proofs.YtjggdkcfpdhoaaaGreatDoor.QOpt
