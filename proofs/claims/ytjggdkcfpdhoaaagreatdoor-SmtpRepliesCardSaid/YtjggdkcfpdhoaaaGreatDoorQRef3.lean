/- The printed Take of layer 8's document, run; plain Lean. -/
import Derived.Test.YtjggdkcfpdhoaaaGreatDoorQRef2
import Derived.Test.YtjggdkcfpdhoaaaGreatDoorBase
namespace Go.Proofs.YtjggdkcfpdhoaaaGreatDoor.QRef3
open Go Go.RowKit Go.Proofs.YtjggdkcfpdhoaaaGreatDoorW.PrintWords Go.Proofs.YtjggdkcfpdhoaaaGreatDoor.Dots Go.Proofs.YtjggdkcfpdhoaaaGreatDoor.Large Go.Proofs.YtjggdkcfpdhoaaaGreatDoor.Path Go.Proofs.YtjggdkcfpdhoaaaGreatDoor.Dotted Go.Proofs.YtjggdkcfpdhoaaaGreatDoor.Take Go.Proofs.YtjggdkcfpdhoaaaGreatDoor.GSmtp Go.Proofs.YtjggdkcfpdhoaaaGreatDoor.QRef Go.Proofs.YtjggdkcfpdhoaaaGreatDoor.QRef2
set_option linter.unusedVariables false
set_option linter.unusedSimpArgs false
theorem data_inj {a b : ByteArray} (h : a.data.toList = b.data.toList) : a = b := ByteArray.ext (Array.toList_inj.1 h)
theorem cut_data (s : ByteArray) (j i : Nat) : (s.extract j i).data.toList = (s.data.toList.drop j).take (i - j) := by
  obtain ⟨⟨l⟩⟩ := s
  rw [ByteArray.extract_mk]
theorem lift_k {α : Type} {f : Nat → Option α} (h : ∀ k, LeO (f k) (f (k + 1))) {k m : Nat} {r : α} (hk : f k = some r) (hm : k ≤ m) : f m = some r := by
  induction m with
  | zero => obtain rfl : k = 0 := by omega
            exact hk
  | succ m ih =>
    rcases Nat.lt_or_ge m k with h1 | h1
    · obtain rfl : k = m + 1 := by omega
      exact hk
    · exact h m _ (ih h1)
theorem none_of (d : UInt8) : ∀ l : List UInt8, d ∉ l → Lib.indexByte l d = -1
  | [], _ => rfl
  | b :: l, h => by
    have h1 : (b == d) = false := by
      rw [beq_eq_false_iff_ne]
      exact fun e => h (by simp [e])
    rw [Lib.indexByte, h1, none_of d l (fun m => h (List.mem_cons_of_mem _ m))]
    rfl
theorem first_of (d : UInt8) : ∀ (l : List UInt8) (i : Nat), l[i]? = some d → d ∉ l.take i → Lib.indexByte l d = i
  | [], i, h, _ => by simp at h
  | b :: l, 0, h, _ => by
    obtain rfl : b = d := by simpa using h
    simp [Lib.indexByte]
  | b :: l, i + 1, h, hn => by
    rw [List.take_succ_cons] at hn
    have h1 : (b == d) = false := by
      rw [beq_eq_false_iff_ne]
      exact fun e => hn (by simp [e])
    have h2 := first_of d l i (by simpa using h) (fun m => hn (List.mem_cons_of_mem _ m))
    have h3 : (((i : Nat) : Int) == -1) = false := by rw [beq_eq_false_iff_ne]; omega
    rw [Lib.indexByte, h1, h2, h3]
    simp
theorem data_at (s : ByteArray) (i : Nat) (h : i < s.size) : s.data.toList[i]? = some ((bt s (i : Int)).toNat.toUInt8) := by
  have hl : i < s.data.toList.length := by rw [data_length]; exact h
  have e := btD_at s i h
  rw [bytesOf, List.getD_eq_getElem?_getD, List.getElem?_map, List.getElem?_eq_getElem hl] at e
  rw [List.getElem?_eq_getElem hl, e]
  simp
theorem at_eq (s : ByteArray) (i : Nat) (h : i < s.size) (d : UInt8) : ((bt s (i : Int)).toNat.toUInt8 = d) ↔ bt s (i : Int) = (d.toNat : Int) := by
  have hr := bt_range s i h
  constructor
  · intro e
    rw [← e, UInt8.toNat_ofNat']
    omega
  · intro e
    rw [e]
    simp
theorem index_take (d : UInt8) : ∀ (l : List UInt8) (i : Nat) (b : UInt8), l[i]? = some b →
    Lib.indexByte (l.take (i + 1)) d = if 0 ≤ Lib.indexByte (l.take i) d then Lib.indexByte (l.take i) d else if b = d then (i : Int) else -1
  | [], i, b, h => by simp at h
  | x :: l, 0, b, h => by
    obtain rfl : x = b := by simpa using h
    simp [Lib.indexByte]
  | x :: l, i + 1, b, h => by
    have ih := index_take d l i b (by simpa using h)
    have hge := Lib.indexByte_ge (l.take i) d
    rw [List.take_succ_cons, List.take_succ_cons, Lib.indexByte, Lib.indexByte, ih]
    by_cases hx : x == d
    · rw [if_pos hx]; simp [hx]
    · rw [if_neg hx]
      by_cases h0 : 0 ≤ Lib.indexByte (l.take i) d
      · have h1 : (Lib.indexByte (l.take i) d == -1) = false := by rw [beq_eq_false_iff_ne]; omega
        simp only [if_pos h0, h1, hx, Bool.false_eq_true, if_false]
        rw [if_pos (by omega)]
      · have h1 : Lib.indexByte (l.take i) d = -1 := by omega
        by_cases hb : b = d
        · rw [if_neg h0, if_pos hb]
          have : (((i : Int)) == -1) = false := by rw [beq_eq_false_iff_ne]; omega
          simp only [this, h1, hx, Bool.false_eq_true, if_false]
          simp [hb]
        · simp [h1, hx, hb]
/-- Where '@' stands among the first i bytes. -/
def atI (s : ByteArray) (i : Nat) : Int := Lib.indexByte (s.data.toList.take i) 64
theorem at_step (s : ByteArray) (i : Nat) (h : i < s.size) : atI s (i + 1) = if 0 ≤ atI s i then atI s i else if bt s (i : Int) = 64 then (i : Int) else -1 := by
  rw [atI, index_take 64 _ i _ (data_at s i h)]
  have := at_eq s i h 64
  have e : ((64 : UInt8).toNat : Int) = 64 := rfl
  rw [e] at this
  simp only [this]
  rfl
theorem at_ge (s : ByteArray) (i : Nat) : -1 ≤ atI s i := Lib.indexByte_ge _ _
theorem at_lt (s : ByteArray) (i : Nat) (h : i ≤ s.size) : atI s i < i := by
  induction i with
  | zero => simp [atI, Lib.indexByte]
  | succ i ih =>
    rw [at_step s i (by omega)]
    have := ih (by omega)
    split
    · omega
    · split <;> omega
/-- What Take tells. -/
def takeR (s : ByteArray) : ByteArray × ByteArray × Int := match takeB s with
  | none => (⟨#[]⟩, ⟨#[]⟩, 0)
  | some (l, d, q) => (l, d, (s.size : Int) - q.size)
theorem has_one (l : List UInt8) (d : UInt8) : Lib.hasPrefix l [d] = (l.head? == some d) := by
  cases l with
  | nil => rfl
  | cons b l =>
    have c1 : (d == b) = (b == d) := BEq.comm
    simp only [Lib.hasPrefix, List.isPrefixOf_cons_cons, c1, List.head?_cons]
    have : ([] : List UInt8).isPrefixOf l = true := rfl
    rw [this, Bool.and_true]
    rfl
theorem j3_val (K : Nat) (s : ByteArray) (j e : Nat) (bl bd : Bool) (h1 : postbagref08_Local.f K (s.extract 1 (j + 1)) = some bl) (h2 : postbagref08_Domain.f K (s.extract (j + 2) e) = some bd) (hj : j + 2 ≤ e) (he : e < s.size) (hs : s.size ≤ 1000000) :
    postbagref08_Take.j3 (K + 1) s ((j + 1 : Nat) : Int) (e : Int) false = some (if (bl && bd) = true then (s.extract 1 (j + 1), s.extract (j + 2) e, ((e + 1 : Nat) : Int)) else (⟨#[]⟩, ⟨#[]⟩, 0)) := by
  have ew : wrap64 (((j + 1 : Nat) : Int) + 1) = ((j + 2 : Nat) : Int) := by unfold wrap64; omega
  have ew2 : wrap64 ((e : Int) + 1) = ((e + 1 : Nat) : Int) := by unfold wrap64; omega
  have c1 : ¬ (e : Int) = 1 := by omega
  have c2 : ¬ ((j + 1 : Nat) : Int) < 0 := by omega
  have c3 : (1 : Int) ≤ ((j + 1 : Nat) : Int) := by omega
  have c4 : ((j + 1 : Nat) : Int) ≤ (s.size : Int) := by omega
  have c5 : (0 : Int) ≤ ((j + 2 : Nat) : Int) := by omega
  have c6 : ((j + 2 : Nat) : Int) ≤ (e : Int) := by omega
  have c7 : (e : Int) ≤ (s.size : Int) := by omega
  rw [postbagref08_Take.j3, if_neg (by decide), if_neg c1, if_neg c2, if_pos c3, if_pos c4, Int.toNat_natCast, h1, ew, Option.bind_some]
  cases bl with
  | false => rfl
  | true =>
    rw [if_pos rfl, if_pos c5, if_pos c6, if_pos c7, Int.toNat_natCast, Int.toNat_natCast, h2, ew2, Option.bind_some]
    cases bd <;> rfl
theorem take_end (s : ByteArray) (hs : s.size ≤ 1000000) (e : Nat) (he : cutI s 62 = e) : ∃ k, postbagref08_Take.l0 k s (atI s e) (e : Int) ((e + 1 : Nat) : Int) = some (takeR s) := by
  have hlt := cutI_hit s 62 e he
  have h62 : bt s (e : Int) = 62 := by
    have h1 := (Seq.cuts_hit s 62 e he)
    have h2 := (at_eq s e hlt 62).1 (by
      have h3 := data_at s e hlt
      have h4 := (Lib.indexByte_some (l := s.data.toList) (c := 62) (o := e) he).1
      rw [h4] at h3
      exact (Option.some.inj h3).symm)
    simpa using h2
  have hA : cutA s 62 = s.extract 0 e := by
    rw [cutA, if_neg (by omega), he]; rfl
  have hB : cutB s 62 = s.extract (e + 1) s.size := by
    rw [cutB, if_neg (by omega), he]; rfl
  have hF : cutF s 62 = true := by rw [cutF, he]; simp
  have hBz : (cutB s 62).size = s.size - (e + 1) := by rw [hB, ByteArray.size_extract]; omega
  have hj1 : ∀ K, ∃ b, b = false ∧ postbagref08_Take.l0 (K + 1) s (atI s e) (e : Int) ((e + 1 : Nat) : Int) = postbagref08_Take.j1 K s (atI s e) (e : Int) ((e + 1 : Nat) : Int) b := fun K => by
    refine ⟨false, rfl, ?_⟩
    rw [postbagref08_Take.l0, decide_eq_false (show ¬ (e : Int) < 0 by omega)]
    simp
  have hj3 : ∀ K, postbagref08_Take.l0 (K + 2) s (atI s e) (e : Int) ((e + 1 : Nat) : Int) = postbagref08_Take.j3 K s (atI s e) (e : Int) (bt s 0 != 60) := fun K => by
    obtain ⟨b, rfl, h⟩ := hj1 (K + 1)
    rw [h, postbagref08_Take.j1, if_neg (by decide), if_neg (by omega), if_pos (by omega)]
  by_cases h60 : bt s 0 = 60
  · have he1 : 1 ≤ e := by
      rcases Nat.eq_zero_or_pos e with h0 | h0
      · subst h0
        have : bt s ((0 : Nat) : Int) = bt s 0 := rfl
        rw [this, h60] at h62
        exact absurd h62 (by decide)
      · exact h0
    have hne : (bt s 0 != 60) = false := by rw [h60]; rfl
    obtain ⟨rest, hD⟩ : ∃ rest, s.data.toList = 60 :: rest := by
      have h0 := data_at s 0 (by omega)
      have : bt s ((0 : Nat) : Int) = 60 := h60
      rw [this] at h0
      cases hl : s.data.toList with
      | nil => rw [hl] at h0; simp at h0
      | cons x r =>
        rw [hl] at h0
        have : x = (60 : Int).toNat.toUInt8 := by simpa using h0
        exact ⟨r, by rw [this]; rfl⟩
    have hP : preF (cutA s 62) 60 = true := by
      rw [preF, hA, cut_data, hD, has_one]
      obtain ⟨e', rfl⟩ : ∃ e', e = e' + 1 := ⟨e - 1, by omega⟩
      simp
    have hT : preT (cutA s 62) 60 = s.extract 1 e := by
      apply data_inj
      show Lib.trimPrefix (cutA s 62).data.toList [60] = _
      rw [Lib.trimPrefix]
      rw [preF] at hP
      rw [if_pos hP, hA, cut_data, cut_data, hD]
      obtain ⟨e', rfl⟩ : ∃ e', e = e' + 1 := ⟨e - 1, by omega⟩
      simp
    obtain ⟨i, hi⟩ : ∃ i, i = s.extract 1 e := ⟨_, rfl⟩
    have hid : i.data.toList = rest.take (e - 1) := by rw [hi, cut_data, hD]; rfl
    have hiz : i.size = e - 1 := by rw [hi, ByteArray.size_extract]; omega
    have hAt : atI s e = if cutI i 64 < 0 then -1 else cutI i 64 + 1 := by
      rw [atI, cutI, hid, hD]
      obtain ⟨e', rfl⟩ : ∃ e', e = e' + 1 := ⟨e - 1, by omega⟩
      rw [List.take_succ_cons, Lib.indexByte]
      have hge := Lib.indexByte_ge (rest.take e') 64
      have h1 : ((60 : UInt8) == 64) = false := by decide
      rw [h1, Nat.add_sub_cancel]
      by_cases hm : Lib.indexByte (rest.take e') 64 = -1
      · rw [hm]; rfl
      · have : (Lib.indexByte (rest.take e') 64 == -1) = false := by simpa using hm
        rw [this, if_neg (show ¬ Lib.indexByte (rest.take e') 64 < 0 by omega)]
        simp
    have hie : i.toList.isEmpty = decide (e = 1) := by
      have : i.toList.length = e - 1 := by rw [toList_data, data_length, hiz]
      rw [Bool.eq_iff_iff, List.isEmpty_iff_length_eq_zero, this, decide_eq_true_eq]
      omega
    have hR : takeB s = takeG true true (decide (e = 1)) (cutF i 64) (localB (cutA i 64)) (domainB (cutB i 64)) (cutA i 64) (cutB i 64) (cutB s 62) := by
      rw [takeB, takeI, hP, hF, hT, ← hi, hie]
    by_cases e1 : e = 1
    · refine ⟨3, ?_⟩
      rw [hj3, hne, postbagref08_Take.j3, if_neg (by decide), if_pos (by omega), takeR, hR, decide_eq_true e1]
      have hi0 : i = ⟨#[]⟩ := by
        apply data_inj
        rw [hid, e1]; rfl
      show some (_, _, _) = some (cutA i 64, cutB i 64, (s.size : Int) - (cutB s 62).size)
      have e2 : (s.size : Int) - ((cutB s 62).size : Int) = 2 := by rw [hBz]; omega
      rw [e2, hi0]
      rfl
    · by_cases hc : cutI i 64 < 0
      · refine ⟨3, ?_⟩
        have hf : cutF i 64 = false := by rw [cutF]; exact decide_eq_false (by omega)
        rw [hj3, hne, postbagref08_Take.j3, if_neg (by decide), if_neg (by omega), hAt, if_pos hc, if_pos (by decide), takeR, hR, decide_eq_false e1, hf]
        rfl
      · have hf : cutF i 64 = true := by rw [cutF]; exact decide_eq_true (by omega)
        obtain ⟨j, hj⟩ : ∃ j : Nat, cutI i 64 = j := ⟨(cutI i 64).toNat, by omega⟩
        have hjlt := cutI_hit i 64 j hj
        have hA2 : cutA i 64 = s.extract 1 (j + 1) := by
          rw [cutA, if_neg hc, hj, hi]
          apply data_inj
          rw [cut_data, cut_data, cut_data, Int.toNat_natCast, Nat.sub_zero, List.drop_zero, List.take_take]
          congr 1
          omega
        have hB2 : cutB i 64 = s.extract (j + 2) e := by
          rw [cutB, if_neg hc, hj, hiz, hi]
          apply data_inj
          rw [cut_data, cut_data, cut_data, Int.toNat_natCast, List.drop_take, List.take_take, List.drop_drop]
          congr 1
          · omega
          · congr 1
            omega
        have hAe : atI s e = (j + 1 : Nat) := by rw [hAt, if_neg hc, hj]; rfl
        obtain ⟨k1, hk1⟩ := local_f (s.extract 1 (j + 1)) (by rw [ByteArray.size_extract]; omega)
        obtain ⟨k2, hk2⟩ := domain_f (s.extract (j + 2) e) (by rw [ByteArray.size_extract]; omega)
        have hk1' := lift_k (f := fun k => postbagref08_Local.f k (s.extract 1 (j + 1))) (fun k => postbagref08_Local.mono _ k) hk1 (Nat.le_max_left k1 k2)
        have hk2' := lift_k (f := fun k => postbagref08_Domain.f k (s.extract (j + 2) e)) (fun k => postbagref08_Domain.mono _ k) hk2 (Nat.le_max_right k1 k2)
        have hval := j3_val (max k1 k2) s j e _ _ hk1' hk2' (by omega) hlt hs
        have e2 : (s.size : Int) - ((cutB s 62).size : Int) = ((e + 1 : Nat) : Int) := by rw [hBz]; omega
        refine ⟨max k1 k2 + 3, ?_⟩
        rw [hj3, hne, hAe, hval, takeR, hR, decide_eq_false e1, hf, hA2, hB2]
        cases localB (s.extract 1 (j + 1)) with
        | false => rfl
        | true =>
          cases domainB (s.extract (j + 2) e) with
          | false => rfl
          | true =>
            show some (s.extract 1 (j + 1), s.extract (j + 2) e, ((e + 1 : Nat) : Int)) = some (s.extract 1 (j + 1), s.extract (j + 2) e, (s.size : Int) - ((cutB s 62).size : Int))
            rw [e2]
  · have hne : (bt s 0 != 60) = true := by simpa using h60
    refine ⟨3, ?_⟩
    have hP : preF (cutA s 62) 60 = false := by
      rw [preF, hA, cut_data, has_one]
      have h0 := data_at s 0 (by omega)
      cases hl : s.data.toList with
      | nil => simp
      | cons x r =>
        rw [hl] at h0
        have hx : x = (bt s 0).toNat.toUInt8 := by simpa using h0
        cases e with
        | zero => simp
        | succ e' =>
          have : ¬ x = 60 := fun ex => h60 (by
            have := (at_eq s 0 (by omega) 60).1 (by rw [← ex, hx]; rfl)
            simpa using this)
          simpa using this
    rw [hj3, hne, postbagref08_Take.j3, if_pos rfl, takeR, takeB, takeI, hP]
    rfl
theorem take_l0 (s : ByteArray) (hs : s.size ≤ 1000000) : ∀ (m i : Nat), i + m = s.size → (62 : UInt8) ∉ s.data.toList.take i → ∃ k, postbagref08_Take.l0 k s (atI s i) (-1) (i : Int) = some (takeR s) := by
  intro m
  induction m with
  | zero =>
    intro i hi hn
    have hall : s.data.toList.take i = s.data.toList := List.take_of_length_le (by rw [data_length]; omega)
    rw [hall] at hn
    have hF : cutF s 62 = false := by
      rw [cutF, cutI, none_of 62 s.data.toList hn]
      rfl
    refine ⟨3, ?_⟩
    rw [postbagref08_Take.l0, if_neg (by omega), postbagref08_Take.j1, if_neg (by decide), if_pos (by decide), postbagref08_Take.j3, if_pos rfl, takeR, takeB, takeI, hF]
    cases preF (cutA s 62) 60 <;> rfl
  | succ m ih =>
    intro i hi hn
    have hlt : i < s.size := by omega
    have e1 := w_succ i s.size hlt hs
    have hat := at_step s i hlt
    have hge := at_ge s i
    by_cases c62 : bt s (i : Int) = 62
    · have hcut : cutI s 62 = i := first_of 62 s.data.toList i (by rw [data_at s i hlt]; congr 1; exact (at_eq s i hlt 62).2 (by rw [c62]; rfl)) hn
      obtain ⟨k, hk⟩ := take_end s hs i hcut
      refine ⟨k + 3, ?_⟩
      rw [postbagref08_Take.l0, if_pos (by omega), postbagref08_Take.j1, if_pos (by decide), if_pos (by omega), if_pos (by omega), if_neg (by rw [c62]; decide), postbagref08_Take.j2, if_neg (by decide), if_pos (by omega), if_pos (by omega), if_pos c62, e1]
      exact hk
    · have hn2 : (62 : UInt8) ∉ s.data.toList.take (i + 1) := by
        rw [List.take_add_one, data_at s i hlt]
        intro hm
        rcases List.mem_append.1 hm with h | h
        · exact hn h
        · have : (62 : UInt8) = (bt s (i : Int)).toNat.toUInt8 := by simpa using h
          exact c62 (by have := (at_eq s i hlt 62).1 this.symm; simpa using this)
      obtain ⟨k, hk⟩ := ih (i + 1) (by omega) hn2
      refine ⟨k + 3, ?_⟩
      rw [postbagref08_Take.l0, if_pos (by omega), postbagref08_Take.j1, if_pos (by decide), if_pos (by omega), if_pos (by omega)]
      by_cases c64 : bt s (i : Int) = 64
      · rw [if_pos c64, postbagref08_Take.j2]
        by_cases ha : 0 ≤ atI s i
        · rw [decide_eq_false (by omega), if_neg (by decide), if_pos (by omega), if_pos (by omega), if_neg c62, e1]
          rw [hat, if_pos ha] at hk
          exact hk
        · rw [decide_eq_true (by omega), if_pos rfl, if_pos (by omega), if_pos (by omega), if_neg c62, e1]
          rw [hat, if_neg ha, if_pos c64] at hk
          exact hk
      · rw [if_neg c64, postbagref08_Take.j2, if_neg (by decide), if_pos (by omega), if_pos (by omega), if_neg c62, e1]
        have hsame : atI s (i + 1) = atI s i := by
          rw [hat, if_neg c64]
          split
          · rfl
          · omega
        rw [hsame] at hk
        exact hk
theorem take_f (s : ByteArray) (hs : s.size ≤ 1000000) : ∃ k, postbagref08_Take.f k s = some (takeR s) := by
  obtain ⟨k, hk⟩ := take_l0 s hs s.size 0 (by omega) (by simp)
  exact ⟨k, hk⟩
end Go.Proofs.YtjggdkcfpdhoaaaGreatDoor.QRef3
