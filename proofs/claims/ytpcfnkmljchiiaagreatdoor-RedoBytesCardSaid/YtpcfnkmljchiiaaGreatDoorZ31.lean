/- Steps towards RBoth: OForm, DLsp. -/
import Derived.Test.YtpcfnkmljchiiaaGreatDoorZ27
import Derived.Test.YtpcfnkmljchiiaaGreatDoorZ30
import Derived.Test.YtpcfnkmljchiiaaGreatDoorZ20
import Derived.Sort.KeysCollected
set_option linter.unusedVariables false
set_option linter.unusedSimpArgs false
section
/- Which changes are in form, as the document says. -/
namespace Go.Proofs.YtpcfnkmljchiiaaGreatDoor.OForm
open Go Go.RowKit Go.Proofs.YtpcfnkmljchiiaaGreatDoorW.PrintWords Right Go.Proofs.YtpcfnkmljchiiaaGreatDoor.ORight Go.Proofs.YtpcfnkmljchiiaaGreatDoor.OPl Go.Proofs.YtpcfnkmljchiiaaGreatDoor.OChk Go.Proofs.YtpcfnkmljchiiaaGreatDoor.OEnc GSix
theorem wid6 (a : Int) (h0 : -9223372036854775808 ≤ a) (h1 : a ≤ 9223372036854775807) : wrap64 a = a := by unfold wrap64; omega
theorem right_l0 (s : ByteArray) (hs : s.size ≤ 1000000000000) : ∀ (m i : Nat), i + m = s.size → postbagref05_Right.l0 (m + 1) s (i : Int) = some ((s.data.toList.drop i).all okC && (decide (0 < s.size) && decide (s.size ≤ 24)))
  | 0, i, h => by
    unfold postbagref05_Right.l0
    rw [if_neg (by omega), List.drop_eq_nil_of_le (by rw [Array.length_toList]; show s.size ≤ i; omega)]
    by_cases h0 : (s.size : Int) > 0
    · rw [if_pos h0, show decide (0 < s.size) = true from decide_eq_true (by omega)]
      simp
      omega
    · rw [if_neg h0, show decide (0 < s.size) = false from decide_eq_false (by omega)]
      rfl
  | m + 1, i, h => by
    have ih := right_l0 s hs m (i + 1) (by omega)
    have hi : i < s.data.toList.length := by rw [Array.length_toList]; show i < s.size; omega
    have hb : bt s (i : Int) = ((s.data.toList[i]'hi).toNat : Int) := by
      have hi2 : i < s.size := by rw [Array.length_toList] at hi; exact hi
      unfold bt
      simp [hi2]
      rfl
    obtain ⟨x, hx⟩ : ∃ x : Int, ((s.data.toList[i]'hi).toNat : Int) = x := ⟨_, rfl⟩
    rw [List.drop_eq_getElem_cons hi, List.all_cons, show okC (s.data.toList[i]'hi) = okI x by rw [← hx]; rfl]
    unfold postbagref05_Right.l0
    rw [if_pos (by omega), if_pos (by omega), hb, hx, show wrap64 ((i : Int) + 1) = ((i + 1 : Nat) : Int) by rw [wid6 _ (by omega) (by omega)]; rfl, ih]
    unfold okI
    by_cases h1 : 97 ≤ x ∧ x ≤ 122 ∨ 48 ≤ x ∧ x ≤ 57 ∨ x = 45 ∨ x = 46
    · rw [show decide (97 ≤ x ∧ x ≤ 122 ∨ 48 ≤ x ∧ x ≤ 57 ∨ x = 45 ∨ x = 46) = true from decide_eq_true h1, Bool.true_and]
      repeat' split
      all_goals first | rfl | (exfalso; omega)
    · rw [show decide (97 ≤ x ∧ x ≤ 122 ∨ 48 ≤ x ∧ x ≤ 57 ∨ x = 45 ∨ x = 46) = false from decide_eq_false h1, Bool.false_and]
      repeat' split
      all_goals first | rfl | (exfalso; omega)
theorem right_f (s : ByteArray) (hs : s.size ≤ 1000000000000) (k : Nat) (hk : s.size < k) : postbagref05_Right.f k s = some (rightB s) := by
  have h := right_l0 s hs s.size 0 (by omega)
  rw [List.drop_zero] at h
  have hm : ∀ d, postbagref05_Right.f (s.size + 1 + d) s = some (rightB s) := by
    intro d
    induction d with
    | zero => exact h
    | succ d ih => exact postbagref05_Right.mono _ _ _ ih
  have := hm (k - (s.size + 1))
  rwa [show s.size + 1 + (k - (s.size + 1)) = k by omega] at this
/-- The name stands already. -/
def dup (L : List Rop) (i j : Nat) (s : ByteArray) : Bool := (((L.take i).map fun o => o.f1).drop j).any fun x => x.data.toList == s.data.toList
theorem rd_at {L : List Rop} {i : Nat} {o : Rop} (h : L[i]? = some o) : rd_T62 L (i : Int) = o := by
  unfold rd_T62
  rw [Int.toNat_natCast, List.getD_eq_getElem?_getD, h]
  rfl
theorem l1_f (L : List Rop) (i : Nat) (o : Rop) (sz : Int) (r : Bool) (K0 : Nat) (hi : i < L.length) (hL : L.length ≤ 16) (hs : o.f1.size ≤ 1000000000) (hb : o.f3.length ≤ 1000000000) (h0 : 0 ≤ sz) (h1 : sz ≤ 1000000000000)
    (hn : ∀ k, K0 ≤ k → postbagref06_Form.l0 k L (sz + (10 + o.f1.size + o.f3.length)) L (L.length : Int) ((i + 1 : Nat) : Int) = some r) :
    ∀ d j, j + d = i → ∀ k, K0 + d + 1 ≤ k → postbagref06_Form.l1 k L sz (i : Int) (j : Int) L (L.length : Int) (i : Int) o.f0 o.f1 o.f2 o.f3 = some (if dup L i j o.f1 = true then false else r)
  | 0, j, hj, k, hk => by
    obtain ⟨k, rfl⟩ : ∃ k', k = k' + 1 := ⟨k - 1, by omega⟩
    unfold postbagref06_Form.l1
    rw [if_neg (by omega), show wrap64 (10 + (o.f1.size : Int)) = 10 + o.f1.size from wid6 _ (by omega) (by omega), show wrap64 (10 + (o.f1.size : Int) + (o.f3.length : Int)) = 10 + o.f1.size + o.f3.length from wid6 _ (by omega) (by omega), show wrap64 (sz + (10 + (o.f1.size : Int) + (o.f3.length : Int))) = sz + (10 + o.f1.size + o.f3.length) from wid6 _ (by omega) (by omega), show wrap64 ((i : Int) + 1) = ((i + 1 : Nat) : Int) by rw [wid6 _ (by omega) (by omega)]; rfl, hn k (by omega)]
    have : dup L i j o.f1 = false := by
      unfold dup
      rw [List.drop_eq_nil_of_le (by rw [List.length_map, List.length_take]; omega)]
      rfl
    rw [this]
    rfl
  | d + 1, j, hj, k, hk => by
    obtain ⟨k, rfl⟩ : ∃ k', k = k' + 1 := ⟨k - 1, by omega⟩
    have ih := l1_f L i o sz r K0 hi hL hs hb h0 h1 hn d (j + 1) (by omega) k (by omega)
    obtain ⟨x, hx⟩ : ∃ x, L[j]? = some x := ⟨_, List.getElem?_eq_getElem (by omega)⟩
    have hd : dup L i j o.f1 = ((x.f1.data.toList == o.f1.data.toList) || dup L i (j + 1) o.f1) := by
      unfold dup
      have hjl : j < ((L.take i).map fun o => o.f1).length := by rw [List.length_map, List.length_take]; omega
      rw [List.drop_eq_getElem_cons hjl, List.any_cons]
      have : ((L.take i).map fun o => o.f1)[j] = x.f1 := by
        have h9 : ((L.take i).map fun o => o.f1)[j]? = some x.f1 := by
          rw [List.getElem?_map, List.getElem?_take, if_pos (by omega), hx]
          rfl
        rw [List.getElem?_eq_getElem hjl] at h9
        exact Option.some.inj h9
      rw [this]
    unfold postbagref06_Form.l1
    rw [if_pos (by omega), if_pos (by omega), if_pos (by omega), rd_at hx, show wrap64 ((j : Int) + 1) = ((j + 1 : Nat) : Int) by rw [wid6 _ (by omega) (by omega)]; rfl, ih, hd, ByteArray.toList_eq, ByteArray.toList_eq]
    by_cases he : x.f1.data.toList = o.f1.data.toList
    · rw [if_pos he, he]
      simp
    · rw [if_neg he, show (x.f1.data.toList == o.f1.data.toList) = false from beq_eq_false_iff_ne.2 he]
      simp
theorem j2_f (L : List Rop) (i : Nat) (o : Rop) (sz : Int) (r : Bool) (K0 : Nat) (hi : i < L.length) (hL : L.length ≤ 16) (hs : o.f1.size ≤ 1000000000) (hb : o.f3.length ≤ 1000000000) (h0 : 0 ≤ sz) (h1 : sz ≤ 1000000000000)
    (hn : ∀ k, K0 ≤ k → postbagref06_Form.l0 k L (sz + (10 + o.f1.size + o.f3.length)) L (L.length : Int) ((i + 1 : Nat) : Int) = some r) (k : Nat) (hk : K0 + i + 2 ≤ k) (b : Bool) :
    postbagref06_Form.j2 k L sz (i : Int) L (L.length : Int) (i : Int) b o.f0 o.f1 o.f2 o.f3 = some (if b = true then false else if dup L i 0 o.f1 = true then false else r) := by
  obtain ⟨k, rfl⟩ : ∃ k', k = k' + 1 := ⟨k - 1, by omega⟩
  have h := l1_f L i o sz r K0 hi hL hs hb h0 h1 hn i 0 (by omega) k (by omega)
  unfold postbagref06_Form.j2
  by_cases hb2 : b = true
  · rw [if_pos hb2, if_pos hb2]
  · rw [if_neg hb2, if_neg hb2]
    exact h
theorem ways (a q : Int) (n : Nat) (D W : Bool) (t : List UInt8) (F R : Option Bool) (hl : 0 ≤ n) (B : Bool)
    (hbd : B = (!(a == 1 || a == 2 || a == 3) || (!(W && !(t == ([114, 101, 100, 111] : List UInt8))) || (D || (decide (q < 0) || (decide (1073741824 < q) || ((a != 1 && q != 0) || (a == 3 && decide (0 < n)))))))))
    (bad : B = true → some false = R) (last : (D = false → ¬ B = true) → (D = true → B = true) → F = R) :
    (if a < 1 then some false else if a > 3 then some false else if W = true then
      if t = ([114, 101, 100, 111] : List UInt8) then some false else if q < 0 then some false else if q > 1073741824 then some false else
      if a = 1 then if a = 3 then if (n : Int) > 0 then some false else F else F
      else if q = 0 then if a = 3 then if (n : Int) > 0 then some false else F else F else some false
     else some false) = R := by
  by_cases a1 : a < 1
  · have : a ≠ 1 ∧ a ≠ 2 ∧ a ≠ 3 := by omega
    rw [if_pos a1]
    exact bad (by rw [hbd]; simp [this.1, this.2.1, this.2.2])
  rw [if_neg a1]
  by_cases a2 : a > 3
  · have : a ≠ 1 ∧ a ≠ 2 ∧ a ≠ 3 := by omega
    rw [if_pos a2]
    exact bad (by rw [hbd]; simp [this.1, this.2.1, this.2.2])
  rw [if_neg a2]
  cases W with
  | false =>
    rw [if_neg (by decide)]
    exact bad (by rw [hbd]; simp)
  | true =>
    rw [if_pos rfl]
    by_cases a4 : t = ([114, 101, 100, 111] : List UInt8)
    · rw [if_pos a4]
      exact bad (by rw [hbd, a4]; simp)
    rw [if_neg a4]
    have a4b : (t == ([114, 101, 100, 111] : List UInt8)) = false := beq_eq_false_iff_ne.2 a4
    by_cases a5 : q < 0
    · rw [if_pos a5]
      exact bad (by rw [hbd]; simp [a5])
    rw [if_neg a5]
    by_cases a6 : q > 1073741824
    · rw [if_pos a6]
      exact bad (by rw [hbd]; simp [show 1073741824 < q from a6])
    rw [if_neg a6]
    have n5 : decide (q < 0) = false := decide_eq_false a5
    have n6 : decide (1073741824 < q) = false := decide_eq_false a6
    rw [a4b, n5, n6] at hbd
    have z : (a == 1 || a == 2 || a == 3) = true := by
      rcases (show a = 1 ∨ a = 2 ∨ a = 3 by omega) with e | e | e <;> rw [e] <;> rfl
    rw [z] at hbd
    by_cases e1 : a = 1
    · rw [e1] at hbd ⊢
      rw [if_pos rfl, if_neg (by decide)]
      exact last (fun hd => by rw [hbd, hd]; simp) (fun hd => by rw [hbd, hd]; simp)
    rw [if_neg e1]
    by_cases a7 : q = 0
    · rw [if_pos a7]
      rw [a7] at hbd
      by_cases e3 : a = 3
      · rw [if_pos e3]
        rw [e3] at hbd
        by_cases a8 : (n : Int) > 0
        · rw [if_pos a8]
          exact bad (by rw [hbd]; simp; omega)
        · rw [if_neg a8]
          have n8 : decide (0 < n) = false := decide_eq_false (by omega)
          rw [n8] at hbd
          exact last (fun hd => by rw [hbd, hd]; simp) (fun hd => by rw [hbd, hd]; simp)
      · rw [if_neg e3]
        exact last (fun hd => by rw [hbd, hd]; simp [e3]) (fun hd => by rw [hbd, hd]; simp)
    · rw [if_neg a7]
      exact bad (by rw [hbd]; simp [a7, e1])
set_option maxHeartbeats 1000000 in
theorem l0_f (L : List Rop) (hL : L.length ≤ 16) (hs : ∀ o ∈ L, o.f1.size ≤ 1000000000 ∧ o.f3.length ≤ 1000000000) : ∀ (m i : Nat) (sz : Int), i + m = L.length → 0 ≤ sz → sz ≤ 1 + 3000000000 * i →
    ∃ K, ∀ k, K ≤ k → postbagref06_Form.l0 k L sz L (L.length : Int) (i : Int) = some (decide (checkGo (L.drop i) ((L.take i).map fun o => o.f1) sz = none))
  | 0, i, sz, h, h0, h1 => ⟨1, fun k hk => by
      obtain ⟨k, rfl⟩ : ∃ k', k = k' + 1 := ⟨k - 1, by omega⟩
      unfold postbagref06_Form.l0
      rw [if_neg (by omega), List.drop_eq_nil_of_le (by omega)]
      unfold checkGo
      by_cases hz : 400000 < sz
      · rw [if_pos hz]
        simp
        omega
      · rw [if_neg hz]
        simp
        omega⟩
  | m + 1, i, sz, h, h0, h1 => by
    obtain ⟨o, ho⟩ : ∃ o, L[i]? = some o := ⟨_, List.getElem?_eq_getElem (by omega)⟩
    obtain ⟨hs1, hb1⟩ := hs o (List.mem_of_getElem? ho)
    obtain ⟨K0, hn⟩ := l0_f L hL hs m (i + 1) (sz + (10 + o.f1.size + o.f3.length)) (by omega) (by omega) (by omega)
    obtain ⟨r, hr⟩ : ∃ r, r = decide (checkGo (L.drop (i + 1)) ((L.take (i + 1)).map fun o => o.f1) (sz + (10 + o.f1.size + o.f3.length)) = none) := ⟨_, rfl⟩
    rw [← hr] at hn
    refine ⟨K0 + i + o.f1.size + 5, fun k hk => ?_⟩
    obtain ⟨k, rfl⟩ : ∃ k', k = k' + 1 := ⟨k - 1, by omega⟩
    have hrt := right_f o.f1 (by omega) k (by omega)
    obtain ⟨seen, hseen⟩ : ∃ seen, seen = (L.take i).map fun o => o.f1 := ⟨_, rfl⟩
    have hD : L.drop i = o :: L.drop (i + 1) := by rw [List.drop_eq_getElem_cons (by omega), (List.getElem?_eq_some_iff.1 ho).2]
    have hT : (L.take (i + 1)).map (fun o => o.f1) = seen ++ [o.f1] := by rw [List.take_add_one, ho, List.map_append, hseen]; rfl
    have hdup : dup L i 0 o.f1 = seen.any (fun x => x.data.toList == o.f1.data.toList) := by unfold dup; rw [List.drop_zero, hseen]
    have hC : checkGo (L.drop i) seen sz = if badOp o seen = true then some 2 else if 400000 < o.f3.length then some 2 else checkGo (L.drop (i + 1)) (seen ++ [o.f1]) (sz + (10 + o.f1.size + o.f3.length)) := by rw [hD]; rfl
    obtain ⟨D, hDu⟩ : ∃ D, D = (seen.any fun x => x.data.toList == o.f1.data.toList) := ⟨_, rfl⟩
    have hj : ∀ b, postbagref06_Form.j2 k L sz (i : Int) L (L.length : Int) (i : Int) b o.f0 o.f1 o.f2 o.f3 = some (if b = true then false else if D = true then false else r) := fun b => by
      rw [hDu, ← hdup]
      exact j2_f L i o sz r K0 (by omega) hL hs1 hb1 h0 (by omega) hn k (by omega) b
    rw [hT] at hr
    rw [← hseen, hC]
    have bad : badOp o seen = true → some false = some (decide ((if badOp o seen = true then some 2 else if 400000 < o.f3.length then some 2 else checkGo (L.drop (i + 1)) (seen ++ [o.f1]) (sz + (10 + o.f1.size + o.f3.length))) = none)) := fun hb => by rw [if_pos hb]; rfl
    have fin : ¬ badOp o seen = true → some (if decide (((o.f3.length : Nat) : Int) > 400000) = true then false else r) = some (decide ((if badOp o seen = true then some 2 else if 400000 < o.f3.length then some 2 else checkGo (L.drop (i + 1)) (seen ++ [o.f1]) (sz + (10 + o.f1.size + o.f3.length))) = none)) := fun hb => by
      rw [if_neg hb]
      by_cases hl : 400000 < o.f3.length
      · rw [if_pos hl, if_pos (by simp; omega)]
        rfl
      · rw [if_neg hl, if_neg (by simp; omega), hr]
    unfold postbagref06_Form.l0
    rw [if_pos (by omega), if_pos (by omega), if_pos (by omega), rd_at ho]
    rw [hrt, Option.bind_some]
    repeat rw [hj]
    have hbd : badOp o seen = (!(o.f0 == 1 || o.f0 == 2 || o.f0 == 3) || (!(rightB o.f1 && !(o.f1.toList == ([114, 101, 100, 111] : List UInt8))) || ((seen.any fun x => x.data.toList == o.f1.data.toList) || (decide (o.f2 < 0) || (decide (1073741824 < o.f2) || ((o.f0 != 1 && o.f2 != 0) || (o.f0 == 3 && decide (0 < o.f3.length)))))))) := rfl
    rw [← hDu] at hbd
    have last : (D = false → ¬ badOp o seen = true) → (D = true → badOp o seen = true) → some (if decide (((o.f3.length : Nat) : Int) > 400000) = true then false else if D = true then false else r) = some (decide ((if badOp o seen = true then some 2 else if 400000 < o.f3.length then some 2 else checkGo (L.drop (i + 1)) (seen ++ [o.f1]) (sz + (10 + o.f1.size + o.f3.length))) = none)) := fun h1 h2 => by
      cases D with
      | true =>
        rw [← bad (h2 rfl)]
        split <;> rfl
      | false => exact fin (h1 rfl)
    clear hj hrt hn hC
    have hY : some (if true = true then false else if D = true then false else r) = some false := rfl
    rw [hY]
    clear hY
    obtain ⟨F, hF⟩ : ∃ F, F = some (if decide (((o.f3.length : Nat) : Int) > 400000) = true then false else if D = true then false else r) := ⟨_, rfl⟩
    obtain ⟨R, hR⟩ : ∃ R : Option Bool, R = some (decide ((if badOp o seen = true then some 2 else if 400000 < o.f3.length then some 2 else checkGo (L.drop (i + 1)) (seen ++ [o.f1]) (sz + (10 + o.f1.size + o.f3.length))) = none)) := ⟨_, rfl⟩
    rw [← hF, ← hR] at last
    rw [← hR] at bad
    rw [← hF, ← hR]
    clear hF hR fin hr h0 h1
    have hl : 0 ≤ o.f3.length := Nat.zero_le _
    exact ways o.f0 o.f2 o.f3.length D (rightB o.f1) o.f1.toList F R hl _ hbd bad last
theorem j0_f (k : Nat) (L : List Rop) (b : Bool) : postbagref06_Form.j0 (k + 1) L b = if b = true then some false else postbagref06_Form.l0 k L 1 L (L.length : Int) 0 := by
  unfold postbagref06_Form.j0
  rfl
/-- The document's Form is the program's. -/
theorem form_f (L : List Rop) (hl : L.length ≤ 1000000000) (hs : ∀ o ∈ L, o.f1.size ≤ 1000000000 ∧ o.f3.length ≤ 1000000000) : ∃ k, postbagref06_Form.f k L = some (decide (checkL L = none)) := by
  by_cases h0 : L.length = 0
  · refine ⟨1, ?_⟩
    unfold postbagref06_Form.f
    rw [if_pos (by omega), j0_f, if_pos rfl, show checkL L = some 2 from if_pos (.inl h0)]
    rfl
  by_cases h1 : 16 < L.length
  · refine ⟨1, ?_⟩
    unfold postbagref06_Form.f
    rw [if_neg (by omega), j0_f, if_pos (decide_eq_true (by omega)), show checkL L = some 2 from if_pos (.inr h1)]
    rfl
  · obtain ⟨K, hK⟩ := l0_f L (by omega) hs L.length 0 1 (by omega) (by omega) (by omega)
    refine ⟨K + 1, ?_⟩
    unfold postbagref06_Form.f
    rw [if_neg (by omega), j0_f, if_neg (by rw [decide_eq_true_eq]; omega)]
    have := hK K (Nat.le_refl _)
    rw [List.drop_zero] at this
    rw [show checkL L = checkGo L [] 1 from if_neg (by omega)]
    exact this
end Go.Proofs.YtpcfnkmljchiiaaGreatDoor.OForm
end
section
/- Names that rise are sorted. -/
namespace Go.Proofs.YtpcfnkmljchiiaaGreatDoor.DLsp
open Go Go.RowKit Go.Maps Go.WideShapes Go.Sort DPl DAt DDo DRdp DRl
theorem bb_lt : ∀ a b : List UInt8, bytesBefore a b = true → a < b
  | [], [], h => by simp [bytesBefore] at h
  | [], y :: b, _ => List.nil_lt_cons y b
  | x :: a, [], h => by simp [bytesBefore] at h
  | x :: a, y :: b, h => by
    rw [List.cons_lt_cons_iff]
    unfold bytesBefore at h
    by_cases hxy : x = y
    · subst hxy
      exact .inr ⟨rfl, bb_lt a b (by simpa using h)⟩
    · exact .inl (by simpa [hxy] using h)
theorem rising_sort {N : Nms} (hN : Rising N) : (N.map Prod.fst).mergeSort (fun x y => decide (x ≤ y)) = N.map Prod.fst := by
  refine List.mergeSort_of_pairwise ?_
  rw [List.pairwise_map]
  refine List.Pairwise.imp ?_ hN
  intro p q h
  exact decide_eq_true (List.le_of_lt (bb_lt _ _ h))
theorem keys_sorted {N : Nms} (hN : Rising N) {ss : List (List UInt8)} (hp : ss.Perm (N.map Prod.fst)) : ss.mergeSort (fun x y => decide (x ≤ y)) = N.map Prod.fst :=
  (mergeSort_of_perm hp).trans (rising_sort hN)
end Go.Proofs.YtpcfnkmljchiiaaGreatDoor.DLsp
end
