/- Rows of texts, rising, each once: two of the same members are one. -/
import Derived.Lib.SlicesCompact
namespace Go.Proofs.Ythlofokgbogndab.So
abbrev L := List UInt8
theorem irr (x : L) : ¬ x < x := List.lt_irrefl x
theorem tr {x y z : L} (h1 : x < y) (h2 : y < z) : x < z := List.lt_trans h1 h2
theorem tri (x y : L) : x < y ∨ x = y ∨ y < x := by
  by_cases h1 : x < y
  · exact .inl h1
  · by_cases h2 : y < x
    · exact .inr (.inr h2)
    · exact .inr (.inl (List.le_antisymm (List.not_lt.1 h2) (List.not_lt.1 h1)))
theorem le_iff (x y : L) : x ≤ y ↔ ¬ y < x := Iff.rfl
theorem le_lt {x y z : L} (h1 : ¬ y < x) (h2 : y < z) : x < z := by
  rcases tri x y with h | h | h
  · exact tr h h2
  · rw [h]; exact h2
  · exact absurd h h1
theorem lt_le {x y z : L} (h1 : x < y) (h2 : ¬ z < y) : x < z := by
  rcases tri y z with h | h | h
  · exact tr h1 h
  · rw [← h]; exact h1
  · exact absurd h h2
def SS (l : List L) : Prop := l.Pairwise (· < ·)
theorem unique : ∀ (a b : List L), SS a → SS b → (∀ x, x ∈ a ↔ x ∈ b) → a = b
  | [], [], _, _, _ => rfl
  | [], y :: b, _, _, h => by have := (h y).2 (by simp); simp at this
  | x :: a, [], _, _, h => by have := (h x).1 (by simp); simp at this
  | x :: a, y :: b, ha, hb, h => by
    obtain ⟨ha1, ha2⟩ := List.pairwise_cons.1 ha
    obtain ⟨hb1, hb2⟩ := List.pairwise_cons.1 hb
    have e : x = y := by
      rcases List.mem_cons.1 ((h x).1 (by simp)) with e | h1
      · exact e
      · rcases List.mem_cons.1 ((h y).2 (by simp)) with e | h2
        · exact e.symm
        · exact absurd (tr (hb1 x h1) (ha1 y h2)) (irr y)
    subst e
    congr 1
    refine unique a b ha2 hb2 fun z => ?_
    constructor
    · intro hz
      rcases List.mem_cons.1 ((h z).1 (List.mem_cons_of_mem _ hz)) with e | h1
      · subst e; exact absurd (ha1 z hz) (irr z)
      · exact h1
    · intro hz
      rcases List.mem_cons.1 ((h z).2 (List.mem_cons_of_mem _ hz)) with e | h1
      · subst e; exact absurd (hb1 z hz) (irr z)
      · exact h1
/-! ### Compact of a rising row -/
theorem compact_ok (d : Array L) (hd : ∀ i j, i < j → j < d.size → ¬ d[j]! < d[i]!) : ∀ m, m ≤ d.size → SS (Lib.compactUpTo d m) ∧ (∀ x, x ∈ Lib.compactUpTo d m ↔ ∃ j, j < m ∧ d[j]! = x)
  | 0, _ => ⟨List.Pairwise.nil, fun x => by simp [Lib.compactUpTo]⟩
  | m + 1, hm => by
    obtain ⟨h1, h2⟩ := compact_ok d hd m (by omega)
    rw [Lib.compactUpTo_succ]
    by_cases hk : Lib.keeps d m = true
    · rw [if_pos hk]
      constructor
      · refine List.pairwise_append.2 ⟨h1, List.pairwise_singleton _ _, fun a ha b hb => ?_⟩
        obtain rfl := List.mem_singleton.1 hb
        obtain ⟨j, hj, rfl⟩ := (h2 a).1 ha
        have hk' := of_decide_eq_true hk
        rcases hk' with h0 | hne
        · omega
        · have hlast : d[m - 1]! < d[m]! := by
            rcases tri (d[m - 1]!) (d[m]!) with h | h | h
            · exact h
            · exact absurd h.symm hne
            · exact absurd h (hd (m - 1) m (by omega) (by omega))
          rcases Nat.lt_or_ge j (m - 1) with hl | hl
          · exact le_lt (hd j (m - 1) hl (by omega)) hlast
          · have : j = m - 1 := by omega
            rw [this]
            exact hlast
      · intro x
        rw [List.mem_append, h2, List.mem_singleton]
        constructor
        · rintro (⟨j, hj, e⟩ | e)
          · exact ⟨j, by omega, e⟩
          · exact ⟨m, by omega, e.symm⟩
        · rintro ⟨j, hj, e⟩
          rcases Nat.lt_or_ge j m with hl | hl
          · exact .inl ⟨j, hl, e⟩
          · have : j = m := by omega
            subst this
            exact .inr e.symm
    · rw [if_neg hk, List.append_nil]
      refine ⟨h1, fun x => ?_⟩
      rw [h2]
      have hk' : ¬ (m = 0 ∨ d[m]! ≠ d[m - 1]!) := fun h => hk (decide_eq_true h)
      have hm0 : m ≠ 0 := fun h => hk' (.inl h)
      have he : d[m]! = d[m - 1]! := Decidable.not_not.1 fun h => hk' (.inr h)
      constructor
      · rintro ⟨j, hj, e⟩
        exact ⟨j, by omega, e⟩
      · rintro ⟨j, hj, e⟩
        rcases Nat.lt_or_ge j m with hl | hl
        · exact ⟨j, hl, e⟩
        · have : j = m := by omega
          subst this
          exact ⟨j - 1, by omega, by rw [← he]; exact e⟩
def srt (xs : List L) : List L := xs.mergeSort fun x y => decide (x ≤ y)
theorem srt_pair (xs : List L) : (srt xs).Pairwise fun a b => ¬ b < a := by
  have h := List.pairwise_mergeSort (le := fun x y : L => decide (x ≤ y)) (fun a b c h1 h2 => by
    have h1' := of_decide_eq_true h1
    have h2' := of_decide_eq_true h2
    refine decide_eq_true ?_
    intro h
    exact h2' (lt_le h h1')) (fun a b => by
    by_cases h : a ≤ b
    · simp [h]
    · have : b ≤ a := fun h2 => h (fun h3 => absurd (tr h2 h3) (irr _))
      simp [this]) xs
  exact h.imp fun h => of_decide_eq_true h
theorem compact_srt (xs : List L) : SS (Lib.compact (srt xs)) ∧ ∀ x, x ∈ Lib.compact (srt xs) ↔ x ∈ xs := by
  have hp := srt_pair xs
  have hl : (srt xs).length = xs.length := List.length_mergeSort _
  have hg : ∀ j (hj : j < (srt xs).length), (srt xs).toArray[j]! = (srt xs)[j] := fun j hj => by
    rw [getElem!_pos _ j (by simpa using hj)]
    simp
  have h := compact_ok (srt xs).toArray (fun i j hij hj => by
    have hj' : j < (srt xs).length := by simpa using hj
    rw [hg i (by omega), hg j hj']
    exact List.pairwise_iff_getElem.1 hp i j (by omega) hj' hij) (srt xs).length (by simp)
  refine ⟨h.1, fun x => ?_⟩
  rw [Lib.compact, h.2 x]
  rw [← List.mem_mergeSort (le := fun x y : L => decide (x ≤ y)) (l := xs)]
  constructor
  · rintro ⟨j, hj, e⟩
    rw [hg j hj] at e
    rw [← e]
    exact List.getElem_mem hj
  · intro hx
    obtain ⟨j, hj, e⟩ := List.mem_iff_getElem.1 hx
    exact ⟨j, hj, by rw [hg j hj]; exact e⟩
/-! ### Put in at its place -/
def kOf (out : List L) (x : L) : Nat → Nat
  | 0 => 0
  | k + 1 => if x < out.getD k [] then kOf out x k else k + 1
theorem kOf_le (out : List L) (x : L) : ∀ k, kOf out x k ≤ k
  | 0 => Nat.le_refl _
  | k + 1 => by
    rw [kOf]
    split
    · exact Nat.le_succ_of_le (kOf_le out x k)
    · exact Nat.le_refl _
theorem kOf_high (out : List L) (x : L) : ∀ n j, kOf out x n ≤ j → j < n → x < out.getD j []
  | 0, j, _, h => absurd h (Nat.not_lt_zero j)
  | n + 1, j, h1, h2 => by
    rw [kOf] at h1
    by_cases hx : x < out.getD n []
    · rw [if_pos hx] at h1
      rcases Nat.lt_or_ge j n with hl | hl
      · exact kOf_high out x n j h1 hl
      · have : j = n := by omega
        rw [this]; exact hx
    · rw [if_neg hx] at h1
      omega
theorem kOf_low (out : List L) (x : L) : ∀ n, 0 < kOf out x n → ¬ x < out.getD (kOf out x n - 1) []
  | 0, h => absurd h (Nat.lt_irrefl 0)
  | n + 1, h => by
    rw [kOf] at h ⊢
    by_cases hx : x < out.getD n []
    · rw [if_pos hx] at h ⊢
      exact kOf_low out x n h
    · rw [if_neg hx]
      exact hx
def putIn (out : List L) (x : L) : List L :=
  if 0 < kOf out x out.length ∧ out.getD (kOf out x out.length - 1) [] = x then out else out.take (kOf out x out.length) ++ x :: out.drop (kOf out x out.length)
theorem getD_mem (out : List L) (j : Nat) (h : j < out.length) : out.getD j [] ∈ out := by
  rw [List.getD_eq_getElem?_getD, List.getElem?_eq_getElem h]
  exact List.getElem_mem h
theorem getD_at (out : List L) (j : Nat) (h : j < out.length) : out.getD j [] = out[j] := by
  rw [List.getD_eq_getElem?_getD, List.getElem?_eq_getElem h]
  rfl
theorem putIn_ok (out : List L) (x : L) (h : SS out) : SS (putIn out x) ∧ ∀ y, y ∈ putIn out x ↔ y ∈ out ∨ y = x := by
  have hle := kOf_le out x out.length
  have hhi := kOf_high out x out.length
  have hlo := kOf_low out x out.length
  unfold putIn
  obtain ⟨k, hk⟩ : ∃ k, k = kOf out x out.length := ⟨_, rfl⟩
  rw [← hk] at hle hhi hlo ⊢
  by_cases hc : 0 < k ∧ out.getD (k - 1) [] = x
  · rw [if_pos hc]
    refine ⟨h, fun y => ⟨.inl, ?_⟩⟩
    rintro (h1 | rfl)
    · exact h1
    · rw [← hc.2]
      exact getD_mem out _ (by omega)
  · rw [if_neg hc]
    constructor
    · refine List.pairwise_append.2 ⟨h.sublist (List.take_sublist _ _), List.pairwise_cons.2 ⟨fun y hy => ?_, h.sublist (List.drop_sublist _ _)⟩, fun a ha b hb => ?_⟩
      · obtain ⟨j, hj, rfl⟩ := List.mem_iff_getElem.1 hy
        rw [List.length_drop] at hj
        rw [List.getElem_drop, ← getD_at out (k + j) (by omega)]
        exact hhi (k + j) (by omega) (by omega)
      · obtain ⟨j, hj, rfl⟩ := List.mem_iff_getElem.1 ha
        rw [List.length_take] at hj
        rw [List.getElem_take]
        have hjk : j < k := by omega
        have hx : out[j] < x := by
          have h1 := hlo (by omega)
          have h2 : ¬ out.getD (k - 1) [] = x := fun e => hc ⟨by omega, e⟩
          have h3 : out.getD (k - 1) [] < x := by
            rcases tri (out.getD (k - 1) []) x with h | h | h
            · exact h
            · exact absurd h h2
            · exact absurd h h1
          rw [getD_at out (k - 1) (by omega)] at h3
          rcases Nat.lt_or_ge j (k - 1) with hl | hl
          · exact tr (List.pairwise_iff_getElem.1 h j (k - 1) (by omega) (by omega) hl) h3
          · have e : j = k - 1 := by omega
            subst e
            exact h3
        rcases List.mem_cons.1 hb with rfl | hb
        · exact hx
        · obtain ⟨i, hi, rfl⟩ := List.mem_iff_getElem.1 hb
          rw [List.length_drop] at hi
          rw [List.getElem_drop]
          exact List.pairwise_iff_getElem.1 h j (k + i) (by omega) (by omega) (by omega)
    · intro y
      rw [List.mem_append, List.mem_cons]
      constructor
      · rintro (h1 | rfl | h1)
        · exact .inl (List.mem_of_mem_take h1)
        · exact .inr rfl
        · exact .inl (List.mem_of_mem_drop h1)
      · rintro (h1 | rfl)
        · rw [← List.take_append_drop k out] at h1
          rcases List.mem_append.1 h1 with h1 | h1
          · exact .inl h1
          · exact .inr (.inr h1)
        · exact .inr (.inl rfl)
theorem fold_ok (q : L → Bool) : ∀ (l out : List L), SS out → SS (l.foldl (fun out x => if q x = true then putIn out x else out) out) ∧ ∀ y, y ∈ l.foldl (fun out x => if q x = true then putIn out x else out) out ↔ y ∈ out ∨ (y ∈ l ∧ q y = true)
  | [], out, h => ⟨h, fun y => by simp⟩
  | x :: l, out, h => by
    rw [List.foldl_cons]
    by_cases hq : q x = true
    · rw [if_pos hq]
      obtain ⟨h1, h2⟩ := putIn_ok out x h
      obtain ⟨h3, h4⟩ := fold_ok q l _ h1
      refine ⟨h3, fun y => ?_⟩
      rw [h4, h2, List.mem_cons]
      constructor
      · rintro ((h | rfl) | ⟨h, h'⟩)
        · exact .inl h
        · exact .inr ⟨.inl rfl, hq⟩
        · exact .inr ⟨.inr h, h'⟩
      · rintro (h | ⟨rfl | h, h'⟩)
        · exact .inl (.inl h)
        · exact .inl (.inr rfl)
        · exact .inr ⟨h, h'⟩
    · rw [if_neg hq]
      obtain ⟨h3, h4⟩ := fold_ok q l out h
      refine ⟨h3, fun y => ?_⟩
      rw [h4, List.mem_cons]
      constructor
      · rintro (h | ⟨h, h'⟩)
        · exact .inl h
        · exact .inr ⟨.inr h, h'⟩
      · rintro (h | ⟨rfl | h, h'⟩)
        · exact .inl h
        · exact absurd h' hq
        · exact .inr ⟨h, h'⟩
theorem both (q : L → Bool) (l : List L) : Lib.compact (srt (l.filter q)) = l.foldl (fun out x => if q x = true then putIn out x else out) [] := by
  obtain ⟨h1, h2⟩ := compact_srt (l.filter q)
  obtain ⟨h3, h4⟩ := fold_ok q l [] List.Pairwise.nil
  refine unique _ _ h1 h3 fun x => ?_
  rw [h2, h4, List.mem_filter]
  simp
end Go.Proofs.Ythlofokgbogndab.So
