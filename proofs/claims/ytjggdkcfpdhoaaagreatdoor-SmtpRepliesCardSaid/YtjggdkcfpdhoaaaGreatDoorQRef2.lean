/- The printed functions of layer 8's document, run: local parts and domains; plain Lean. -/
import Derived.Test.YtjggdkcfpdhoaaaGreatDoorQRef
namespace Go.Proofs.YtjggdkcfpdhoaaaGreatDoor.QRef2
open Go Go.RowKit Go.Proofs.YtjggdkcfpdhoaaaGreatDoorW.PrintWords Go.Proofs.YtjggdkcfpdhoaaaGreatDoor.Dots Go.Proofs.YtjggdkcfpdhoaaaGreatDoor.Large Go.Proofs.YtjggdkcfpdhoaaaGreatDoor.Path Go.Proofs.YtjggdkcfpdhoaaaGreatDoor.Dotted Go.Proofs.YtjggdkcfpdhoaaaGreatDoor.GSmtp Go.Proofs.YtjggdkcfpdhoaaaGreatDoor.QRef
set_option linter.unusedVariables false
set_option linter.unusedSimpArgs false
def prevI (s : ByteArray) (i : Nat) : Int := if i = 0 then 46 else bt s ((i : Int) - 1)
theorem prev_succ (s : ByteArray) (i : Nat) : prevI s (i + 1) = bt s (i : Int) := by
  rw [prevI, if_neg (by omega)]
  congr 1
  omega
theorem drop_end (s : ByteArray) (i : Nat) (h : s.size ≤ i) : (bytesOf s).drop i = [] := List.drop_of_length_le (by rw [bytesOf_length]; exact h)
theorem drop_empty (s : ByteArray) (i : Nat) (h : i < s.size) : ((bytesOf s).drop (i + 1)).isEmpty = decide ((i : Int) = (s.size : Int) - 1) := by
  rw [Bool.eq_iff_iff, List.isEmpty_iff, decide_eq_true_eq, List.drop_eq_nil_iff, bytesOf_length]
  omega
theorem drop_head (s : ByteArray) (i : Nat) (h : i < s.size) : ((bytesOf s).drop (i + 1)).head? = if i + 1 < s.size then some (bt s ((i : Int) + 1)) else none := by
  split
  · rename_i h1
    have := drop_bt s (i + 1) h1
    rw [this]
    have e : ((i + 1 : Nat) : Int) = (i : Int) + 1 := by omega
    rw [e]
    rfl
  · rename_i h1
    rw [drop_end s (i + 1) (by omega)]
    rfl
theorem w_succ (i n : Nat) (h : i < n) (hn : n ≤ 1000000) : wrap64 ((i : Int) + 1) = ((i + 1 : Nat) : Int) := by unfold wrap64; omega
theorem local_l0 (s : ByteArray) (hs : s.size ≤ 1000000) : ∀ (m i : Nat), i + m = s.size → ∃ k, postbagref08_Local.l0 k s (i : Int) = some (locL (prevI s i) ((bytesOf s).drop i)) := by
  intro m
  induction m with
  | zero =>
    intro i hi
    refine ⟨1, ?_⟩
    rw [postbagref08_Local.l0, if_neg (by omega), drop_end s i (by omega)]
    rfl
  | succ m ih =>
    intro i hi
    obtain ⟨k, hk⟩ := ih (i + 1) (by omega)
    have hlt : i < s.size := by omega
    have e1 := w_succ i s.size hlt hs
    have e2 : wrap64 ((s.size : Int) - 1) = (s.size : Int) - 1 := by unfold wrap64; omega
    have hr := bt_range s i hlt
    refine ⟨k + 1, ?_⟩
    rw [postbagref08_Local.l0, if_pos (by omega), if_pos (by omega), drop_bt s i hlt, e1, e2, hk, prev_succ, letter_f, digit_f, mark_f _ hr.1 hr.2]
    show _ = some (okL (prevI s i) (bt s (i : Int)) ((bytesOf s).drop (i + 1)) && locL (bt s (i : Int)) ((bytesOf s).drop (i + 1)))
    rw [okL, atom_split, drop_empty s i hlt]
    by_cases c46 : bt s (i : Int) = 46
    · rw [if_pos c46, if_pos c46]
      by_cases i0 : i = 0
      · subst i0
        rw [if_pos (by rfl), prevI, if_pos rfl]
        rfl
      · have e3 : wrap64 ((i : Int) - 1) = (i : Int) - 1 := by unfold wrap64; omega
        rw [if_neg (by omega), e3, prevI, if_neg i0, if_pos (show 0 ≤ (i : Int) - 1 by omega), if_pos (show (i : Int) - 1 < (s.size : Int) by omega)]
        by_cases il : (i : Int) = (s.size : Int) - 1
        · rw [if_pos il, decide_eq_true il]; simp
        · rw [if_neg il, decide_eq_false il]
          by_cases p46 : bt s ((i : Int) - 1) = 46
          · rw [if_pos p46, p46]; rfl
          · have : (bt s ((i : Int) - 1) == 46) = false := by simpa using p46
            rw [if_neg p46, this]; rfl
    · rw [if_neg c46, if_neg c46]
      cases h1 : letC (bt s (i : Int)) <;> cases h2 : digC (bt s (i : Int)) <;> cases h3 : markC (bt s (i : Int)) <;> rfl
theorem local_f (s : ByteArray) (hs : s.size ≤ 1000000) : ∃ k, postbagref08_Local.f k s = some (localB s) := by
  rw [localB, dotted_loc, bytesOf_length]
  obtain ⟨k, hk⟩ := local_l0 s hs s.size 0 (by omega)
  have hp : prevI s 0 = 46 := rfl
  rw [hp, List.drop_zero] at hk
  refine ⟨k + 1, ?_⟩
  rw [postbagref08_Local.f]
  by_cases h1 : 1 ≤ s.size
  · rw [if_neg (by omega), postbagref08_Local.j0, decide_eq_true h1]
    by_cases h2 : s.size ≤ 64
    · rw [decide_eq_true h2, if_neg (by simp; omega)]
      exact hk
    · rw [decide_eq_false h2, if_pos (by simp; omega)]
      rfl
  · rw [if_pos (by omega), postbagref08_Local.j0, if_pos rfl, decide_eq_false h1]
    rfl
theorem domain_l0 (s : ByteArray) (hs : s.size ≤ 1000000) : ∀ (m i : Nat), i + m = s.size → ∃ k, postbagref08_Domain.l0 k s (i : Int) = some (domL (prevI s i) ((bytesOf s).drop i)) := by
  intro m
  induction m with
  | zero =>
    intro i hi
    refine ⟨1, ?_⟩
    rw [postbagref08_Domain.l0, if_neg (by omega), drop_end s i (by omega)]
    rfl
  | succ m ih =>
    intro i hi
    obtain ⟨k, hk⟩ := ih (i + 1) (by omega)
    have hlt : i < s.size := by omega
    have e1 := w_succ i s.size hlt hs
    have e2 : wrap64 ((s.size : Int) - 1) = (s.size : Int) - 1 := by unfold wrap64; omega
    rw [prev_succ] at hk
    obtain ⟨c, hc⟩ : ∃ c, c = bt s (i : Int) := ⟨_, rfl⟩
    rw [← hc] at hk
    obtain ⟨R, hR⟩ : ∃ R, R = domL c ((bytesOf s).drop (i + 1)) := ⟨_, rfl⟩
    rw [← hR] at hk
    obtain ⟨p, hp⟩ : ∃ p, p = prevI s i := ⟨_, rfl⟩
    obtain ⟨l, hl⟩ : ∃ l, l = (bytesOf s).drop (i + 1) := ⟨_, rfl⟩
    have hle : l.isEmpty = decide ((i : Int) = (s.size : Int) - 1) := by rw [hl, drop_empty s i hlt]
    have hlh : l.head? = if i + 1 < s.size then some (bt s ((i : Int) + 1)) else none := by rw [hl, drop_head s i hlt]
    have hgoal : domL (prevI s i) ((bytesOf s).drop i) = (okD p c l && R) := by
      rw [drop_bt s i hlt, ← hp, ← hc, hR, hl]; rfl
    rw [hgoal]
    -- the third step: the edges, the dots
    have h3 : postbagref08_Domain.j3 (k + 1) s (i : Int) (plainC c) false = some (!((p == 46 || l.isEmpty || l.head? == some 46) && c != 46 && !plainC c) && !(c == 46 && (p == 46 || l.isEmpty)) && R) := by
      rw [postbagref08_Domain.j3, if_neg (by decide), e1, e2, hle, hlh, ← hc, hk]
      by_cases i0 : i = 0
      · subst i0
        have hp2 : p = 46 := hp
        rw [if_pos (by rfl), if_pos (by omega), if_pos (by omega), hp2]
        by_cases c46 : c = 46
        · rw [if_pos c46, c46]; simp
        · rw [if_neg c46]
          have : (c == 46) = false := by simpa using c46
          have n2 : (c != 46) = true := by simpa using c46
          rw [this, n2]
          cases plainC c <;> rfl
      · rw [if_neg (by omega)]
        have e3 : wrap64 ((i : Int) - 1) = (i : Int) - 1 := by unfold wrap64; omega
        have hp2 : p = bt s ((i : Int) - 1) := by rw [hp, prevI, if_neg i0]
        by_cases il : (i : Int) = (s.size : Int) - 1
        · rw [if_pos il, if_pos (by omega), if_pos (by omega), decide_eq_true il]
          by_cases c46 : c = 46
          · rw [if_pos c46, c46]; simp
          · rw [if_neg c46]
            have : (c == 46) = false := by simpa using c46
            have n2 : (c != 46) = true := by simpa using c46
            rw [this, n2]
            cases plainC c <;> simp
        · have hlt2 : i + 1 < s.size := by omega
          rw [if_neg il, e3, ← hp2, if_pos (show 0 ≤ (i : Int) - 1 by omega), if_pos (show (i : Int) - 1 < (s.size : Int) by omega), decide_eq_false il, if_pos hlt2]
          have e4 : ((i + 1 : Nat) : Int) = (i : Int) + 1 := by omega
          rw [e4, if_pos (show 0 ≤ (i : Int) by omega), if_pos (show (i : Int) < (s.size : Int) by omega), if_pos (show 0 ≤ (i : Int) + 1 by omega), if_pos (show (i : Int) + 1 < (s.size : Int) by omega)]
          by_cases p46 : p = 46
          · rw [if_pos p46, p46]
            by_cases c46 : c = 46
            · rw [if_pos c46, c46]; simp
            · have : (c == 46) = false := by simpa using c46
              have n2 : (c != 46) = true := by simpa using c46
              rw [if_neg c46, this, n2]
              cases plainC c <;> simp
          · have np : (p == 46) = false := by simpa using p46
            rw [if_neg p46, np]
            by_cases q46 : bt s ((i : Int) + 1) = 46
            · rw [if_pos q46, q46]
              by_cases c46 : c = 46
              · rw [if_pos c46, c46]; simp [hlt]
              · have : (c == 46) = false := by simpa using c46
                have n2 : (c != 46) = true := by simpa using c46
                rw [if_neg c46, this, n2]
                cases plainC c <;> simp [hlt]
            · have nq : (some (bt s ((i : Int) + 1)) == some 46) = false := by simpa using q46
              rw [if_neg q46, nq]
              by_cases c46 : c = 46
              · rw [if_pos c46, c46]; simp [hlt]
              · have : (c == 46) = false := by simpa using c46
                rw [if_neg c46, this]; simp [hlt]
    have h3t : postbagref08_Domain.j3 (k + 1) s (i : Int) (plainC c) true = some false := by rw [postbagref08_Domain.j3, if_pos rfl]
    have h2 : postbagref08_Domain.j2 (k + 2) s (i : Int) (plainC c) = some (okD p c l && R) := by
      rw [postbagref08_Domain.j2, okD]
      cases hpl : plainC c with
      | true =>
        rw [hpl] at h3
        rw [if_pos rfl, h3]
        simp
      | false =>
        rw [hpl] at h3 h3t
        rw [if_neg (by decide), if_pos (by omega), if_pos (by omega), ← hc]
        by_cases c45 : c = 45
        · rw [if_pos c45, h3, c45]; simp
        · rw [if_neg c45]
          have n45 : (c == 45) = false := by simpa using c45
          by_cases c46 : c = 46
          · have : (c != 46) = false := by simpa using c46
            rw [this, h3, c46]; simp
          · have n46 : (c == 46) = false := by simpa using c46
            have : (c != 46) = true := by simpa using c46
            rw [this, h3t, n45, n46]; simp
    refine ⟨k + 3, ?_⟩
    rw [postbagref08_Domain.l0, if_pos (by omega), if_pos (by omega), letter_f, digit_f, ← hc]
    rw [plain_split] at h2
    cases h4 : letC c with
    | true => rw [h4] at h2; exact h2
    | false =>
      rw [h4, Bool.false_or] at h2
      exact h2
theorem domain_f (s : ByteArray) (hs : s.size ≤ 1000000) : ∃ k, postbagref08_Domain.f k s = some (domainB s) := by
  rw [domainB, dotted_dom, bytesOf_length]
  obtain ⟨k, hk⟩ := domain_l0 s hs s.size 0 (by omega)
  have hp : prevI s 0 = 46 := rfl
  rw [hp, List.drop_zero] at hk
  refine ⟨k + 1, ?_⟩
  rw [postbagref08_Domain.f]
  by_cases h1 : 1 ≤ s.size
  · rw [if_neg (by omega), postbagref08_Domain.j0, decide_eq_true h1]
    by_cases h2 : s.size ≤ 100
    · rw [decide_eq_true h2, if_neg (by simp; omega)]
      exact hk
    · rw [decide_eq_false h2, if_pos (by simp; omega)]
      rfl
  · rw [if_pos (by omega), postbagref08_Domain.j0, if_pos rfl, decide_eq_false h1]
    rfl
end Go.Proofs.YtjggdkcfpdhoaaaGreatDoor.QRef2
