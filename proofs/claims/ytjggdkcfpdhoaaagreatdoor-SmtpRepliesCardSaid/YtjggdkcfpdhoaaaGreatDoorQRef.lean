/- What the document's words of layer 8 (local parts, domains) are, told as the program's own parts between dots; plain Lean. -/
import Derived.Test.YtjggdkcfpdhoaaaGreatDoorGSmtpx4
import Derived.Test.YtjggdkcfpdhoaaaGreatDoorBase
namespace Go.Proofs.YtjggdkcfpdhoaaaGreatDoor.QRef
open Go Go.RowKit Go.Proofs.YtjggdkcfpdhoaaaGreatDoorW.PrintWords Go.Proofs.YtjggdkcfpdhoaaaGreatDoor.Dots Go.Proofs.YtjggdkcfpdhoaaaGreatDoor.Large Go.Proofs.YtjggdkcfpdhoaaaGreatDoor.Path Go.Proofs.YtjggdkcfpdhoaaaGreatDoor.Dotted Go.Proofs.YtjggdkcfpdhoaaaGreatDoor.GSmtp
set_option linter.unusedVariables false
set_option linter.unusedSimpArgs false
def letC (c : Int) : Bool := decide (97 ≤ c) && decide (c ≤ 122) || decide (65 ≤ c) && decide (c ≤ 90)
def digC (c : Int) : Bool := decide (48 ≤ c) && decide (c ≤ 57)
def markC (c : Int) : Bool := decide (0 ≤ Lib.indexByte marksL c.toNat.toUInt8)
theorem letter_f (c : Int) : postbagref08_letter.f c = some (letC c) := by
  unfold postbagref08_letter.f letC
  by_cases h1 : c ≥ 97 <;> by_cases h2 : c ≤ 122 <;> by_cases h3 : c ≥ 65 <;> simp [h1, h2, h3] <;> omega
theorem digit_f (c : Int) : postbagref08_digit.f c = some (digC c) := by
  unfold postbagref08_digit.f digC
  by_cases h1 : c ≥ 48 <;> simp [h1] <;> omega
theorem mark_f (c : Int) (h0 : 0 ≤ c) (h1 : c ≤ 255) : postbagref08_mark.f c = some (markC c) := by
  have h : ∀ n : Fin 256, postbagref08_mark.f (n.val : Int) = some (markC (n.val : Int)) := by decide +kernel
  have e := h ⟨c.toNat, by omega⟩
  have e2 : ((c.toNat : Nat) : Int) = c := by omega
  simpa [e2] using e
theorem plain_split (c : Int) : plainC c = (letC c || digC c) := rfl
theorem atom_split (c : Int) : atomC c = (letC c || digC c || markC c) := rfl
theorem atom46 : atomC 46 = false := by decide +kernel
theorem label46 : labelC 46 = false := by decide +kernel
theorem plain45 : plainC 45 = false := by decide +kernel
/-- A part that holds what may not stand in it. -/
theorem cuts_bad (f : Int → Bool) (P : List Int → Bool) (hP : ∀ l, P l = true → l.all f = true) : ∀ (cur l : List Int), cur.all f = false → (cutsA 46 cur l).all (partOK P) = false
  | cur, [], h => by
    cases hc : P cur with
    | false => simp [cutsA, partOK, hc]
    | true => rw [hP cur hc] at h; cases h
  | cur, c :: l, h => by
    rw [cutsA]
    split
    · have : partOK P cur = false := by
        cases hc : P cur with
        | false => simp [partOK, hc]
        | true => rw [hP cur hc] at h; cases h
      rw [List.all_cons, this, Bool.false_and]
    · exact cuts_bad f P hP (cur ++ [c]) l (by rw [List.all_append, h, Bool.false_and])
/-- What may stand at a place of a local part: p is what stands before it (a dot at the beginning), l what is behind it. -/
def okL (p c : Int) (l : List Int) : Bool := if c = 46 then !(p == 46 || l.isEmpty) else atomC c
def locL (p : Int) : List Int → Bool
  | [] => true
  | c :: l => okL p c l && locL c l
theorem loc_cuts : ∀ (cur l : List Int) (p : Int), cur.all atomC = true → (p == 46) = cur.isEmpty → (cutsA 46 cur l).all (partOK atomL) = if l.isEmpty then !cur.isEmpty else locL p l
  | cur, [], p, h, hp => by simp [cutsA, partOK, atomL, h]
  | cur, c :: l, p, h, hp => by
    rw [cutsA]
    by_cases hc : c = 46
    · subst hc
      have ih := loc_cuts [] l 46 rfl rfl
      rw [if_pos rfl, List.all_cons, ih]
      have e1 : partOK atomL cur = !cur.isEmpty := by rw [partOK, atomL, h, Bool.and_true]
      rw [e1]
      show _ = (okL p 46 l && locL 46 l)
      rw [okL, if_pos rfl, hp]
      cases l with
      | nil => simp [locL]
      | cons x l => simp
    · rw [if_neg hc]
      show _ = (okL p c l && locL c l)
      rw [okL, if_neg hc]
      cases ha : atomC c with
      | false =>
        rw [cuts_bad atomC atomL (fun l h => h) (cur ++ [c]) l (by simp [ha]), Bool.false_and]
      | true =>
        have hce : (c == 46) = (cur ++ [c]).isEmpty := by
          have : (c == 46) = false := by simpa using hc
          rw [this]; simp
        rw [loc_cuts (cur ++ [c]) l c (by simp [h, ha]) hce, Bool.true_and]
        cases l with
        | nil => simp [locL]
        | cons x l => simp
theorem dotted_loc (s : List Int) : dottedL 64 atomL s = (decide (1 ≤ s.length) && decide (s.length ≤ 64) && locL 46 s) := by
  rw [dottedL, cuts, loc_cuts [] s 46 rfl rfl]
  cases s with
  | nil => simp
  | cons c l => simp
/-- What may stand at a place of a domain. -/
def okD (p c : Int) (l : List Int) : Bool :=
  (plainC c || c == 45 || c == 46) && !((p == 46 || l.isEmpty || l.head? == some 46) && c != 46 && !plainC c) && !(c == 46 && (p == 46 || l.isEmpty))
def domL (p : Int) : List Int → Bool
  | [] => true
  | c :: l => okD p c l && domL c l
theorem getD_last (cur : List Int) (c : Int) : (cur ++ [c]).getD ((cur ++ [c]).length - 1) 0 = c := by
  rw [List.getD_eq_getElem?_getD, List.getElem?_append_right (by simp)]
  simp
theorem getD_first (cur : List Int) (c : Int) (h : cur ≠ []) : (cur ++ [c]).getD 0 0 = cur.getD 0 0 := by
  cases cur with
  | nil => exact absurd rfl h
  | cons x l => rfl
theorem cuts_first (cur l : List Int) (h : cur ≠ []) (h45 : cur.getD 0 0 = 45) : (cutsA 46 cur l).all (partOK labelL) = false := by
  induction l generalizing cur with
  | nil =>
    have : labelL cur = false := by rw [labelL, h45]; simp
    simp [cutsA, partOK, this]
  | cons c l ih =>
    rw [cutsA]
    split
    · have : labelL cur = false := by rw [labelL, h45]; simp
      simp [partOK, this]
    · exact ih (cur ++ [c]) (by simp) (by rw [getD_first cur c h]; exact h45)
theorem dom_cuts : ∀ (cur l : List Int) (p : Int), cur.all labelC = true → (p == 46) = cur.isEmpty → (cur ≠ [] → cur.getD 0 0 ≠ 45) → (cur ≠ [] → l = [] ∨ l.head? = some 46 → cur.getD (cur.length - 1) 0 ≠ 45) →
    (cutsA 46 cur l).all (partOK labelL) = if l.isEmpty then !cur.isEmpty else domL p l
  | cur, [], p, h, hp, hf, hl => by
    cases cur with
    | nil => rfl
    | cons x cur =>
      have h1 := hf (by simp)
      have h2 := hl (by simp) (.inl rfl)
      have : labelL (x :: cur) = true := by
        rw [labelL, h, bne_iff_ne.2 h1, bne_iff_ne.2 h2]; rfl
      simp [cutsA, partOK, this]
  | cur, c :: l, p, h, hp, hf, hl => by
    rw [cutsA]
    by_cases hc : c = 46
    · subst hc
      have ih := dom_cuts [] l 46 rfl rfl (fun h => absurd rfl h) (fun h => absurd rfl h)
      rw [if_pos rfl, List.all_cons, ih]
      have e1 : partOK labelL cur = !cur.isEmpty := by
        cases cur with
        | nil => rfl
        | cons x cur =>
          have h1 := hf (by simp)
          have h2 := hl (by simp) (.inr rfl)
          have : labelL (x :: cur) = true := by
            rw [labelL, h, bne_iff_ne.2 h1, bne_iff_ne.2 h2]; rfl
          simp [partOK, this]
      rw [e1]
      show _ = (okD p 46 l && domL 46 l)
      rw [okD, hp]
      cases l with
      | nil => simp [domL]
      | cons x l => simp
    · rw [if_neg hc]
      show _ = (okD p c l && domL c l)
      have hne : (c == 46) = false := by simpa using hc
      have hce : (c == 46) = (cur ++ [c]).isEmpty := by rw [hne]; simp
      cases ha : labelC c with
      | false =>
        have : okD p c l = false := by
          have h1 : (plainC c || c == 45 || c == 46) = false := by
            rw [labelC] at ha
            rw [ha, hne]; rfl
          rw [okD, h1, Bool.false_and, Bool.false_and]
        rw [cuts_bad labelC labelL (fun l h => by rw [labelL, Bool.and_eq_true] at h; exact h.1) (cur ++ [c]) l (by simp [ha]), this, Bool.false_and]
      | true =>
        by_cases h45 : c = 45
        · subst h45
          by_cases hcur : cur = []
          · subst hcur
            have hp2 : (p == 46) = true := by simpa using hp
            have : okD p 45 l = false := by rw [okD, hp2]; simp [plain45]
            rw [this, Bool.false_and]
            exact cuts_first [45] l (by simp) rfl
          · by_cases hend : l = [] ∨ l.head? = some 46
            · have : okD p 45 l = false := by
                rcases hend with rfl | hh
                · rw [okD]; simp [plain45]
                · rw [okD, hh]; simp [plain45]
              rw [this, Bool.false_and]
              have hbad : labelL (cur ++ [45]) = false := by rw [labelL, getD_last]; simp
              rcases hend with rfl | hh
              · simp [cutsA, partOK, hbad]
              · cases l with
                | nil => cases hh
                | cons x l =>
                  obtain rfl : x = 46 := by simpa using hh
                  simp [cutsA, partOK, hbad]
            · have hn1 : l ≠ [] := fun e => hend (.inl e)
              have hn2 : l.head? ≠ some 46 := fun e => hend (.inr e)
              have hp2 : (p == 46) = false := by rw [hp]; simpa using hcur
              have hle : l.isEmpty = false := by simpa using hn1
              have hh : (l.head? == some 46) = false := by simpa using hn2
              have : okD p 45 l = true := by rw [okD, hp2, hle, hh]; simp
              rw [this, Bool.true_and, dom_cuts (cur ++ [45]) l 45 (by simp [h, ha]) hce (fun _ => by rw [getD_first cur 45 hcur]; exact hf hcur) (fun _ he => absurd he hend), hle]
              rfl
        · have hpl : plainC c = true := by
            rw [labelC] at ha
            have : (c == 45) = false := by simpa using h45
            rw [this, Bool.or_false] at ha
            exact ha
          have : okD p c l = true := by rw [okD, hpl, hne]; simp
          have hfirst : (cur ++ [c]).getD 0 0 ≠ 45 := by
            by_cases hcur : cur = []
            · subst hcur; exact h45
            · rw [getD_first cur c hcur]; exact hf hcur
          rw [this, Bool.true_and, dom_cuts (cur ++ [c]) l c (by simp [h, ha]) hce (fun _ => hfirst) (fun _ _ => by rw [getD_last]; exact h45)]
          cases l with
          | nil => simp [domL]
          | cons x l => simp
theorem dotted_dom (s : List Int) : dottedL 100 labelL s = (decide (1 ≤ s.length) && decide (s.length ≤ 100) && domL 46 s) := by
  rw [dottedL, cuts, dom_cuts [] s 46 rfl rfl (fun h => absurd rfl h) (fun h => absurd rfl h)]
  cases s with
  | nil => simp
  | cons c l => simp
end Go.Proofs.YtjggdkcfpdhoaaaGreatDoor.QRef
