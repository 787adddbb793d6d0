/- What a pattern fits, in plain Lean: by definition from its beginning, and, the same, by one byte more at its end. -/
namespace Go.Proofs.Ythlofokgbogndab
namespace Mt
def lowI (c : Int) : Int := if 65 ≤ c ∧ c ≤ 90 then c + 32 else c
def star (c : Int) : Bool := c == 42 || c == 37
def ok (c x : Int) : Bool := c == 42 || x != 47
def same (inbox : Bool) (c x : Int) : Bool := c == x || inbox && lowI c == lowI x
def mt (b : Bool) : List Int → List Int → Bool
  | [], n => n.isEmpty
  | c :: p, [] => star c && mt b p []
  | c :: p, x :: n => if star c then mt b p (x :: n) || ok c x && mt b (c :: p) n else same b c x && mt b p n
termination_by p n => p.length + n.length
theorem mt_nil (b : Bool) (n : List Int) : mt b [] n = n.isEmpty := by simp [mt]
theorem mt_cons_nil (b : Bool) (c : Int) (p : List Int) : mt b (c :: p) [] = (star c && mt b p []) := by simp [mt]
theorem mt_cons (b : Bool) (c x : Int) (p n : List Int) : mt b (c :: p) (x :: n) = if star c then mt b p (x :: n) || ok c x && mt b (c :: p) n else same b c x && mt b p n := by rw [mt]
theorem mt_skip (b : Bool) (c : Int) (p n : List Int) (hs : star c = true) (h : mt b p n = true) : mt b (c :: p) n = true := by
  cases n with
  | nil => simp [mt_cons_nil, hs, h]
  | cons x n => simp [mt_cons, hs, h]
/-- A pattern of two parts fits just where the name has two parts that they fit. -/
theorem mt_append (b : Bool) (q : List Int) : ∀ (k : Nat) (p n : List Int), p.length + n.length ≤ k → (mt b (p ++ q) n = true ↔ ∃ n1 n2, n = n1 ++ n2 ∧ mt b p n1 = true ∧ mt b q n2 = true) := by
  intro k
  induction k with
  | zero =>
    intro p n h
    have hp : p = [] := List.eq_nil_of_length_eq_zero (by omega)
    have hn : n = [] := List.eq_nil_of_length_eq_zero (by omega)
    subst hp hn
    constructor
    · intro h
      exact ⟨[], [], rfl, by simp [mt_nil], h⟩
    · rintro ⟨n1, n2, e, _, h2⟩
      have : n2 = [] := (List.append_eq_nil_iff.1 e.symm).2
      subst this
      exact h2
  | succ k ih =>
    intro p n h
    cases p with
    | nil =>
      constructor
      · intro h
        exact ⟨[], n, rfl, by simp [mt_nil], h⟩
      · rintro ⟨n1, n2, e, h1, h2⟩
        have : n1 = [] := by simpa [mt_nil] using h1
        subst this
        rw [e]
        exact h2
    | cons c p =>
      cases n with
      | nil =>
        have hi := ih p [] (by simp only [List.length_cons, List.length_nil] at h ⊢; omega)
        rw [List.cons_append, mt_cons_nil, Bool.and_eq_true, hi]
        constructor
        · rintro ⟨hs, n1, n2, e, h1, h2⟩
          exact ⟨n1, n2, e, mt_skip b c p n1 hs h1, h2⟩
        · rintro ⟨n1, n2, e, h1, h2⟩
          obtain ⟨e1, e2⟩ := List.append_eq_nil_iff.1 e.symm
          subst e1 e2
          rw [mt_cons_nil, Bool.and_eq_true] at h1
          exact ⟨h1.1, [], [], rfl, h1.2, h2⟩
      | cons x n =>
        have hi1 := ih p (x :: n) (by simp only [List.length_cons] at h ⊢; omega)
        have hi2 := ih (c :: p) n (by simp only [List.length_cons] at h ⊢; omega)
        have hi3 := ih p n (by simp only [List.length_cons] at h ⊢; omega)
        rw [List.cons_append] at hi2
        rw [List.cons_append, mt_cons]
        by_cases hs : star c = true
        · rw [if_pos hs, Bool.or_eq_true, Bool.and_eq_true, hi1, hi2]
          constructor
          · rintro (⟨n1, n2, e, h1, h2⟩ | ⟨ho, n1, n2, e, h1, h2⟩)
            · exact ⟨n1, n2, e, mt_skip b c p n1 hs h1, h2⟩
            · exact ⟨x :: n1, n2, by rw [e]; rfl, by rw [mt_cons, if_pos hs]; simp [ho, h1], h2⟩
          · rintro ⟨n1, n2, e, h1, h2⟩
            cases n1 with
            | nil =>
              rw [mt_cons_nil, Bool.and_eq_true] at h1
              exact .inl ⟨[], n2, e, h1.2, h2⟩
            | cons y n1 =>
              injection e with e1 e2
              subst e1
              rw [mt_cons, if_pos hs, Bool.or_eq_true, Bool.and_eq_true] at h1
              rcases h1 with h1 | ⟨ho, h1⟩
              · exact .inl ⟨x :: n1, n2, by rw [e2]; rfl, h1, h2⟩
              · exact .inr ⟨ho, n1, n2, e2, h1, h2⟩
        · rw [if_neg hs, Bool.and_eq_true, hi3]
          constructor
          · rintro ⟨ho, n1, n2, e, h1, h2⟩
            exact ⟨x :: n1, n2, by rw [e]; rfl, by rw [mt_cons, if_neg hs]; simp [ho, h1], h2⟩
          · rintro ⟨n1, n2, e, h1, h2⟩
            cases n1 with
            | nil =>
              rw [mt_cons_nil, Bool.and_eq_true] at h1
              exact absurd h1.1 hs
            | cons y n1 =>
              injection e with e1 e2
              subst e1
              rw [mt_cons, if_neg hs, Bool.and_eq_true] at h1
              exact ⟨h1.1, n1, n2, e2, h1.2, h2⟩
theorem mt_split (b : Bool) (p q n : List Int) : mt b (p ++ q) n = true ↔ ∃ n1 n2, n = n1 ++ n2 ∧ mt b p n1 = true ∧ mt b q n2 = true := mt_append b q _ p n (Nat.le_refl _)
theorem mt_star_one (b : Bool) (c : Int) (hs : star c = true) : ∀ n : List Int, mt b [c] n = n.all (ok c)
  | [] => by simp [mt_cons_nil, mt_nil, hs]
  | x :: n => by rw [mt_cons, if_pos hs, mt_nil, mt_star_one b c hs n]; simp
theorem mt_plain_one (b : Bool) (c : Int) (hs : ¬ star c = true) (n : List Int) : mt b [c] n = true ↔ ∃ x, n = [x] ∧ same b c x = true := by
  cases n with
  | nil => rw [mt_cons_nil]; simp [hs]
  | cons x n =>
    rw [mt_cons, if_neg hs, mt_nil, Bool.and_eq_true]
    constructor
    · rintro ⟨h1, h2⟩
      have : n = [] := by simpa using h2
      subst this
      exact ⟨x, rfl, h1⟩
    · rintro ⟨y, e, h⟩
      injection e with e1 e2
      subst e1 e2
      exact ⟨h, rfl⟩
/-- One byte more of the pattern, one byte more of the name. -/
theorem mt_snoc (b : Bool) (c x : Int) (p n : List Int) : mt b (p ++ [c]) (n ++ [x]) = if star c then mt b p (n ++ [x]) || mt b (p ++ [c]) n && ok c x else mt b p n && same b c x := by
  apply Bool.eq_iff_iff.2
  by_cases hs : star c = true
  · rw [if_pos hs, Bool.or_eq_true, Bool.and_eq_true, mt_split, mt_split]
    constructor
    · rintro ⟨n1, n2, e, h1, h2⟩
      rcases List.eq_nil_or_concat n2 with e2 | ⟨m, y, e2⟩
      · subst e2
        rw [List.append_nil] at e
        rw [e]
        exact .inl h1
      · rw [List.concat_eq_append] at e2
        subst e2
        rw [← List.append_assoc] at e
        obtain ⟨e1, e2⟩ := List.append_inj' e rfl
        injection e2 with e2
        subst e2
        rw [mt_star_one b c hs, List.all_append, Bool.and_eq_true] at h2
        exact .inr ⟨⟨n1, m, e1, h1, by rw [mt_star_one b c hs]; exact h2.1⟩, by simpa using h2.2⟩
    · rintro (h | ⟨⟨n1, n2, e, h1, h2⟩, ho⟩)
      · exact ⟨n ++ [x], [], by simp, h, by rw [mt_star_one b c hs]; rfl⟩
      · exact ⟨n1, n2 ++ [x], by rw [e, List.append_assoc], h1, by rw [mt_star_one b c hs] at h2 ⊢; rw [List.all_append, h2]; simpa using ho⟩
  · rw [if_neg hs, Bool.and_eq_true, mt_split]
    constructor
    · rintro ⟨n1, n2, e, h1, h2⟩
      obtain ⟨y, e2, hy⟩ := (mt_plain_one b c hs n2).1 h2
      subst e2
      obtain ⟨e1, e2⟩ := List.append_inj' e rfl
      injection e2 with e2
      subst e1 e2
      exact ⟨h1, hy⟩
    · rintro ⟨h1, h2⟩
      exact ⟨n, [x], rfl, h1, (mt_plain_one b c hs [x]).2 ⟨x, rfl, h2⟩⟩
theorem mt_snoc_nil (b : Bool) (c : Int) (p : List Int) : mt b (p ++ [c]) [] = (star c && mt b p []) := by
  apply Bool.eq_iff_iff.2
  rw [Bool.and_eq_true, mt_split]
  constructor
  · rintro ⟨n1, n2, e, h1, h2⟩
    obtain ⟨e1, e2⟩ := List.append_eq_nil_iff.1 e.symm
    subst e1 e2
    rw [mt_cons_nil, Bool.and_eq_true] at h2
    exact ⟨h2.1, h1⟩
  · rintro ⟨hs, h⟩
    exact ⟨[], [], rfl, h, by rw [mt_cons_nil, hs, mt_nil]; rfl⟩
/-- The table's row behind one byte more of the pattern, as the program reckons it. -/
def nx (b : Bool) (c : Int) (name : List Int) (g : Nat → Bool) : Nat → Bool
  | 0 => star c && g 0
  | i + 1 => if star c then g (i + 1) || nx b c name g i && ok c (name.getD i 0) else g i && same b c (name.getD i 0)
def g0 (i : Nat) : Bool := i == 0
def fw (b : Bool) (p name : List Int) : Nat → Bool := p.foldl (fun g c => nx b c name g) g0
theorem fw_snoc (b : Bool) (p name : List Int) (c : Int) : fw b (p ++ [c]) name = nx b c name (fw b p name) := by simp [fw]
theorem take_snoc (n : List Int) (i : Nat) (h : i < n.length) : n.take (i + 1) = n.take i ++ [n.getD i 0] := by
  rw [List.take_add_one, List.getElem?_eq_getElem h, List.getD_eq_getElem?_getD, List.getElem?_eq_getElem h]
  rfl
theorem fw_aux (b : Bool) (name : List Int) : ∀ (k : Nat) (p : List Int), p.length = k → ∀ i, i ≤ name.length → fw b p name i = mt b p (name.take i) := by
  intro k
  induction k with
  | zero =>
    intro p hp i hi
    have : p = [] := List.eq_nil_of_length_eq_zero hp
    subst this
    rw [mt_nil]
    show (i == 0) = _
    cases i with
    | zero => simp
    | succ i =>
      rw [take_snoc name i (by omega)]
      simp
  | succ k ih =>
    intro p hp
    rcases List.eq_nil_or_concat p with e | ⟨q, c, e⟩
    · subst e; simp at hp
    · rw [List.concat_eq_append] at e
      subst e
      have hq : q.length = k := by simpa using hp
      rw [fw_snoc]
      intro i
      induction i with
      | zero =>
        intro _
        rw [List.take_zero, mt_snoc_nil]
        show (star c && fw b q name 0) = _
        rw [ih q hq 0 (by omega), List.take_zero]
      | succ i ihi =>
        intro hi
        rw [take_snoc name i (by omega), mt_snoc]
        show (if star c then _ else _) = _
        rw [ihi (by omega), ih q hq (i + 1) hi, ih q hq i (by omega), take_snoc name i (by omega)]
theorem fw_eq (b : Bool) (p name : List Int) : fw b p name name.length = mt b p name := by
  rw [fw_aux b name _ p rfl name.length (Nat.le_refl _), List.take_length]
end Mt
end Go.Proofs.Ythlofokgbogndab
