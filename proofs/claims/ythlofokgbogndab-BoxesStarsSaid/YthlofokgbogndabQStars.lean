/- A star fits all; a name fits itself, and with something put for a star. -/
import Derived.Test.YthlofokgbogndabGBoxesx5
import Derived.Test.YthlofokgbogndabQTab
namespace Go.Proofs.Ythlofokgbogndab
namespace Mt
theorem mt_self (b : Bool) : ∀ l : List Int, (∀ c ∈ l, star c = false) → mt b l l = true
  | [], _ => by simp [mt_nil]
  | c :: l, h => by
    rw [mt_cons, if_neg (by rw [h c (by simp)]; decide), mt_self b l fun d hd => h d (List.mem_cons_of_mem _ hd)]
    simp [same]
theorem mt_put (b : Bool) (s : Int) (hs : star s = true) (l m r : List Int) (hl : ∀ c ∈ l, star c = false) (hr : ∀ c ∈ r, star c = false) (hm : m.all (ok s) = true) : mt b (l ++ [s] ++ r) (l ++ m ++ r) = true := by
  rw [mt_split]
  refine ⟨l ++ m, r, rfl, ?_, mt_self b r hr⟩
  rw [mt_split]
  exact ⟨l, m, rfl, mt_self b l hl, by rw [mt_star_one b s hs]; exact hm⟩
end Mt
end Go.Proofs.Ythlofokgbogndab
namespace Go.Proofs.Ythlofokgbogndab.GBoxes
open Go.RowKit Go.Proofs.YthlofokgbogndabW.PrintWords Go.Proofs.YthlofokgbogndabW.PrintLast Go.Proofs.YthlofokgbogndabW.PrintMore Go.Proofs.YthlofokgbogndabW.SRows
open Go.Proofs.Ythlofokgbogndab (Mt.mt)
theorem bytesOf_app (a b : ByteArray) : bytesOf (a ++ b) = bytesOf a ++ bytesOf b := by
  have : (a ++ b).data = a.data ++ b.data := ByteArray.data_append
  simp [bytesOf, this]
def Free (s : ByteArray) : Prop := ∀ j, j < s.size → bt s (j : Int) ≠ 42 ∧ bt s (j : Int) ≠ 37
theorem Free.all {s : ByteArray} (h : Free s) : ∀ c ∈ bytesOf s, Mt.star c = false := by
  intro c hc
  obtain ⟨j, hj, rfl⟩ := List.mem_iff_getElem.1 hc
  have hj' : j < s.size := by rw [← bytesOf_length]; exact hj
  have e := bt_get s j hj'
  rw [List.getD_eq_getElem?_getD, List.getElem?_eq_getElem hj] at e
  have := h j hj'
  rw [e] at this
  simp only [Option.getD_some] at this
  simp [Mt.star, this.1, this.2]
theorem up_ (i : Nat) (h : i ≤ 4000000) : wrap64 ((i : Int) + 1) = ((i + 1 : Nat) : Int) := by
  unfold wrap64
  omega
theorem l2_go (a b c : ByteArray) (x7 : Bool) (s : ByteArray) (hs : s.size ≤ 1000) (l : List ByteArray) (x44 x45 : Int) (K : Nat) (hK : Free s → postbaglaw13_BoxesStars.l1 K a b c x7 l x44 (wrap64 (x45 + 1)) = some true) : ∀ d i, i + d = s.size → (∀ j, j < i → bt s (j : Int) ≠ 42 ∧ bt s (j : Int) ≠ 37) → postbaglaw13_BoxesStars.l2 (K + 1 + d) a b c x7 s l x44 x45 (s.size : Int) (i : Int) = some true := by
  intro d
  induction d with
  | zero =>
    intro i hi hf
    have e : i = s.size := by omega
    subst e
    rw [show K + 1 + 0 = K + 1 from rfl]
    simp only [postbaglaw13_BoxesStars.l2]
    rw [if_neg (by omega)]
    exact hK hf
  | succ d ih =>
    intro i hi hf
    rw [show K + 1 + (d + 1) = (K + 1 + d) + 1 from rfl]
    simp only [postbaglaw13_BoxesStars.l2]
    rw [if_pos (by omega), if_pos (by omega), if_pos (by omega)]
    by_cases h1 : bt s (i : Int) = 42
    · rw [if_pos h1]
    · rw [if_neg h1]
      by_cases h2 : bt s (i : Int) = 37
      · rw [if_pos h2]
      · rw [if_neg h2, up_ i (by omega)]
        refine ih (i + 1) (by omega) fun j hj => ?_
        by_cases e : j = i
        · subst e
          exact ⟨h1, h2⟩
        · exact hf j (by omega)
def sl (b : ByteArray) (i : Nat) : Bool := ((bytesOf b).take i).any (· == 47)
theorem sl_succ (b : ByteArray) (i : Nat) (h : i < b.size) : sl b (i + 1) = (sl b i || (bt b (i : Int) == 47)) := by
  have hl : i < (bytesOf b).length := by rw [bytesOf_length]; exact h
  rw [sl, Mt.take_snoc _ _ hl, List.any_append, bt_get b i h, sl]
  simp
theorem l0_go (a b c : ByteArray) (hb : b.size ≤ 1000) (K : Nat) (hK : postbaglaw13_BoxesStars.l1 K a b c (sl b b.size) [a, b, c] 3 0 = some true) : ∀ d i, i + d = b.size → postbaglaw13_BoxesStars.l0 (K + 1 + d) a b c (sl b i) (b.size : Int) (i : Int) = some true := by
  intro d
  induction d with
  | zero =>
    intro i hi
    have e : i = b.size := by omega
    subst e
    rw [show K + 1 + 0 = K + 1 from rfl]
    simp only [postbaglaw13_BoxesStars.l0]
    rw [if_neg (by omega), Option.bind_some]
    exact hK
  | succ d ih =>
    intro i hi
    rw [show K + 1 + (d + 1) = (K + 1 + d) + 1 from rfl]
    have h := ih (i + 1) (by omega)
    rw [sl_succ b i (by omega)] at h
    simp only [postbaglaw13_BoxesStars.l0]
    rw [if_pos (by omega), up_ i (by omega)]
    by_cases h1 : sl b i = true
    · rw [if_pos h1]
      rw [h1, Bool.true_or] at h
      exact h
    · have h1' : sl b i = false := by simpa using h1
      rw [if_neg h1, if_pos (by omega), if_pos (by omega)]
      rw [h1', Bool.false_or] at h
      exact h
theorem all_slash (l : List Int) : l.all (Mt.ok 37) = !(l.any (· == 47)) := by
  induction l with
  | nil => rfl
  | cons x l ih =>
    rw [List.all_cons, List.any_cons, ih]
    unfold Mt.ok
    cases h : (x == 47) <;> simp [h, bne]
theorem fin_ (a b c : ByteArray) (ha : a.size ≤ 60) (hb : b.size ≤ 60) (hc : c.size ≤ 60) (fa : Free a) (fc : Free c) : postbaglaw13_BoxesStars.l1 1 a b c (sl b b.size) [a, b, c] 3 3 = some true := by
  have esl : sl b b.size = (bytesOf b).any (· == 47) := by rw [sl, ← bytesOf_length b, List.take_length]
  have e42 : bytesOf (⟨#[42]⟩ : ByteArray) = [42] := rfl
  have e37 : bytesOf (⟨#[37]⟩ : ByteArray) = [37] := rfl
  have z42 : (⟨#[42]⟩ : ByteArray).size = 1 := rfl
  have z37 : (⟨#[37]⟩ : ByteArray).size = 1 := rfl
  have s1 : (a ++ (⟨#[42]⟩ : ByteArray)).size = a.size + 1 := by rw [ByteArray.size_append, z42]
  have s2 : (a ++ (⟨#[37]⟩ : ByteArray)).size = a.size + 1 := by rw [ByteArray.size_append, z37]
  have s3 : (a ++ b).size = a.size + b.size := ByteArray.size_append
  have t1 : ((a ++ (⟨#[42]⟩ : ByteArray)) ++ c).size = a.size + 1 + c.size := by rw [ByteArray.size_append, s1]
  have t2 : ((a ++ (⟨#[37]⟩ : ByteArray)) ++ c).size = a.size + 1 + c.size := by rw [ByteArray.size_append, s2]
  have t3 : ((a ++ b) ++ c).size = a.size + b.size + c.size := by rw [ByteArray.size_append, s3]
  have f1 : boxes_Fits.f (⟨#[42]⟩ : ByteArray) a = some true := by
    rw [fits_mt _ a (by rw [z42]; omega) (by omega), e42, Mt.mt_star_one _ 42 rfl]
    congr 1
    exact List.all_eq_true.2 fun x _ => rfl
  have f2 : boxes_Fits.f (⟨#[37]⟩ : ByteArray) b = some (!(sl b b.size)) := by
    rw [fits_mt _ b (by rw [z37]; omega) (by omega), e37, Mt.mt_star_one _ 37 rfl, all_slash, esl]
  have f3 : boxes_Fits.f a a = some true := by
    rw [fits_mt a a (by omega) (by omega), Mt.mt_self _ _ fa.all]
  have f4 : boxes_Fits.f ((a ++ (⟨#[42]⟩ : ByteArray)) ++ c) ((a ++ b) ++ c) = some true := by
    rw [fits_mt _ _ (by omega) (by omega), bytesOf_app, bytesOf_app, bytesOf_app, bytesOf_app, e42, Mt.mt_put _ 42 rfl _ _ _ fa.all fc.all (List.all_eq_true.2 fun x _ => rfl)]
  have f5 : sl b b.size = false → boxes_Fits.f ((a ++ (⟨#[37]⟩ : ByteArray)) ++ c) ((a ++ b) ++ c) = some true := by
    intro h
    rw [fits_mt _ _ (by omega) (by omega), bytesOf_app, bytesOf_app, bytesOf_app, bytesOf_app, e37, Mt.mt_put _ 37 rfl _ _ _ fa.all fc.all (by rw [all_slash, ← esl, h]; rfl)]
  simp only [postbaglaw13_BoxesStars.l1]
  rw [if_neg (by decide), f1, Option.bind_some, if_pos rfl, f2, Option.bind_some, beq_self_eq_true, if_pos rfl, f3, Option.bind_some, if_pos rfl, if_pos (by omega), if_pos (by omega), if_pos (by omega), if_pos (by omega), f4, Option.bind_some, if_pos rfl]
  by_cases h : sl b b.size = true
  · rw [if_pos h]
  · rw [if_neg h, if_pos (by omega), f5 (by simpa using h), Option.bind_some]
theorem w1_ : wrap64 (0 + 1) = 1 := by unfold wrap64; omega
theorem w2_ : wrap64 (1 + 1) = 2 := by unfold wrap64; omega
theorem w3_ : wrap64 (2 + 1) = 3 := by unfold wrap64; omega
theorem stars_j0 (a b c : ByteArray) (ha : a.size ≤ 60) (hb : b.size ≤ 60) (hc : c.size ≤ 60) : ∃ k, postbaglaw13_BoxesStars.j0 k a b c false = some true := by
  have r0 : rdOf ByteArray.empty [a, b, c] 0 = a := rfl
  have r1 : rdOf ByteArray.empty [a, b, c] 1 = b := rfl
  have r2 : rdOf ByteArray.empty [a, b, c] 2 = c := rfl
  have x1 : Free a → Free c → postbaglaw13_BoxesStars.l1 1 a b c (sl b b.size) [a, b, c] 3 (wrap64 (2 + 1)) = some true := fun fa fc => by rw [w3_]; exact fin_ a b c ha hb hc fa fc
  have x2 : Free a → postbaglaw13_BoxesStars.l1 (1 + 1 + c.size + 1) a b c (sl b b.size) [a, b, c] 3 (wrap64 (1 + 1)) = some true := fun fa => by
    have h := l2_go a b c (sl b b.size) c (by omega) [a, b, c] 3 2 1 (x1 fa) c.size 0 (by omega) (fun j hj => by omega)
    rw [w2_]
    simp only [postbaglaw13_BoxesStars.l1]
    rw [if_pos (by decide), if_pos (by decide), if_pos (by show (2 : Int) < 3; decide), r2]
    exact h
  have x3 : Free a → postbaglaw13_BoxesStars.l1 (1 + 1 + c.size + 1 + 1 + b.size + 1) a b c (sl b b.size) [a, b, c] 3 (wrap64 (0 + 1)) = some true := fun fa => by
    have h := l2_go a b c (sl b b.size) b (by omega) [a, b, c] 3 1 _ (fun _ => x2 fa) b.size 0 (by omega) (fun j hj => by omega)
    rw [w1_]
    simp only [postbaglaw13_BoxesStars.l1]
    rw [if_pos (by decide), if_pos (by decide), if_pos (by show (1 : Int) < 3; decide), r1]
    exact h
  have x4 : postbaglaw13_BoxesStars.l1 (1 + 1 + c.size + 1 + 1 + b.size + 1 + 1 + a.size + 1) a b c (sl b b.size) [a, b, c] 3 0 = some true := by
    have h := l2_go a b c (sl b b.size) a (by omega) [a, b, c] 3 0 _ x3 a.size 0 (by omega) (fun j hj => by omega)
    simp only [postbaglaw13_BoxesStars.l1]
    rw [if_pos (by decide), if_pos (by decide), if_pos (by show (0 : Int) < 3; decide), r0]
    exact h
  obtain ⟨K, x5⟩ : ∃ K, postbaglaw13_BoxesStars.l0 K a b c (sl b 0) (b.size : Int) ((0 : Nat) : Int) = some true := ⟨_, l0_go a b c (by omega) _ x4 b.size 0 (by omega)⟩
  refine ⟨K + 1, ?_⟩
  simp only [postbaglaw13_BoxesStars.j0]
  rw [if_neg (by decide)]
  exact x5
theorem BoxesStars : postbaglaw13_BoxesStars.Pure := by
  intro a b c _ _ _
  have j1 : ∀ k, postbaglaw13_BoxesStars.j0 (k + 1) a b c true = some true := fun k => by
    simp only [postbaglaw13_BoxesStars.j0, if_true]
  by_cases ha : (a.size : Int) > 60
  · refine ⟨1, ?_⟩
    rw [postbaglaw13_BoxesStars.f, alive_true, Option.bind_some, if_pos rfl, if_pos ha, j1]
  · by_cases hb : (b.size : Int) > 60
    · refine ⟨1, ?_⟩
      rw [postbaglaw13_BoxesStars.f, alive_true, Option.bind_some, if_pos rfl, if_neg ha, if_pos hb, j1]
    · by_cases hc : (c.size : Int) > 60
      · refine ⟨1, ?_⟩
        rw [postbaglaw13_BoxesStars.f, alive_true, Option.bind_some, if_pos rfl, if_neg ha, if_neg hb, decide_eq_true hc, j1]
      · obtain ⟨k, h⟩ := stars_j0 a b c (by omega) (by omega) (by omega)
        refine ⟨k, ?_⟩
        rw [postbaglaw13_BoxesStars.f, alive_true, Option.bind_some, if_pos rfl, if_neg ha, if_neg hb, decide_eq_false hc]
        exact h
end Go.Proofs.Ythlofokgbogndab.GBoxes
