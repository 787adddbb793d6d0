/- The reference's table of patterns and names: cell by cell from its end; so both ways of fitting are one. -/
import Derived.Test.YthlofokgbogndabGBoxesx5
import Derived.Test.YthlofokgbogndabQTab
namespace Go.Proofs.Ythlofokgbogndab.GBoxes
open Go.RowKit Go.Proofs.YthlofokgbogndabW.PrintWords Go.Proofs.YthlofokgbogndabW.PrintLast Go.Proofs.YthlofokgbogndabW.PrintMore Go.Proofs.YthlofokgbogndabW.SRows
open Go.Proofs.Ythlofokgbogndab (Mt.mt)
theorem wrN (m : Nat) (z : Int) (h : z = (m : Int)) (hm : m ≤ 4000000) : wrap64 z = (m : Int) := by
  subst h
  unfold wrap64
  omega
theorem idx_ (a b s : Nat) (ha : a ≤ 1000) (hb : b ≤ 1000) (hs : s ≤ 1000) : wrap64 (wrap64 ((a : Int) * ((s + 1 : Nat) : Int)) + (b : Int)) = ((a * (s + 1) + b : Nat) : Int) := by
  have h : a * (s + 1) ≤ 1000 * 1001 := Nat.mul_le_mul ha (by omega)
  rw [← Int.natCast_mul]
  generalize a * (s + 1) = M at h ⊢
  rw [wrN M _ rfl (by omega), wrN (M + b) _ (by omega) (by omega)]
theorem idx1_ (m : Nat) (h : m ≤ 2000000) : wrap64 ((m : Int) + 1) = ((m + 1 : Nat) : Int) := wrN (m + 1) _ (by omega) (by omega)
theorem wm1_ (m : Nat) (h : m ≤ 2000000) : wrap64 (((m + 1 : Nat) : Int) - 1) = (m : Int) := wrN m _ (by omega) (by omega)
theorem wm_ (b : Nat) (h : b ≤ 2000000) : wrap64 ((b : Int) - 1) = (b : Int) - 1 := by
  unfold wrap64
  omega
theorem inside_ (a b r s : Nat) (ha : a < r) (hb : b < s) : a * s + b < r * s := by
  have := Nat.mul_le_mul_right s (show a + 1 ≤ r from ha)
  rw [Nat.succ_mul] at this
  omega
theorem inj_ (a b a' b' s : Nat) (hb : b < s) (hb' : b' < s) (h : a' * s + b' = a * s + b) : a' = a ∧ b' = b := by
  rcases Nat.lt_trichotomy a' a with hl | hl | hl
  · have := Nat.mul_le_mul_right s (show a' + 1 ≤ a from hl)
    rw [Nat.succ_mul] at this
    omega
  · subst hl
    omega
  · have := Nat.mul_le_mul_right s (show a + 1 ≤ a' from hl)
    rw [Nat.succ_mul] at this
    omega
theorem rdOf_nat (x : List Bool) (m : Nat) : rdOf false x (m : Int) = x.getD m false := rfl
theorem same_low (x y : Int) (hx : 0 ≤ x ∧ x ≤ 255) (hy : 0 ≤ y ∧ y ≤ 255) : ((strOfNums [lowI x]).toList = (strOfNums [lowI y]).toList) ↔ Mt.lowI x = Mt.lowI y := by
  have h := same_bytes [lowI x] [lowI y] (by simpa using lowI_range x hx) (by simpa using lowI_range y hy)
  have e : ∀ z, Mt.lowI z = lowI z := fun _ => rfl
  rw [e, e]
  constructor
  · intro h1
    rw [h1] at h
    simpa using h.symm
  · intro h1
    rw [h1]
theorem bt_range (s : ByteArray) (i : Nat) (h : i < s.size) : 0 ≤ bt s (i : Int) ∧ bt s (i : Int) ≤ 255 := by
  have hl : i < (bytesOf s).length := by rw [bytesOf_length]; exact h
  rw [bt_get s i h, List.getD_eq_getElem?_getD, List.getElem?_eq_getElem hl]
  exact bytesOf_range s _ (List.getElem_mem hl)
section
variable (K : Nat) (p n : ByteArray) (x7 : List Bool) (a b m0 m1 : Nat) (x5 x6 : Int)
theorem l1_last (e0 : wrap64 (wrap64 ((a : Int) * x6) + (b : Int)) = (m0 : Int)) (e5 : wrap64 (x5 - 1) = (a : Int)) (e6 : wrap64 (x6 - 1) = (n.size : Int)) (eb : wrap64 ((b : Int) - 1) = (b : Int) - 1) (h0 : m0 < x7.length) :
    postbagref13_Fits.l1 (K + 1) p n x5 x6 x7 (a : Int) (b : Int) = postbagref13_Fits.l1 K p n x5 x6 (x7.set m0 (b == n.size)) (a : Int) ((b : Int) - 1) := by
  have hv : ((b : Int) == (n.size : Int)) = (b == n.size) := by
    rw [Bool.eq_iff_iff, beq_iff_eq, beq_iff_eq]
    omega
  simp only [postbagref13_Fits.l1, e0, e5, e6, eb]
  rw [if_pos (by omega), if_pos trivial, if_pos (by omega), if_pos (by omega), Int.toNat_natCast, hv]
theorem l1_mid (e5 : wrap64 (x5 - 1) = (p.size : Int)) (ha : a < p.size) :
    postbagref13_Fits.l1 (K + 1) p n x5 x6 x7 (a : Int) (b : Int) = postbagref13_Fits.j2 K p n x5 x6 x7 (a : Int) (b : Int) false (Mt.star (bt p (a : Int))) := by
  simp only [postbagref13_Fits.l1, e5]
  rw [if_pos (by omega), if_neg (by omega), if_pos (by omega), if_pos (by omega)]
  unfold Mt.star
  by_cases h : bt p (a : Int) = 42
  · rw [if_pos h, h]
    rfl
  · rw [if_neg h]
    have : (bt p (a : Int) == 42) = false := by simpa using h
    rw [this, Bool.false_or]
theorem j2_star (ea : wrap64 ((a : Int) + 1) = ((a + 1 : Nat) : Int)) (e0 : wrap64 (wrap64 ((a : Int) * x6) + (b : Int)) = (m0 : Int)) (e1 : wrap64 (wrap64 (((a + 1 : Nat) : Int) * x6) + (b : Int)) = (m1 : Int)) (e2 : wrap64 ((m0 : Int) + 1) = ((m0 + 1 : Nat) : Int)) (e6 : wrap64 (x6 - 1) = (n.size : Int)) (eb : wrap64 ((b : Int) - 1) = (b : Int) - 1)
    (ha : a < p.size) (h0 : m0 < x7.length) (h1 : m1 < x7.length) (h2 : b < n.size → m0 + 1 < x7.length) :
    postbagref13_Fits.j2 (K + 1) p n x5 x6 x7 (a : Int) (b : Int) false true = postbagref13_Fits.l1 K p n x5 x6 (x7.set m0 (x7.getD m1 false || (decide (b < n.size) && (Mt.ok (bt p (a : Int)) (bt n (b : Int)) && x7.getD (m0 + 1) false)))) (a : Int) ((b : Int) - 1) := by
  simp only [postbagref13_Fits.j2, ea, e0, e1, e2, e6, eb, rdOf_nat, Int.toNat_natCast]
  rw [if_pos trivial, if_pos (by omega), if_pos (by omega)]
  by_cases hv : x7.getD m1 false = true
  · rw [if_pos hv, if_pos (by omega), if_pos (by omega), hv, Bool.true_or]
  · rw [if_neg hv]
    have hv2 : x7.getD m1 false = false := by simpa using hv
    rw [hv2, Bool.false_or]
    by_cases hb : b < n.size
    · have h2' := h2 hb
      rw [if_pos (by omega), if_pos (by omega), if_pos (by omega), decide_eq_true hb, Bool.true_and]
      unfold Mt.ok
      by_cases h42 : bt p (a : Int) = 42
      · rw [if_pos h42, if_pos (by omega), if_pos (by omega), if_pos (by omega), if_pos (by omega), h42]
        rfl
      · have h42' : (bt p (a : Int) == 42) = false := by simpa using h42
        rw [if_neg h42, if_pos (by omega), if_pos (by omega), h42', Bool.false_or]
        by_cases h47 : bt n (b : Int) = 47
        · rw [if_pos h47, if_pos (by omega), if_pos (by omega), h47]
          rfl
        · have h47' : (bt n (b : Int) != 47) = true := by simpa using h47
          rw [if_neg h47, if_pos (by omega), if_pos (by omega), if_pos (by omega), if_pos (by omega), h47', Bool.true_and]
    · rw [if_neg (by omega), if_pos (by omega), if_pos (by omega), decide_eq_false hb, Bool.false_and]
theorem j2_plain (ea : wrap64 ((a : Int) + 1) = ((a + 1 : Nat) : Int)) (eb1 : wrap64 ((b : Int) + 1) = ((b + 1 : Nat) : Int)) (e0 : wrap64 (wrap64 ((a : Int) * x6) + (b : Int)) = (m0 : Int)) (e1 : wrap64 (wrap64 (((a + 1 : Nat) : Int) * x6) + (b : Int)) = (m1 : Int)) (e3 : wrap64 ((m1 : Int) + 1) = ((m1 + 1 : Nat) : Int)) (e6 : wrap64 (x6 - 1) = (n.size : Int)) (eb : wrap64 ((b : Int) - 1) = (b : Int) - 1)
    (ha : a < p.size) (h0 : m0 < x7.length) (h3 : b < n.size → m1 + 1 < x7.length) :
    postbagref13_Fits.j2 (K + 1) p n x5 x6 x7 (a : Int) (b : Int) false false = postbagref13_Fits.l1 K p n x5 x6 (x7.set m0 (decide (b < n.size) && (Mt.same (inB n) (bt p (a : Int)) (bt n (b : Int)) && x7.getD (m1 + 1) false))) (a : Int) ((b : Int) - 1) := by
  simp only [postbagref13_Fits.j2, ea, eb1, e0, e1, e3, e6, eb, rdOf_nat, Int.toNat_natCast]
  rw [if_neg (by decide)]
  by_cases hb : b < n.size
  · have h3' := h3 hb
    rw [if_pos (by omega), if_pos (by omega), if_pos (by omega), if_pos (by omega), if_pos (by omega), decide_eq_true hb, Bool.true_and]
    unfold Mt.same inB
    by_cases h : bt p (a : Int) = bt n (b : Int)
    · have h' : (bt p (a : Int) == bt n (b : Int)) = true := by simpa using h
      rw [if_pos h, if_pos (by omega), if_pos (by omega), if_pos (by omega), if_pos (by omega), h', Bool.true_or, Bool.true_and]
    · have h' : (bt p (a : Int) == bt n (b : Int)) = false := by simpa using h
      rw [if_neg h, h', Bool.false_or]
      by_cases hi : n.toList = [73, 78, 66, 79, 88]
      · rw [if_pos hi, decide_eq_true hi, Bool.true_and, if_pos (by omega), if_pos (by omega), small_one p a ha, Option.bind_some, if_pos (by omega), if_pos (by omega), small_one n b hb, Option.bind_some]
        by_cases hl : (strOfNums [lowI (bt p (a : Int))]).toList = (strOfNums [lowI (bt n (b : Int))]).toList
        · have hl' : (Mt.lowI (bt p (a : Int)) == Mt.lowI (bt n (b : Int))) = true := by simpa using (same_low _ _ (bt_range p a ha) (bt_range n b hb)).1 hl
          rw [if_pos hl, if_pos (by omega), if_pos (by omega), if_pos (by omega), if_pos (by omega), hl', Bool.true_and]
        · have hl' : (Mt.lowI (bt p (a : Int)) == Mt.lowI (bt n (b : Int))) = false := by simpa using fun e => hl ((same_low _ _ (bt_range p a ha) (bt_range n b hb)).2 e)
          rw [if_neg hl, if_pos (by omega), if_pos (by omega), hl', Bool.false_and]
      · rw [if_neg hi, decide_eq_false hi, if_pos (by omega), if_pos (by omega)]
        rfl
  · rw [if_neg (by omega), if_pos (by omega), if_pos (by omega), decide_eq_false hb, Bool.false_and]
end
/-- The cells behind a, b hold what they are to hold. -/
def Inv (p n : ByteArray) (x7 : List Bool) (a b : Nat) : Prop :=
  x7.length = (p.size + 1) * (n.size + 1) ∧ ∀ a' b', a' < p.size + 1 → b' < n.size + 1 → (a < a' ∨ a = a' ∧ b ≤ b') → x7.getD (a' * (n.size + 1) + b') false = TT p n a' b'
theorem Inv.set {p n : ByteArray} {x7 : List Bool} {a b : Nat} (h : Inv p n x7 a (b + 1)) (ha : a ≤ p.size) (hb : b ≤ n.size) : Inv p n (x7.set (a * (n.size + 1) + b) (TT p n a b)) a b := by
  obtain ⟨hl, hc⟩ := h
  refine ⟨by rw [List.length_set]; exact hl, fun a' b' ha' hb' ho => ?_⟩
  have hi := inside_ a b (p.size + 1) (n.size + 1) (by omega) (by omega)
  rw [← hl] at hi
  by_cases e : a' = a ∧ b' = b
  · obtain ⟨rfl, rfl⟩ := e
    rw [List.getD_eq_getElem?_getD, List.getElem?_set_self hi]
    rfl
  · have hne : a * (n.size + 1) + b ≠ a' * (n.size + 1) + b' := fun e2 => e (inj_ a b a' b' (n.size + 1) (by omega) (by omega) e2.symm)
    rw [List.getD_eq_getElem?_getD, List.getElem?_set_ne hne, ← List.getD_eq_getElem?_getD]
    exact hc a' b' ha' hb' (by omega)
theorem l1_step (p n : ByteArray) (hp : p.size ≤ 900) (hn : n.size ≤ 900) (K : Nat) (x7 : List Bool) (a b : Nat) (ha : a ≤ p.size) (hb : b ≤ n.size) (hI : Inv p n x7 a (b + 1)) (r : Bool)
    (h : postbagref13_Fits.l1 K p n ((p.size + 1 : Nat) : Int) ((n.size + 1 : Nat) : Int) (x7.set (a * (n.size + 1) + b) (TT p n a b)) (a : Int) ((b : Int) - 1) = some r) :
    postbagref13_Fits.l1 (K + 2) p n ((p.size + 1 : Nat) : Int) ((n.size + 1 : Nat) : Int) x7 (a : Int) (b : Int) = some r := by
  obtain ⟨hl, hc⟩ := hI
  have ka : a ≤ 1000 := by omega
  have kb : b ≤ 1000 := by omega
  have kn : n.size ≤ 1000 := by omega
  have kp2 : p.size ≤ 2000000 := by omega
  have kn2 : n.size ≤ 2000000 := by omega
  have kb2 : b ≤ 2000000 := by omega
  have ka2 : a ≤ 2000000 := by omega
  have la : a < p.size + 1 := by omega
  have lb : b < n.size + 1 := by omega
  have hM : (p.size + 1) * (n.size + 1) ≤ 2000000 := Nat.le_trans (Nat.mul_le_mul (show p.size + 1 ≤ 901 by omega) (show n.size + 1 ≤ 901 by omega)) (by decide)
  have i0 := inside_ a b (p.size + 1) (n.size + 1) la lb
  by_cases hlast : a = p.size
  · have h' := (postbagref13_Fits.mono_l K).2.1 _ _ _ _ _ _ _ r h
    have e0 := idx_ a b n.size ka kb kn
    have e5 := wm1_ p.size kp2
    rw [hlast] at e0 i0 h'
    rw [hlast, show K + 2 = (K + 1) + 1 from rfl, l1_last (K + 1) p n x7 p.size b (p.size * (n.size + 1) + b) _ _ e0 e5 (wm1_ n.size kn2) (wm_ b kb2) (by rw [hl]; exact i0), ← TT_last p n b hb]
    exact h'
  · have ha' : a < p.size := by omega
    have la1 : a + 1 < p.size + 1 := by omega
    have ka1 : a + 1 ≤ 1000 := by omega
    have hbe : ¬ b < n.size → b = n.size := by omega
    have lb1 : b < n.size → b + 1 < n.size + 1 := by omega
    have i1 := inside_ (a + 1) b (p.size + 1) (n.size + 1) la1 lb
    have i2 : b < n.size → a * (n.size + 1) + b + 1 < x7.length := fun hb' => by
      rw [hl]
      exact inside_ a (b + 1) (p.size + 1) (n.size + 1) la (lb1 hb')
    have i3 : b < n.size → (a + 1) * (n.size + 1) + b + 1 < x7.length := fun hb' => by
      rw [hl]
      exact inside_ (a + 1) (b + 1) (p.size + 1) (n.size + 1) la1 (lb1 hb')
    have c1 : x7.getD ((a + 1) * (n.size + 1) + b) false = TT p n (a + 1) b := hc (a + 1) b la1 lb (.inl (Nat.lt_succ_self a))
    have c2 : b < n.size → x7.getD (a * (n.size + 1) + b + 1) false = TT p n a (b + 1) := fun hb' => hc a (b + 1) la (lb1 hb') (.inr ⟨rfl, Nat.le_refl _⟩)
    have c3 : b < n.size → x7.getD ((a + 1) * (n.size + 1) + b + 1) false = TT p n (a + 1) (b + 1) := fun hb' => hc (a + 1) (b + 1) la1 (lb1 hb') (.inl (Nat.lt_succ_self a))
    clear hc
    have e2 := idx1_ _ (Nat.le_trans (Nat.le_of_lt i0) hM)
    have e3 := idx1_ _ (Nat.le_trans (Nat.le_of_lt i1) hM)
    rw [← hl] at i0 i1
    rw [show K + 2 = (K + 1) + 1 from rfl, l1_mid (K + 1) p n x7 a b _ _ (wm1_ p.size kp2) ha']
    by_cases hs : Mt.star (bt p (a : Int)) = true
    · have hv : (x7.getD ((a + 1) * (n.size + 1) + b) false || (decide (b < n.size) && (Mt.ok (bt p (a : Int)) (bt n (b : Int)) && x7.getD (a * (n.size + 1) + b + 1) false))) = TT p n a b := by
        by_cases hb' : b < n.size
        · rw [c1, c2 hb', TT_mid p n a b ha' hb', if_pos hs, decide_eq_true hb', Bool.true_and]
        · have := hbe hb'
          rw [c1, decide_eq_false hb', this, TT_end p n a ha', hs, Bool.false_and, Bool.or_false, Bool.true_and]
      rw [hs, j2_star K p n x7 a b (a * (n.size + 1) + b) ((a + 1) * (n.size + 1) + b) _ _ (idx1_ a ka2) (idx_ a b n.size ka kb kn) (idx_ (a + 1) b n.size ka1 kb kn) e2 (wm1_ n.size kn2) (wm_ b kb2) ha' i0 i1 i2, hv]
      exact h
    · have hs' : Mt.star (bt p (a : Int)) = false := by simpa using hs
      have hv : (decide (b < n.size) && (Mt.same (inB n) (bt p (a : Int)) (bt n (b : Int)) && x7.getD ((a + 1) * (n.size + 1) + b + 1) false)) = TT p n a b := by
        by_cases hb' : b < n.size
        · rw [c3 hb', TT_mid p n a b ha' hb', if_neg hs, decide_eq_true hb', Bool.true_and]
        · have := hbe hb'
          rw [decide_eq_false hb', this, TT_end p n a ha', hs', Bool.false_and, Bool.false_and]
      rw [hs', j2_plain K p n x7 a b (a * (n.size + 1) + b) ((a + 1) * (n.size + 1) + b) _ _ (idx1_ a ka2) (idx1_ b kb2) (idx_ a b n.size ka kb kn) (idx_ (a + 1) b n.size ka1 kb kn) e3 (wm1_ n.size kn2) (wm_ b kb2) ha' i0 i3, hv]
      exact h
theorem l1_row (p n : ByteArray) (hp : p.size ≤ 900) (hn : n.size ≤ 900) (a : Nat) (ha : a ≤ p.size) : ∀ b, b ≤ n.size + 1 → ∀ x7, Inv p n x7 a b → ∃ x7', Inv p n x7' a 0 ∧ ∀ K r, postbagref13_Fits.l0 K p n ((p.size + 1 : Nat) : Int) ((n.size + 1 : Nat) : Int) x7' ((a : Int) - 1) = some r → postbagref13_Fits.l1 (K + 1 + 2 * b) p n ((p.size + 1 : Nat) : Int) ((n.size + 1 : Nat) : Int) x7 (a : Int) ((b : Int) - 1) = some r := by
  intro b
  induction b with
  | zero =>
    intro _ x7 hI
    refine ⟨x7, hI, fun K r h => ?_⟩
    rw [show K + 1 + 2 * 0 = K + 1 from rfl]
    simp only [postbagref13_Fits.l1]
    rw [if_neg (by omega), wm_ a (by omega)]
    exact h
  | succ b ih =>
    intro hb x7 hI
    obtain ⟨x7', hI', hr⟩ := ih (by omega) _ (hI.set ha (by omega))
    refine ⟨x7', hI', fun K r h => ?_⟩
    have h' := hr K r h
    rw [show (((b + 1 : Nat) : Int) - 1) = (b : Int) by omega]
    exact l1_step p n hp hn (K + 1 + 2 * b) x7 a b ha (by omega) hI r h'
theorem l0_all (p n : ByteArray) (hp : p.size ≤ 900) (hn : n.size ≤ 900) : ∀ a, a ≤ p.size → ∀ x7, Inv p n x7 a (n.size + 1) → ∃ N, postbagref13_Fits.l0 N p n ((p.size + 1 : Nat) : Int) ((n.size + 1 : Nat) : Int) x7 (a : Int) = some (TT p n 0 0) := by
  have e6 := wm1_ n.size (by omega)
  intro a
  induction a with
  | zero =>
    intro ha x7 hI
    obtain ⟨x7', hI', hr⟩ := l1_row p n hp hn 0 ha (n.size + 1) (Nat.le_refl _) x7 hI
    have h0 : postbagref13_Fits.l0 1 p n ((p.size + 1 : Nat) : Int) ((n.size + 1 : Nat) : Int) x7' (((0 : Nat) : Int) - 1) = some (TT p n 0 0) := by
      have hc := hI'.2 0 0 (by omega) (by omega) (by omega)
      rw [Nat.zero_mul] at hc
      have hpos : 0 < x7'.length := by
        rw [hI'.1]
        exact Nat.mul_pos (by omega) (by omega)
      simp only [postbagref13_Fits.l0]
      rw [if_neg (by omega), if_pos (by omega)]
      exact congrArg some hc
    refine ⟨1 + 1 + 2 * (n.size + 1) + 1, ?_⟩
    have h1 := hr 1 _ h0
    simp only [postbagref13_Fits.l0]
    rw [if_pos (by omega), e6]
    rw [show (((n.size + 1 : Nat) : Int) - 1) = (n.size : Int) by omega] at h1
    exact h1
  | succ a ih =>
    intro ha x7 hI
    obtain ⟨x7', hI', hr⟩ := l1_row p n hp hn (a + 1) ha (n.size + 1) (Nat.le_refl _) x7 hI
    obtain ⟨N, h0⟩ := ih (by omega) x7' ⟨hI'.1, fun a' b' ha' hb' ho => hI'.2 a' b' ha' hb' (by omega)⟩
    refine ⟨N + 1 + 2 * (n.size + 1) + 1, ?_⟩
    rw [show (a : Int) = ((a + 1 : Nat) : Int) - 1 by omega] at h0
    have h1 := hr N _ h0
    simp only [postbagref13_Fits.l0]
    rw [if_pos (by omega), e6]
    rw [show (((n.size + 1 : Nat) : Int) - 1) = (n.size : Int) by omega] at h1
    exact h1
theorem ref_fits (p n : ByteArray) (hp : p.size ≤ 900) (hn : n.size ≤ 900) : ∃ N, postbagref13_Fits.f N p n = some (Mt.mt (inB n) (bytesOf p) (bytesOf n)) := by
  have hM : (p.size + 1) * (n.size + 1) ≤ 901 * 901 := Nat.mul_le_mul (by omega) (by omega)
  have ep := idx1_ p.size (by omega)
  have en := idx1_ n.size (by omega)
  have em := wm1_ p.size (by omega)
  have eM : wrap64 (((p.size + 1 : Nat) : Int) * ((n.size + 1 : Nat) : Int)) = (((p.size + 1) * (n.size + 1) : Nat) : Int) := by
    rw [← Int.natCast_mul]
    exact wrN _ _ rfl (Nat.le_trans hM (by decide))
  obtain ⟨N, h⟩ := l0_all p n hp hn p.size (Nat.le_refl _) (List.replicate ((p.size + 1) * (n.size + 1)) false) ⟨List.length_replicate, fun a' b' ha' hb' ho => by omega⟩
  refine ⟨N, ?_⟩
  rw [postbagref13_Fits.f, ep, en, eM, em, if_pos (Int.natCast_nonneg _), Int.toNat_natCast, if_pos (Nat.le_trans hM (by decide)), h]
  rfl
theorem BoxesFits : postbaglaw13_BoxesFits.Pure := by
  intro p n _ _
  have j1 : ∀ k, postbaglaw13_BoxesFits.j0 (k + 1) p n true = some true := fun k => by
    simp only [postbaglaw13_BoxesFits.j0, if_true]
  have go : (p.size ≤ 200 ∧ n.size ≤ 200) ∨ ∃ k, postbaglaw13_BoxesFits.f k p n = some true := by
    by_cases hp : (p.size : Int) > 200
    · refine .inr ⟨1, ?_⟩
      rw [postbaglaw13_BoxesFits.f, alive_true, Option.bind_some, if_pos rfl, if_pos hp, j1]
    · by_cases hn : (n.size : Int) > 200
      · refine .inr ⟨1, ?_⟩
        rw [postbaglaw13_BoxesFits.f, alive_true, Option.bind_some, if_pos rfl, if_neg hp, decide_eq_true hn, j1]
      · exact .inl ⟨by omega, by omega⟩
  rcases go with ⟨hp, hn⟩ | h
  · obtain ⟨N, h⟩ := ref_fits p n (by omega) (by omega)
    refine ⟨N + 1, ?_⟩
    rw [postbaglaw13_BoxesFits.f, alive_true, Option.bind_some, if_pos rfl, if_neg (by omega), decide_eq_false (by omega)]
    simp only [postbaglaw13_BoxesFits.j0]
    rw [if_neg (by decide), fits_mt p n (by omega) (by omega), Option.bind_some, h, Option.bind_some]
    unfold inB
    rw [beq_self_eq_true]
  · exact h
end Go.Proofs.Ythlofokgbogndab.GBoxes
