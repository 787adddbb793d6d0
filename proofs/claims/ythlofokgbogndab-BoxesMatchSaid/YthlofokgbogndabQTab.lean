/- The reference's table of patterns and names: cell by cell from its end. -/
import Derived.Test.YthlofokgbogndabGBoxesx4
import Derived.Test.YthlofokgbogndabQAlive
import Derived.Test.YthlofokgbogndabQMt
namespace Go.Proofs.Ythlofokgbogndab.GBoxes
open Go.RowKit Go.Proofs.YthlofokgbogndabW.PrintWords Go.Proofs.YthlofokgbogndabW.PrintLast Go.Proofs.YthlofokgbogndabW.PrintMore Go.Proofs.YthlofokgbogndabW.SRows
open Go.Proofs.Ythlofokgbogndab (Mt.mt)
/-- The forward table in the contract's words is that of the plain theory. -/
theorem nxB_eq (b : Bool) (c : Int) (name : List Int) (g : Nat → Bool) : ∀ i, nxB b c name g i = Mt.nx b c name g i
  | 0 => rfl
  | i + 1 => by
    show (if starB c then _ else _) = (if Mt.star c then _ else _)
    rw [nxB_eq b c name g i]
    rfl
theorem fwB_eq (b : Bool) (p name : List Int) : fwB b p name = Mt.fw b p name := by
  have e : (fun g c => nxB b c name g) = (fun g c => Mt.nx b c name g) := by
    funext g c i
    exact nxB_eq b c name g i
  unfold fwB Mt.fw
  rw [e]
  rfl
theorem fits_mt (p n : ByteArray) (h1 : p.size ≤ 1000000) (h2 : n.size ≤ 1000000) : boxes_Fits.f p n = some (Mt.mt (decide (n.toList = [73, 78, 66, 79, 88])) (bytesOf p) (bytesOf n)) := by
  rw [boxes_Fits.f, if_pos ⟨h1, h2⟩, fwB_eq]
  have := Mt.fw_eq (decide (n.toList = [73, 78, 66, 79, 88])) (bytesOf p) (bytesOf n)
  rw [bytesOf_length] at this
  rw [this]
def inB (n : ByteArray) : Bool := decide (n.toList = [73, 78, 66, 79, 88])
/-- What the reference's cell a, b is to hold. -/
def TT (p n : ByteArray) (a b : Nat) : Bool := Mt.mt (inB n) ((bytesOf p).drop a) ((bytesOf n).drop b)
theorem bt_get (s : ByteArray) (i : Nat) (h : i < s.size) : bt s (i : Int) = (bytesOf s).getD i 0 := by
  rw [← at_bytes s i h]
  unfold bt
  rw [dif_pos (by simpa using h)]
  simp
theorem drop_at (s : ByteArray) (i : Nat) (h : i < s.size) : (bytesOf s).drop i = bt s (i : Int) :: (bytesOf s).drop (i + 1) := by
  have hl : i < (bytesOf s).length := by rw [bytesOf_length]; exact h
  rw [bt_get s i h, List.drop_eq_getElem_cons hl, List.getD_eq_getElem?_getD, List.getElem?_eq_getElem hl]
  rfl
theorem drop_end (s : ByteArray) : (bytesOf s).drop s.size = [] := List.drop_of_length_le (by rw [bytesOf_length]; exact Nat.le_refl _)
theorem TT_last (p n : ByteArray) (b : Nat) (hb : b ≤ n.size) : TT p n p.size b = (b == n.size) := by
  rw [TT, drop_end, Mt.mt_nil]
  by_cases h : b = n.size
  · rw [h, drop_end]; simp
  · rw [drop_at n b (by omega)]
    simp [h]
theorem TT_end (p n : ByteArray) (a : Nat) (ha : a < p.size) : TT p n a n.size = (Mt.star (bt p (a : Int)) && TT p n (a + 1) n.size) := by
  rw [TT, TT, drop_at p a ha, drop_end, Mt.mt_cons_nil]
theorem TT_mid (p n : ByteArray) (a b : Nat) (ha : a < p.size) (hb : b < n.size) : TT p n a b = if Mt.star (bt p (a : Int)) = true then TT p n (a + 1) b || Mt.ok (bt p (a : Int)) (bt n (b : Int)) && TT p n a (b + 1) else Mt.same (inB n) (bt p (a : Int)) (bt n (b : Int)) && TT p n (a + 1) (b + 1) := by
  rw [TT, drop_at p a ha, drop_at n b hb, Mt.mt_cons, TT, TT, TT, drop_at p a ha, drop_at n b hb]
theorem small_one (s : ByteArray) (j : Nat) (hj : j < s.size) : postbagref08_Small.f (s.extract j (j + 1)) = some (strOfNums [lowI (bt s (j : Int))]) := by
  have hl : j < (bytesOf s).length := by rw [bytesOf_length]; exact hj
  have e2 : bytesOf (s.extract j (j + 1)) = [bt s (j : Int)] := by
    rw [bytesOf_extract, drop_at s j hj, Nat.add_sub_cancel_left]
    rfl
  rw [postbagref08_Small.f, if_pos (by rw [ByteArray.size_extract]; omega), smallL_eq, e2]
  rfl
end Go.Proofs.Ythlofokgbogndab.GBoxes
