/- The printed Cut and digits of the document, run; what the document's functions of layer 8, 14 and 19 answer, as contracts. -/
import Derived.Test.YtjggdkcfpdhoaaaGreatDoorQRef3
import Derived.Test.YtjggdkcfpdhoaaaGreatDoorGSmtpx5
import Derived.Test.YtjggdkcfpdhoaaaGreatDoorBase
import Derived.Test.YtjggdkcfpdhoaaaGreatDoorRefLarge
namespace Go.Proofs.YtjggdkcfpdhoaaaGreatDoor.QRef4
open Go Go.RowKit Go.Proofs.YtjggdkcfpdhoaaaGreatDoorW.PrintWords Go.Proofs.YtjggdkcfpdhoaaaGreatDoor.Dots Go.Proofs.YtjggdkcfpdhoaaaGreatDoor.Large Go.Proofs.YtjggdkcfpdhoaaaGreatDoor.Path Go.Proofs.YtjggdkcfpdhoaaaGreatDoor.Dotted Go.Proofs.YtjggdkcfpdhoaaaGreatDoor.Take Go.Proofs.YtjggdkcfpdhoaaaGreatDoor.Number Go.Proofs.YtjggdkcfpdhoaaaGreatDoor.GSmtp Go.Proofs.YtjggdkcfpdhoaaaGreatDoor.QRef Go.Proofs.YtjggdkcfpdhoaaaGreatDoor.QRef2 Go.Proofs.YtjggdkcfpdhoaaaGreatDoor.QRef3
set_option linter.unusedVariables false
set_option linter.unusedSimpArgs false
theorem str_bytes (s : ByteArray) : strOfNums (bytesOf s) = s := by
  apply data_inj
  rw [strOfNums, bytesOf, List.map_map]
  have : ((fun n : Int => UInt8.ofNat n.toNat) ∘ fun b : UInt8 => (b.toNat : Int)) = id := funext fun b => by simp
  rw [this, List.map_id]
theorem str_cut (s : ByteArray) (j i : Nat) : s.extract j i = strOfNums (((bytesOf s).drop j).take (i - j)) := by rw [← bytesOf_cut, str_bytes]
theorem cut_l0 (s : ByteArray) (hs : s.size ≤ 1000000) (d : Int) : ∀ (m i from_ : Nat) (out : List ByteArray), i + m = s.size → from_ ≤ i → out.length ≤ i →
    ∃ k, postbagref14_Cut.l0 k s d out (from_ : Int) (i : Int) = some (out ++ (cutsA d (((bytesOf s).drop from_).take (i - from_)) ((bytesOf s).drop i)).map strOfNums) := by
  intro m
  induction m with
  | zero =>
    intro i from_ out hi hf ho
    have hie : (i : Int) = (s.size : Int) := by omega
    refine ⟨2, ?_⟩
    have e1 : wrap64 ((i : Int) + 1) = (i : Int) + 1 := by unfold wrap64; omega
    rw [postbagref14_Cut.l0, if_pos (by omega), if_pos hie, if_pos (by omega), if_pos (by omega), if_pos (by omega), e1, postbagref14_Cut.l0, if_neg (by omega), drop_end s i (by omega), cutsA, Int.toNat_natCast, Int.toNat_natCast, str_cut]
    rfl
  | succ m ih =>
    intro i from_ out hi hf ho
    have hlt : i < s.size := by omega
    have e1 := w_succ i s.size hlt hs
    have hd := drop_bt s i hlt
    by_cases hc : bt s (i : Int) = d
    · obtain ⟨k, hk⟩ := ih (i + 1) (i + 1) (out ++ [s.extract from_ i]) (by omega) (Nat.le_refl _) (by simp; omega)
      refine ⟨k + 1, ?_⟩
      rw [postbagref14_Cut.l0, if_pos (by omega), if_neg (by omega), if_pos (by omega), if_pos (by omega), if_pos hc, if_pos (by omega), if_pos (by omega), if_pos (by omega), e1, Int.toNat_natCast, Int.toNat_natCast, hk, hd, cutsA, if_pos hc, str_cut]
      simp
    · obtain ⟨k, hk⟩ := ih (i + 1) from_ out (by omega) (by omega) (by omega)
      refine ⟨k + 1, ?_⟩
      have e2 : (((bytesOf s).drop from_).take (i + 1 - from_)) = (((bytesOf s).drop from_).take (i - from_)) ++ [bt s (i : Int)] := by
        have : i + 1 - from_ = (i - from_) + 1 := by omega
        rw [this, List.take_add_one, List.getElem?_drop]
        have e3 : from_ + (i - from_) = i := by omega
        rw [e3, List.getElem?_eq_getElem (by rw [bytesOf_length]; exact hlt), btD_at s i hlt, List.getD_eq_getElem?_getD, List.getElem?_eq_getElem (by rw [bytesOf_length]; exact hlt)]
        rfl
      rw [postbagref14_Cut.l0, if_pos (by omega), if_neg (by omega), if_pos (by omega), if_pos (by omega), if_neg hc, e1, hk, hd, cutsA, if_neg hc, e2]
/-- A text's parts between the bytes d. -/
def partsB (s : ByteArray) (d : Int) : List ByteArray := (cuts d (bytesOf s)).map strOfNums
theorem cut_f (s : ByteArray) (hs : s.size ≤ 1000000) (d : Int) : ∃ k, postbagref14_Cut.f k s d = some (partsB s d) := by
  obtain ⟨k, hk⟩ := cut_l0 s hs d s.size 0 0 [] (by omega) (Nat.le_refl _) (by simp)
  exact ⟨k, by rw [postbagref14_Cut.f, partsB, cuts]; simpa using hk⟩
/-- The number of one to nine digits; -1: it is none. -/
def digR (s : ByteArray) : Int := if numF s = true then numV s else -1
theorem digits_l0 (s : ByteArray) (hs : s.size ≤ 9) : ∀ (m i : Nat) (n : Int), i + m = s.size → 0 ≤ n → n < 10 ^ i →
    ∃ k, postbagref19_digits.l0 k s n (i : Int) = some (if ((bytesOf s).drop i).all digI = true then ((bytesOf s).drop i).foldl (fun n c => 10 * n + (c - 48)) n else -1) := by
  intro m
  induction m with
  | zero =>
    intro i n hi h0 h1
    refine ⟨1, ?_⟩
    rw [postbagref19_digits.l0, if_neg (by omega), drop_end s i (by omega)]
    rfl
  | succ m ih =>
    intro i n hi h0 h1
    have hlt : i < s.size := by omega
    have e1 := w_succ i s.size hlt (by omega)
    have hd := drop_bt s i hlt
    have hr := bt_range s i hlt
    by_cases hlo : bt s (i : Int) < 48
    · refine ⟨1, ?_⟩
      have : digI (bt s (i : Int)) = false := by rw [digI, decide_eq_false (by omega)]; rfl
      rw [postbagref19_digits.l0, if_pos (by omega), if_pos (by omega), if_pos hlo, hd, List.all_cons, this, Bool.false_and]
      rfl
    · by_cases hhi : bt s (i : Int) > 57
      · refine ⟨1, ?_⟩
        have : digI (bt s (i : Int)) = false := by rw [digI, decide_eq_false (p := bt s (i : Int) ≤ 57) (by omega), Bool.and_false]
        rw [postbagref19_digits.l0, if_pos (by omega), if_pos (by omega), if_neg hlo, if_pos hhi, hd, List.all_cons, this, Bool.false_and]
        rfl
      · have hp : (10 : Int) ^ i ≤ 100000000 := by
          have h8 : i ≤ 8 := by omega
          have := Nat.pow_le_pow_right (n := 10) (by decide) h8
          have e : (((10 : Nat) ^ i : Nat) : Int) = (10 : Int) ^ i := by simp
          have e8 : (10 : Nat) ^ 8 = 100000000 := by decide
          omega
        obtain ⟨k, hk⟩ := ih (i + 1) (10 * n + (bt s (i : Int) - 48)) (by omega) (by omega) (by rw [Int.pow_succ]; omega)
        refine ⟨k + 1, ?_⟩
        have w1 : wrap64 (10 * n) = 10 * n := by unfold wrap64; omega
        have w2 : wrap64 (10 * n + (bt s (i : Int) - 48) % 256) = 10 * n + (bt s (i : Int) - 48) := by unfold wrap64; omega
        have : digI (bt s (i : Int)) = true := by rw [digI, decide_eq_true (by omega), decide_eq_true (by omega)]; rfl
        rw [postbagref19_digits.l0, if_pos (by omega), if_pos (by omega), if_neg hlo, if_neg hhi, w1, w2, e1, hk, hd, List.all_cons, this, Bool.true_and, List.foldl_cons]
theorem digits_f (s : ByteArray) : ∃ k, postbagref19_digits.f k s = some (digR s) := by
  by_cases h1 : 1 ≤ s.size
  · by_cases h9 : s.size ≤ 9
    · obtain ⟨k, hk⟩ := digits_l0 s h9 s.size 0 0 (by omega) (by omega) (by simp)
      refine ⟨k + 1, ?_⟩
      rw [postbagref19_digits.f, if_neg (by omega), decide_eq_false (by omega), postbagref19_digits.j0, if_neg (by decide)]
      rw [List.drop_zero] at hk
      rw [show ((0 : Nat) : Int) = 0 from rfl] at hk
      rw [hk, digR, numV, numF, decide_eq_true h1, decide_eq_true h9, Bool.true_and, Bool.true_and]
      cases (bytesOf s).all digI <;> rfl
    · refine ⟨1, ?_⟩
      rw [postbagref19_digits.f, if_neg (by omega), decide_eq_true (by omega), postbagref19_digits.j0, if_pos rfl, digR, numF, decide_eq_false h9, Bool.false_and, Bool.and_false]
      rfl
  · refine ⟨1, ?_⟩
    rw [postbagref19_digits.f, if_pos (by omega), postbagref19_digits.j0, if_pos rfl, digR, numF, decide_eq_false h1, Bool.false_and]
    rfl
/-- A list of texts lies in a block of the call's own. -/
structure RowAt (base b cap : Nat) (ps : List ByteArray) (W : World) : Prop where
  lo : base ≤ b
  lt : b < W.heap.size
  le : ps.length ≤ cap
  cell : ∀ j, j < ps.length → W.cell? ⟨b, j, none⟩ = some (.string (ps.getD j ByteArray.empty))
theorem RowAt.below {base b cap : Nat} {ps : List ByteArray} {W W2 : World} (h : RowAt base b cap ps W) (hb : Below W.heap.size W W2) : RowAt base b cap ps W2 :=
  ⟨h.lo, Nat.lt_of_lt_of_le h.lt hb.size, h.le, fun j hj => (hb.cell (p := ⟨b, j, none⟩) h.lt).trans (h.cell j hj)⟩
theorem RowAt.other {base b cap : Nat} {ps : List ByteArray} {W : World} (h : RowAt base b cap ps W) {p : Addr} (hp : p.block ≠ b) (v : Value) : RowAt base b cap ps (W.setCell p v) :=
  ⟨h.lo, by rw [World.size_setCell]; exact h.lt, h.le, fun j hj => (World.cell?_setCell_other _ _ _ _ (by intro e; apply hp; rw [e])).trans (h.cell j hj)⟩
theorem row_of_R {w : World} {base e : Nat} {ok : Nat → Prop} {v : Value} {ps : List ByteArray} (h : Kd.R Kd.string e w base ok v ps) (h1 : 1 ≤ ps.length) :
    ∃ b cap, v = .slice (some ⟨b, 0, none⟩) ps.length cap ∧ RowAt base b cap ps w := by
  obtain ⟨A, c, hv, hle, hC⟩ := Kd.R_reads h
  obtain ⟨_, inner, ho, hr⟩ := h
  subst hv
  rcases ho.2 with ⟨h2, _⟩ | ⟨g, cap, cur, h2, hb, hrow⟩
  · injection h2 with h3 h4 h5
    omega
  · injection h2 with h3 h4 h5
    subst h3
    have hcell : ∀ j, j < ps.length → w.cell? ⟨g, j, none⟩ = some (.string (ps.getD j ByteArray.empty)) := fun j hj => by
      obtain ⟨ad, c0, hA, hl, hK, hc0⟩ := Kd.C_get hC ByteArray.empty (j : Int) (by omega) (by omega)
      have hK2 : c0 = [.string (ps.getD (j : Int).toNat ByteArray.empty)] := hK
      subst hK2
      obtain rfl := Option.some.inj hA
      have h9 := hc0 0 _ rfl
      have e : (⟨g, 0, none⟩ : Addr).add ((j : Int).toNat * (Kd.string).sz + 0) = ⟨g, j, none⟩ := by
        show (⟨g, 0, none⟩ : Addr).add ((j : Int).toNat * 1 + 0) = ⟨g, j, none⟩
        simp [Addr.add]
        exact fun h => h.symm
      rw [e] at h9
      exact h9
    exact ⟨g, c, rfl, hb, World.block_lt_of_cell? w _ (hcell 0 (by omega)), hle, hcell⟩
theorem parts_pos (s : ByteArray) (d : Int) : 1 ≤ (partsB s d).length := by
  rw [partsB, List.length_map, cuts]
  have : ∀ (l cur : List Int), 1 ≤ (cutsA d cur l).length := by
    intro l
    induction l with
    | nil => intro cur; simp [cutsA]
    | cons c l ih =>
      intro cur
      rw [cutsA]
      split
      · simp
      · exact ih _
  exact this _ _
theorem refLocal_calls (s : ByteArray) (hs : s.size ≤ 1000000) (w : World) : Calls Tryz.prog 41 #[.string s] w fun e w' => e = .returned (.bool (localB s)) ∧ ∃ n, w' = w.drewN n := by
  obtain ⟨k, hk⟩ := local_f s hs
  refine (postbagref08_Local.calls k s _ w hk).mono ?_
  rintro e w' ⟨he, n, hn⟩
  exact ⟨he, n, hn⟩
theorem refDomain_calls (s : ByteArray) (hs : s.size ≤ 1000000) (w : World) : Calls Tryz.prog 21 #[.string s] w fun e w' => e = .returned (.bool (domainB s)) ∧ ∃ n, w' = w.drewN n := by
  obtain ⟨k, hk⟩ := domain_f s hs
  refine (postbagref08_Domain.calls k s _ w hk).mono ?_
  rintro e w' ⟨he, n, hn⟩
  exact ⟨he, n, hn⟩
theorem refTake_calls (s : ByteArray) (hs : s.size ≤ 1000000) (w : World) : Calls Tryz.prog 23 #[.string s] w fun e w' => e = .returned (.tuple #[.agg #[.string (takeR s).1, .string (takeR s).2.1], .int .i64 (takeR s).2.2]) ∧ Below w.heap.size w w' := by
  obtain ⟨k, hk⟩ := take_f s hs
  exact postbagref08_Take.calls k s _ _ _ w hk
theorem refCut_calls (s : ByteArray) (hs : s.size ≤ 1000000) (d : Int) (w : World) : Calls Tryz.prog 24 #[.string s, .int .u8 d] w fun e w' =>
    (∃ b cap, e = .returned (.slice (some ⟨b, 0, none⟩) (partsB s d).length cap) ∧ RowAt w.heap.size b cap (partsB s d) w') ∧ Below w.heap.size w w' := by
  obtain ⟨k, hk⟩ := cut_f s hs d
  refine (postbagref14_Cut.calls k s d _ w hk).mono ?_
  rintro e w' ⟨v, rfl, hR, hB⟩
  obtain ⟨b, cap, rfl, hrow⟩ := row_of_R hR (parts_pos s d)
  exact ⟨⟨b, cap, rfl, hrow⟩, hB⟩
theorem refDigits_calls (s : ByteArray) (w : World) : Calls Tryz.prog 25 #[.string s] w fun e w' => e = .returned (.int .i64 (digR s)) ∧ ∃ n, w' = w.drewN n := by
  obtain ⟨k, hk⟩ := digits_f s
  refine (postbagref19_digits.calls k s _ w hk).mono ?_
  rintro e w' ⟨he, n, hn⟩
  exact ⟨he, n, hn⟩
theorem refLarge2_calls (s : ByteArray) (hs : s.size ≤ 1000000) (w : World) : Calls Tryz.prog 20 #[.string s] w fun e w' => e = .returned (.string (largeB s)) ∧ Below w.heap.size w w' := by
  have h := RefLarge.refLarge_calls s hs w
  rw [RefLarge.refLarge_eq] at h
  exact h
theorem begins_calls (s words : ByteArray) (hs : s.size ≤ 1000000) (hw : words.size ≤ 1000) (w : World) :
    Calls Tryz.prog 22 #[.string s, .string words] w fun e w' => e = .returned (.bool (aftF s words)) ∧ Below w.heap.size w w' := by
  by_cases h1 : words.size ≤ s.size
  · have HL := Aside0.mk (fun W => refLarge2_calls (s.extract 0 words.size) (by rw [ByteArray.size_extract]; omega) W)
    obtain ⟨u, hu⟩ : ∃ u, u = largeB (s.extract 0 words.size) := ⟨_, rfl⟩
    rw [← hu] at HL
    have hd : aftF s words = (u.toList == words.toList) := by rw [aftF, decide_eq_true h1, Bool.true_and, ← hu]
    rw [hd]
    clear hu hd
    have t1 : decide ((words.size : Int) ≤ (s.size : Int)) = true := decide_eq_true (by omega)
    have t2 : decide (words.size ≤ s.size) = true := decide_eq_true h1
    go_enter Tryz.func22, Tryz.ntmps22
    go_wp2_with (go_at_call 20; refine (HL.out _).mono ?_; rintro e w1 ⟨rfl, hb1⟩; have HB1 := Aside0.mk hb1; clear hb1)
    go_ret
    exact ⟨rfl, HB1.out⟩
  · have hd : aftF s words = false := by rw [aftF, decide_eq_false h1]; rfl
    rw [hd]
    clear hd
    have t1 : decide ((words.size : Int) ≤ (s.size : Int)) = false := decide_eq_false (by omega)
    have t2 : decide (words.size ≤ s.size) = false := decide_eq_false h1
    go_enter Tryz.func22, Tryz.ntmps22
    go_wp2
    go_ret
    exact ⟨rfl, Below.refl _ _⟩
end Go.Proofs.YtjggdkcfpdhoaaaGreatDoor.QRef4
