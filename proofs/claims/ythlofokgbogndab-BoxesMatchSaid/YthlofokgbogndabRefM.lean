/- The document's Match: the names that fit, put in one behind the other, each at its place. -/
import Derived.Test.YthlofokgbogndabDel2
import Derived.Test.YthlofokgbogndabGBoxesx4
import Derived.Laws.Cover1
namespace Go.Proofs.Ythlofokgbogndab.GBoxes
open Go.RowKit Go.Sort Go.Proofs.YthlofokgbogndabW.PrintWords Go.Proofs.YthlofokgbogndabW.PrintLast Go.Proofs.YthlofokgbogndabW.PrintMore
set_option linter.unusedVariables false
set_option linter.unusedSimpArgs false
/-- Does y stand behind x? as the program asks. -/
def gtL (y x : List UInt8) : Bool := !(Op.bytesLess (strB y).toList (strB x).toList || (strB y).toList == (strB x).toList)
def eqL (y x : List UInt8) : Bool := (strB y).toList == (strB x).toList
/-- How many of the first k stand ahead of x's place. -/
def kOf (out : List (List UInt8)) (x : List UInt8) : Nat → Nat
  | 0 => 0
  | k + 1 => if gtL (out.getD k []) x = true then kOf out x k else k + 1
theorem kOf_le (out : List (List UInt8)) (x : List UInt8) : ∀ k, kOf out x k ≤ k
  | 0 => Nat.le_refl _
  | k + 1 => by
    rw [kOf]
    split
    · exact Nat.le_succ_of_le (kOf_le out x k)
    · exact Nat.le_refl _
def putIn (out : List (List UInt8)) (x : List UInt8) : List (List UInt8) :=
  if 0 < kOf out x out.length ∧ eqL (out.getD (kOf out x out.length - 1) []) x = true then out else out.take (kOf out x out.length) ++ x :: out.drop (kOf out x out.length)
theorem putIn_length (out : List (List UInt8)) (x : List UInt8) : (putIn out x).length ≤ out.length + 1 := by
  have := kOf_le out x out.length
  unfold putIn
  split
  · omega
  · rw [List.length_append, List.length_take, List.length_cons, List.length_drop]
    omega
def refOut (q : List UInt8 → Bool) (l : List (List UInt8)) : List (List UInt8) := l.foldl (fun out x => if q x = true then putIn out x else out) []
theorem refOut_snoc (q : List UInt8 → Bool) (l : List (List UInt8)) (x : List UInt8) : refOut q (l ++ [x]) = if q x = true then putIn (refOut q l) x else refOut q l := by simp [refOut]
theorem refOut_le (q : List UInt8 → Bool) (l : List (List UInt8)) : ∀ k, k ≤ l.length → (refOut q (l.take k)).length ≤ k
  | 0, _ => by simp [refOut]
  | k + 1, h => by
    have ih := refOut_le q l k (by omega)
    have e : l.take (k + 1) = l.take k ++ [l.getD k []] := by
      rw [List.take_add_one, List.getElem?_eq_getElem (by omega), List.getD_eq_getElem?_getD, List.getElem?_eq_getElem (by omega)]
      rfl
    rw [e, refOut_snoc]
    split
    · have := putIn_length (refOut q (l.take k)) (l.getD k [])
      omega
    · omega
def T10 : Bool × List (List Nat × List Nat) := (true, [([], []), ([], []), ([0, 1], [0, 1]), ([], []), ([3], [3]), ([], []), ([], []), ([5, 6], [5, 6]), ([4, 7], [4, 7]), ([2, 8, 8], [2, 8]), ([9, 9, 0, 1, 2, 3, 4, 5, 6, 7, 8, 9], [0, 5, 9])])
def B10 : List Nat := [0, 0, 3, 0, 8, 0, 0, 96, 248, 511, 1023]
theorem tab10 : rtab .any (opsOf Try.f16 10) = T10 := by kernel_rfl
theorem bits10 : waitsOk T10.2 B10 = true := by kernel_rfl
theorem Del.readsFrom {w0 w : World} {B cap : Nat} {xs : List (List UInt8)} (h : Del w0 B cap w xs) (k : Nat) (hk : k ≤ xs.length) : Kd.C Kd.string w (some ⟨B, k, none⟩) (xs.length - k) ((xs.drop k).map strB) := by
  have hl : ((xs.drop k).map strB).length = xs.length - k := by rw [List.length_map, List.length_drop]
  have hb := h.base
  rw [← hl]
  refine Kd.C_of_reads (d := ByteArray.empty) (h1 := fun _ => rfl) ⟨rfl, by have := hb.2.2.2.1; unfold maxLen at this; omega, fun _ => ⟨_, rfl, fun j hj => ?_⟩⟩
  rw [hl] at hj
  rw [add_off, (h.cell (k + j) (by omega)).1]
  congr 2
  rw [List.getD_eq_getElem?_getD, List.getElem?_map, List.getElem?_drop, List.getElem?_eq_getElem (by omega), getElem!_pos xs (k + j) (by omega)]
  rfl
theorem Del.readsNone {w0 w : World} {B cap : Nat} {xs : List (List UInt8)} (h : Del w0 B cap w xs) (k : Nat) (hk : xs.length = k) : Kd.C Kd.string w (some ⟨B, 0, none⟩) (xs.length - k) ((xs.drop k).map strB) := by
  have e : xs.drop k = [] := List.drop_of_length_le (by omega)
  have e2 : xs.length - k = 0 := by omega
  rw [e, e2]
  exact Kd.C_of_reads (d := ByteArray.empty) (h1 := fun _ => rfl) (xs := ([] : List ByteArray)) ⟨rfl, by simp, fun h => absurd h (Nat.lt_irrefl 0)⟩
theorem encs_strB (l : List (List UInt8)) : encs Value.string (l.map strB) = l.map encStr := by
  rw [encs, List.map_map]
  rfl
theorem Del.ownsTo {w0 w : World} {B cap : Nat} {xs : List (List UInt8)} (h : Del w0 B cap w xs) (k : Nat) (hk : k ≤ xs.length) : Kd.R Kd.string 9 w w0.heap.size (fun _ => True) (.slice (some ⟨B, 0, none⟩) k cap) ((xs.take k).map strB) := by
  refine Kd.R_of_own (h1 := fun _ => rfl) ?_ (fun _ _ => trivial)
  have hl : ((xs.take k).map strB).length = k := by rw [List.length_map, List.length_take]; omega
  rw [hl, encs_strB]
  obtain ⟨h1, h2⟩ := h.row
  refine ⟨by rw [List.length_map, List.length_take]; omega, ?_⟩
  rcases h2 with ⟨e, _⟩ | ⟨g, c, cur, e, k1, k2, k3, k4, k5, k6⟩
  · cases e
  · simp only [Value.slice.injEq, Option.some.injEq, Addr.mk.injEq, true_and, and_true] at e
    obtain ⟨rfl, rfl⟩ := e
    refine .inr ⟨_, _, cur, rfl, k1, k2, by omega, k4, k5, ?_⟩
    rw [List.map_take, ← k6, List.take_take]
    congr 1
    omega
theorem own_reads {W : World} {base : Nat} {v : Value} {ys : List ByteArray} (h : Kd.R Kd.string 9 W base (fun _ => True) v ys) (hn : ys ≠ []) : ∃ g c, v = .slice (some ⟨g, 0, none⟩) ys.length c ∧ Kd.C Kd.string W (some ⟨g, 0, none⟩) ys.length ys := by
  have ho := Kd.own_of_R h
  have hne : v ≠ .slice none 0 0 := by
    rintro rfl
    rcases ho.2 with ⟨_, h0⟩ | ⟨g, c, cur, e, _⟩
    · exact hn (List.eq_nil_of_length_eq_zero h0)
    · cases e
  obtain ⟨g, c, rfl, h1, h2, h3, h4, h5, h6⟩ := Lib.holds_of_ownsRow (enc := Value.string) ho hne
  refine ⟨g, c, rfl, Kd.C_of_reads (d := ByteArray.empty) (h1 := fun _ => rfl) ⟨rfl, by unfold maxLen at h4; omega, fun _ => ⟨_, rfl, fun j hj => ?_⟩⟩⟩
  have := (h6 j (by simpa using hj)).1
  rw [Nat.zero_add] at this
  rw [add_plain, this]
  congr 2
  rw [getElem!_pos ys.toArray j (by simpa using hj), List.getD_eq_getElem?_getD, List.getElem?_eq_getElem hj]
  simp
theorem put_del {w W : World} {v : Value} {out new : List (List UInt8)} {x : ByteArray} {k : Nat} (hp : new = out.take k ++ bytesL x :: out.drop k) (h : Kd.R Kd.string 9 W w.heap.size (fun _ => True) v ((out.take k).map strB ++ ([x] ++ (out.drop k).map strB))) (hb : Below w.heap.size w W) : ∃ B cap, v = .slice (some ⟨B, 0, none⟩) new.length cap ∧ Del w B cap W new := by
  have e : (out.take k).map strB ++ ([x] ++ (out.drop k).map strB) = new.map strB := by
    rw [hp, List.map_append, List.map_cons, strB_bytesL]
    rfl
  rw [e] at h
  obtain ⟨g, c, rfl, _⟩ := own_reads h (by rw [← e]; simp)
  have ho := Kd.own_of_R h
  rw [List.length_map, encs_strB] at ho
  rw [List.length_map]
  exact ⟨g, c, rfl, hb, ho⟩
theorem putIn_at (out : List (List UInt8)) (x : List UInt8) (k : Nat) (hk : kOf out x out.length = k) (h : ¬ (0 < k ∧ eqL (out.getD (k - 1) []) x = true)) : putIn out x = out.take k ++ x :: out.drop k := by
  rw [putIn, hk, if_neg h]
theorem putIn_same (out : List (List UInt8)) (x : List UInt8) (m : Nat) (hk : kOf out x out.length = m + 1) (h : eqL (out.getD m []) x = true) : putIn out x = out := by
  rw [putIn, hk, if_pos ⟨Nat.succ_pos m, h⟩]
set_option maxHeartbeats 4000000 in
theorem ref_calls (N : Nat) (q : List UInt8 → Bool) (A0 : Option Addr) (c0 : Nat) (l0 : List ByteArray) (a1 : ByteArray) (w : World) (hr0 : Kd.C Kd.string w A0 l0.length l0) (hc0 : l0.length ≤ c0) (hn : l0.length ≤ 1000) (hq : ∀ s ∈ l0, postbagref13_Fits.f N a1 s = some (q (bytesL s))) :
    Calls Try.prog 16 #[.slice A0 l0.length c0, .string a1] w fun e w' => ∃ B cap, e = .returned (.slice (some ⟨B, 0, none⟩) (refOut q (l0.map bytesL)).length cap) ∧ Del w B cap w' (refOut q (l0.map bytesL)) := by
  have HR := Aside0.mk hr0
  have HQ := Aside0.mk hq
  clear hr0 hq hc0
  go_enter Try.func16, Try.ntmps16
  go_wp2
  go_loopw [5, 12] (fun s5 s12 wr => ∃ (i B cap : Nat), i ≤ l0.length ∧ s12 = .int .i64 i ∧ s5 = .slice (some ⟨B, 0, none⟩) (refOut q ((l0.map bytesL).take i)).length cap ∧ Aside0 (Del w B cap wr (refOut q ((l0.map bytesL).take i)))) (fun _ i _ => l0.length - (intOf i).toNat)
  case atStart =>
    exact ⟨0, w.heap.size, 0, Nat.zero_le _, rfl, rfl, ⟨⟨below_lit0 _ _, ⟨by simp, .inr ⟨_, 0, #[], rfl, Nat.le_refl _, by show (w.heap.push _)[w.heap.size]? = _; simp, Nat.le_refl _, by unfold maxLen; omega, rfl, rfl⟩⟩⟩⟩⟩
  case round =>
    obtain ⟨i, B, cap, hi, rfl, rfl, HD⟩ := hrel
    by_cases hlt : i < l0.length
    · have hi2 := refOut_le q (l0.map bytesL) i (by rw [List.length_map]; omega)
      have hsnoc : (l0.map bytesL).take (i + 1) = (l0.map bytesL).take i ++ [bytesL (l0.getD i ByteArray.empty)] := by
        rw [List.take_add_one, List.getElem?_eq_getElem (by rw [List.length_map]; exact hlt), List.getD_eq_getElem?_getD, List.getElem?_eq_getElem hlt]
        simp
      obtain ⟨ad, rfl, hcell⟩ := Kd.at_string (Kd.C_below HR.out HD.out.bel) (i : Int) (by omega) (by omega)
      have hx : rdOf ByteArray.empty l0 (i : Int) = l0.getD i ByteArray.empty := rfl
      have hmem : l0.getD i ByteArray.empty ∈ l0 := by
        rw [List.getD_eq_getElem?_getD, List.getElem?_eq_getElem hlt]
        exact List.getElem_mem hlt
      rw [hx, Int.toNat_natCast] at hcell
      have HF := Aside0.mk (HQ.out _ hmem)
      obtain ⟨x, hxx⟩ : ∃ x, x = l0.getD i ByteArray.empty := ⟨_, rfl⟩
      rw [← hxx] at hcell HF hsnoc
      clear hx hmem hxx
      have HSN := Aside0.mk hsnoc
      obtain ⟨out, hout⟩ : ∃ out, out = refOut q ((l0.map bytesL).take i) := ⟨_, rfl⟩
      have HO := Aside0.mk hout
      rw [← hout] at HD hi2 ⊢
      clear hsnoc hout
      have t1 : decide (i < l0.length) = true := decide_eq_true hlt
      have t2 : decide ((i : Int) < (l0.length : Int)) = true := decide_eq_true (by omega)
      cases hq : q (bytesL x) with
      | false =>
        rw [hq] at HF
        have HQX := Aside0.mk hq
        clear hq
        go_wp2_with (go_at_call 9; refine (postbagref13_Fits.calls N a1 x false _ HF.out).mono ?_; rintro e w1 ⟨rfl, hb⟩; have HD1 := Aside0.mk (HD.out.below hb); clear hb)
        go_roundw
        case rel => exact ⟨i + 1, B, cap, by omega, by go_num, by rw [HSN.out, refOut_snoc, HQX.out, ← HO.out]; rfl, ⟨by rw [HSN.out, refOut_snoc, HQX.out, ← HO.out]; exact HD1.out⟩⟩
        case measure => first | (simp [intOf]; done) | (simp [intOf]; omega)
      | true =>
        rw [hq] at HF
        have HQX := Aside0.mk hq
        clear hq
        go_wp2_with (go_at_call 9; refine (postbagref13_Fits.calls N a1 x true _ HF.out).mono ?_; rintro e w1 ⟨rfl, hb⟩; have HD1 := Aside0.mk (HD.out.below hb); clear hb)
        clear HD hcell
        go_loopw [8] (fun s8 wi => ∃ k : Nat, k ≤ out.length ∧ s8 = .int .i64 k ∧ Aside0 (kOf out (bytesL x) out.length = kOf out (bytesL x) k) ∧ Aside0 (Del w B cap wi out)) (fun s8 _ => (intOf s8).toNat)
        case atStart => exact ⟨out.length, Nat.le_refl _, rfl, ⟨rfl⟩, HD1⟩
        case round =>
          obtain ⟨k, hk, rfl, HK, HDi⟩ := hrel
          have HCAP := Aside0.mk HDi.out.base.2.2.1
          have hcp := HCAP.out
          have hmx := HDi.out.base.2.2.2.1
          unfold maxLen at hmx
          cases k with
          | zero =>
            have HPUT := Aside0.mk (putIn_at out (bytesL x) 0 (by rw [HK.out]; rfl) (fun h => absurd h.1 (Nat.lt_irrefl 0)))
            go_wp2
            refine start_ (n := 11) (S := fun w' => True) (ds := []) #[false, false, false, false, false, false, false, false, false, false, false] (by kernel_rfl) rfl rfl trivial (fun hHeld => ?_); refine with_tabW tab10 bits10 (fun HT_ HW_ => ?_)
            have HD0 := Aside0.mk (HDi.out.below (w' := wr.drew) (below_drew1 (Below.refl _ _)))
            generalize wr.drew = w100 at HD0 hHeld ⊢
            refine pure_ (i := 0) (N := some 46) (v := ?_) (a' := ?_) #[true, false, false, false, false, false, false, false, false, false, false] rfl rfl (any_of HT_.out (by kernel_rfl)) (fun _ _ _ h => h) (Or.inl ⟨by rfl, ?_⟩) ?_ ?_
            rotate_left
            · intro w'
              go_simp
              with_reducible rfl
            rotate_left
            · simp only [Act.put, List.setIfInBounds_toArray, List.set_cons_zero, List.set_cons_succ, i64_w, i32_w]
              rfl
            refine pure_ (i := 1) (N := some 47) (v := ?_) (a' := ?_) #[true, true, false, false, false, false, false, false, false, false, false] rfl rfl (any_of HT_.out (by kernel_rfl)) (fun _ _ _ h => h) (Or.inl ⟨by rfl, ?_⟩) ?_ ?_
            rotate_left
            · intro w'
              go_simp
              with_reducible rfl
            rotate_left
            · simp only [Act.put, List.setIfInBounds_toArray, List.set_cons_zero, List.set_cons_succ, i64_w, i32_w]
              rfl
            refine pure_ (i := 2) (N := some 48) (v := ?_) (a' := ?_) #[true, true, true, false, false, false, false, false, false, false, false] rfl rfl (any_of HT_.out (by kernel_rfl)) (fun _ _ _ h => h) (Or.inl ⟨by rfl, ?_⟩) ?_ ?_
            rotate_left
            · intro w'
              go_simp
              with_reducible rfl
            rotate_left
            · simp only [Act.put, List.setIfInBounds_toArray, List.set_cons_zero, List.set_cons_succ, i64_w, i32_w]
              rfl
            refine pure_ (i := 3) (N := some 49) (v := ?_) (a' := ?_) #[true, true, true, true, false, false, false, false, false, false, false] rfl rfl (any_of HT_.out (by kernel_rfl)) (fun _ _ _ h => h) (Or.inl ⟨by rfl, ?_⟩) ?_ ?_
            rotate_left
            · intro w'
              go_simp
              with_reducible rfl
            rotate_left
            · simp only [Act.put, List.setIfInBounds_toArray, List.set_cons_zero, List.set_cons_succ, i64_w, i32_w]
              rfl
            refine pure_ (i := 5) (N := some 51) (v := ?_) (a' := ?_) #[true, true, true, true, false, true, false, false, false, false, false] rfl rfl (any_of HT_.out (by kernel_rfl)) (fun _ _ _ h => h) (Or.inl ⟨by rfl, ?_⟩) ?_ ?_
            rotate_left
            · intro w'
              go_simp
              with_reducible rfl
            rotate_left
            · simp only [Act.put, List.setIfInBounds_toArray, List.set_cons_zero, List.set_cons_succ, i64_w, i32_w]
              rfl
            refine pure_ (i := 6) (N := some 52) (v := ?_) (a' := ?_) #[true, true, true, true, false, true, true, false, false, false, false] rfl rfl (any_of HT_.out (by kernel_rfl)) (fun _ _ _ h => h) (Or.inl ⟨by rfl, ?_⟩) ?_ ?_
            rotate_left
            · intro w'
              go_simp
              with_reducible rfl
            rotate_left
            · simp only [Act.put, List.setIfInBounds_toArray, List.set_cons_zero, List.set_cons_succ, i64_w, i32_w]
              rfl
            refine pure_ (i := 7) (N := some 53) (v := ?_) (a' := ?_) #[true, true, true, true, false, true, true, true, false, false, false] rfl rfl (any_of HT_.out (by kernel_rfl)) (fun _ _ _ h => h) (Or.inl ⟨by rfl, ?_⟩) ?_ ?_
            rotate_left
            · intro w'
              go_simp
              with_reducible rfl
            rotate_left
            · simp only [Act.put, List.setIfInBounds_toArray, List.set_cons_zero, List.set_cons_succ, i64_w, i32_w]
              rfl
            refine one_ (i := 4) (N := some 50) #[true, true, true, true, true, true, true, true, false, false, false] rfl rfl (one_of HT_.out (by kernel_rfl)) (by decide) (fun K_ hK => ?_)
            refine Kd.R_lit_step Kd.string _ 9 ?hg (N := 50) ?hd (xs := ([x] : List ByteArray)) (inner := [.string x]) (ok := fun _ => True) (okp := fun _ => True) ?hr ?hp (fun _ hk => hk) trivial (Below.refl _ _) (Nat.le_refl _) (by simp) ?_; (case hd => rfl); (case hg => rfl); (case hr => first | (go_simp; done) | (go_simp; rfl)); (case hp => exact (Reps.one (show Kd.M Kd.string _ _ _ x [.string x] from rfl) (Reps.none _ _)))
            intro v50 w101 ho hb hg_ hnew_
            clear hg_ hnew_
            have HO1 := Aside0.mk ho
            have HB1 := Aside0.mk hb
            have HD1 := Aside0.mk (HD0.out.below hb)
            clear ho hb
            refine hK.out _ _ trivial (fun hHeld => ?_)
            clear hK K_
            refine norm_ (a' := ?_) ?_ ?_
            rotate_left
            · show Act.put _ (some 50) _ = _
              simp only [Act.put, List.setIfInBounds_toArray, List.set_cons_zero, List.set_cons_succ, i64_w, i32_w]
              rfl
            refine one_ (i := 8) (N := some 54) #[true, true, true, true, true, true, true, true, true, false, false] rfl rfl (one_of HT_.out (by kernel_rfl)) (by decide) (fun K_ hK => ?_)
            refine Kd.R_append_rows_step Kd.string (w0 := w100) w100.heap.size (by rfl) (.tmp 50) (.tmp 53) 24 9 (.string ⟨#[]⟩) 16 rfl Try.underlying24 info9 rfl (by decide) (by omega) v50 [x] ((out.drop (0)).map strB) _ _ _ (fun _ => True) (fun _ => False) rfl rfl ?aO ?aR (fun _ _ h => h) (fun _ h => h.elim) ?aF ?aB ?aS ?aL ?_
            case aO => exact HO1.out
            case aR => exact HD1.out.readsFrom (0) (by omega)
            case aF => exact fun _ _ => trivial
            case aB => exact HB1.out
            case aS => exact HB1.out.size
            case aL => simp only [List.length_cons, List.length_nil]; omega
            intro v54 w102 ho hb hg hat
            obtain ⟨g54, c54, rfl, HC54⟩ := own_reads ho (by simp)
            clear hg hat
            have HR54 := Aside0.mk HC54
            have HD2 := Aside0.mk (HD0.out.below hb)
            clear HC54 ho hb HO1 HB1 HD1
            refine hK.out _ _ trivial (fun hHeld => ?_)
            clear hK K_
            refine norm_ (a' := ?_) ?_ ?_
            rotate_left
            · show Act.put _ (some 54) _ = _
              simp only [Act.put, List.setIfInBounds_toArray, List.set_cons_zero, List.set_cons_succ, i64_w, i32_w]
              rfl
            refine one_ (i := 9) (N := some 55) #[true, true, true, true, true, true, true, true, true, true, false] rfl rfl (one_of HT_.out (by kernel_rfl)) (by decide) (fun K_ hK => ?_)
            refine Kd.R_append_rows_step Kd.string (w0 := w) w.heap.size (by rfl) (.tmp 48) (.tmp 54) 24 9 (.string ⟨#[]⟩) 16 rfl Try.underlying24 info9 rfl (by decide) (by omega) _ ((out.take (0)).map strB) ([x] ++ (out.drop (0)).map strB) _ _ _ (fun _ => True) (fun _ => False) rfl rfl ?aO ?aR (fun _ _ h => h) (fun _ h => h.elim) ?aF ?aB ?aS ?aL ?_
            case aO => exact HD2.out.ownsTo (0) (by omega)
            case aR => exact HR54.out
            case aF => exact fun _ _ => trivial
            case aB => exact HD2.out.bel
            case aS => exact HD2.out.bel.size
            case aL => simp only [List.length_append, List.length_cons, List.length_nil, List.length_map, List.length_take, List.length_drop]; omega
            intro v55 w103 ho hb hg hat
            obtain ⟨B', cap', rfl, HDn⟩ := put_del HPUT.out ho hb
            clear hg hat ho hb HR54 HD2 HD0
            have HDN := Aside0.mk HDn
            clear HDn
            refine hK.out _ _ trivial (fun hHeld => ?_)
            clear hK K_
            refine norm_ (a' := ?_) ?_ ?_
            rotate_left
            · show Act.put _ (some 55) _ = _
              simp only [Act.put, List.setIfInBounds_toArray, List.set_cons_zero, List.set_cons_succ, i64_w, i32_w]
              rfl
            refine pure_ (i := 10) (N := some 5) (v := ?_) (a' := ?_) #[true, true, true, true, true, true, true, true, true, true, true] rfl rfl (any_of HT_.out (by kernel_rfl)) (fun _ _ _ h => h) (Or.inl ⟨by rfl, ?_⟩) ?_ ?_
            rotate_left
            · intro w'
              go_simp
              with_reducible rfl
            rotate_left
            · simp only [Act.put, List.setIfInBounds_toArray, List.set_cons_zero, List.set_cons_succ, i64_w, i32_w]
              rfl
            refine done_ (done_of HT_.out (by kernel_rfl)) ?_
            go_wp2
            go_roundw
            case rel => exact ⟨i + 1, B', cap', by omega, by go_num, by rw [HSN.out, refOut_snoc, HQX.out, ← HO.out]; rfl, ⟨by rw [HSN.out, refOut_snoc, HQX.out, ← HO.out]; exact HDN.out⟩⟩
            case measure => first | (simp [intOf]; done) | (simp [intOf]; omega)
          | succ m =>
            obtain ⟨hc, _⟩ := HDi.out.cell m (by omega)
            have g1 : decide (0 < m + 1) = true := decide_eq_true (by omega)
            have g2 : decide (m < out.length) = true := decide_eq_true (by omega)
            have g3 : decide ((m : Int) < (out.length : Int)) = true := decide_eq_true (by omega)
            have ey : out[m]! = out.getD m [] := by
              rw [getElem!_pos out m (by omega), List.getD_eq_getElem?_getD, List.getElem?_eq_getElem (by omega)]
              rfl
            rw [ey] at hc
            clear ey
            have hgt : gtL (out.getD m []) (bytesL x) = !(Op.bytesLess (strB (out.getD m [])).toList x.toList || (strB (out.getD m [])).toList == x.toList) := by rw [gtL, strB_bytesL]
            have heq : eqL (out.getD m []) (bytesL x) = ((strB (out.getD m [])).toList == x.toList) := by rw [eqL, strB_bytesL]
            obtain ⟨y, hy⟩ : ∃ y, y = strB (out.getD m []) := ⟨_, rfl⟩
            rw [← hy] at hc hgt heq
            clear hy
            obtain ⟨b1, hb1⟩ : ∃ b, b = Op.bytesLess y.toList x.toList := ⟨_, rfl⟩
            obtain ⟨b2, hb2⟩ : ∃ b, b = (y.toList == x.toList) := ⟨_, rfl⟩
            rw [← hb1, ← hb2] at hgt
            rw [← hb2] at heq
            have HG := Aside0.mk hgt
            have HE := Aside0.mk heq
            replace hb1 := hb1.symm
            replace hb2 := hb2.symm
            clear hgt heq
            cases b2 with
            | true =>
              have HG2 : Aside0 (gtL (out.getD m []) (bytesL x) = false) := ⟨by rw [HG.out]; simp⟩
              have HPUT := Aside0.mk (putIn_same out (bytesL x) m (by rw [HK.out, kOf, HG2.out]; rfl) HE.out)
              cases b1 <;>
              · go_wp2
                go_roundw
                case rel => exact ⟨i + 1, B, cap, by omega, by go_num, by rw [HSN.out, refOut_snoc, HQX.out, ← HO.out, if_pos rfl, HPUT.out], ⟨by rw [HSN.out, refOut_snoc, HQX.out, ← HO.out, if_pos rfl, HPUT.out]; exact HDi.out⟩⟩
                case measure => first | (simp [intOf]; done) | (simp [intOf]; omega)
            | false =>
              cases b1 with
              | false =>
                go_wp2
                go_roundw
                case rel => exact ⟨m, by omega, by go_num, ⟨by rw [HK.out, kOf, HG.out]; rfl⟩, HDi⟩
                case measure => first | (simp [intOf]; done) | (simp [intOf]; omega)
              | true =>
                have HPUT := Aside0.mk (putIn_at out (bytesL x) (m + 1) (by rw [HK.out, kOf, HG.out]; rfl) (fun h => by have h2 := h.2; rw [Nat.add_sub_cancel, HE.out] at h2; cases h2))
                have q1 : (0 ≤ (m : Int) + 1) = True := eq_true (by omega)
                have q2 : ((m : Int) + 1 ≤ (cap : Int)) = True := eq_true (by omega)
                have q3 : ((m : Int) + 1 ≤ (out.length : Int)) = True := eq_true (by omega)
                have q4 : decide ((m : Int) + 1 ≤ (cap : Int)) = true := decide_eq_true (by omega)
                have q5 : decide ((m : Int) + 1 ≤ (out.length : Int)) = true := decide_eq_true (by omega)
                have q6 : decide (0 ≤ (m : Int) + 1) = true := decide_eq_true (by omega)
                have q7 : (m + 1 ≤ cap) = True := eq_true (by omega)
                have q8 : (m + 1 ≤ out.length) = True := eq_true (by omega)
                by_cases hcm : cap = m + 1
                · have q9 : (cap = m + 1) = True := eq_true hcm
                  have q10 : (m + 1 = cap) = True := eq_true hcm.symm
                  have HCM := Aside0.mk hcm
                  clear hcm
                  go_wp2
                  refine start_ (n := 11) (S := fun w' => True) (ds := []) #[false, false, false, false, false, false, false, false, false, false, false] (by kernel_rfl) rfl rfl trivial (fun hHeld => ?_); refine with_tabW tab10 bits10 (fun HT_ HW_ => ?_)
                  have HD0 := Aside0.mk (HDi.out.below (w' := wr.drew) (below_drew1 (Below.refl _ _)))
                  generalize wr.drew = w100 at HD0 hHeld ⊢
                  refine pure_ (i := 0) (N := some 46) (v := ?_) (a' := ?_) #[true, false, false, false, false, false, false, false, false, false, false] rfl rfl (any_of HT_.out (by kernel_rfl)) (fun _ _ _ h => h) (Or.inl ⟨by rfl, ?_⟩) ?_ ?_
                  rotate_left
                  · intro w'
                    go_simp
                    with_reducible rfl
                  rotate_left
                  · simp only [Act.put, List.setIfInBounds_toArray, List.set_cons_zero, List.set_cons_succ, i64_w, i32_w]
                    rfl
                  refine pure_ (i := 1) (N := some 47) (v := ?_) (a' := ?_) #[true, true, false, false, false, false, false, false, false, false, false] rfl rfl (any_of HT_.out (by kernel_rfl)) (fun _ _ _ h => h) (Or.inl ⟨by rfl, ?_⟩) ?_ ?_
                  rotate_left
                  · intro w'
                    go_simp
                    with_reducible rfl
                  rotate_left
                  · simp only [Act.put, List.setIfInBounds_toArray, List.set_cons_zero, List.set_cons_succ, i64_w, i32_w]
                    rfl
                  refine pure_ (i := 2) (N := some 48) (v := ?_) (a' := ?_) #[true, true, true, false, false, false, false, false, false, false, false] rfl rfl (any_of HT_.out (by kernel_rfl)) (fun _ _ _ h => h) (Or.inl ⟨by rfl, ?_⟩) ?_ ?_
                  rotate_left
                  · intro w'
                    go_simp
                    with_reducible rfl
                  rotate_left
                  · simp only [Act.put, List.setIfInBounds_toArray, List.set_cons_zero, List.set_cons_succ, i64_w, i32_w]
                    rfl
                  refine pure_ (i := 3) (N := some 49) (v := ?_) (a' := ?_) #[true, true, true, true, false, false, false, false, false, false, false] rfl rfl (any_of HT_.out (by kernel_rfl)) (fun _ _ _ h => h) (Or.inl ⟨by rfl, ?_⟩) ?_ ?_
                  rotate_left
                  · intro w'
                    go_simp
                    with_reducible rfl
                  rotate_left
                  · simp only [Act.put, List.setIfInBounds_toArray, List.set_cons_zero, List.set_cons_succ, i64_w, i32_w]
                    rfl
                  refine pure_ (i := 5) (N := some 51) (v := ?_) (a' := ?_) #[true, true, true, true, false, true, false, false, false, false, false] rfl rfl (any_of HT_.out (by kernel_rfl)) (fun _ _ _ h => h) (Or.inl ⟨by rfl, ?_⟩) ?_ ?_
                  rotate_left
                  · intro w'
                    go_simp
                    with_reducible rfl
                  rotate_left
                  · simp only [Act.put, List.setIfInBounds_toArray, List.set_cons_zero, List.set_cons_succ, i64_w, i32_w]
                    rfl
                  refine pure_ (i := 6) (N := some 52) (v := ?_) (a' := ?_) #[true, true, true, true, false, true, true, false, false, false, false] rfl rfl (any_of HT_.out (by kernel_rfl)) (fun _ _ _ h => h) (Or.inl ⟨by rfl, ?_⟩) ?_ ?_
                  rotate_left
                  · intro w'
                    go_simp
                    with_reducible rfl
                  rotate_left
                  · simp only [Act.put, List.setIfInBounds_toArray, List.set_cons_zero, List.set_cons_succ, i64_w, i32_w]
                    rfl
                  refine pure_ (i := 7) (N := some 53) (v := ?_) (a' := ?_) #[true, true, true, true, false, true, true, true, false, false, false] rfl rfl (any_of HT_.out (by kernel_rfl)) (fun _ _ _ h => h) (Or.inl ⟨by rfl, ?_⟩) ?_ ?_
                  rotate_left
                  · intro w'
                    go_simp
                    with_reducible rfl
                  rotate_left
                  · simp only [Act.put, List.setIfInBounds_toArray, List.set_cons_zero, List.set_cons_succ, i64_w, i32_w]
                    rfl
                  refine one_ (i := 4) (N := some 50) #[true, true, true, true, true, true, true, true, false, false, false] rfl rfl (one_of HT_.out (by kernel_rfl)) (by decide) (fun K_ hK => ?_)
                  refine Kd.R_lit_step Kd.string _ 9 ?hg (N := 50) ?hd (xs := ([x] : List ByteArray)) (inner := [.string x]) (ok := fun _ => True) (okp := fun _ => True) ?hr ?hp (fun _ hk => hk) trivial (Below.refl _ _) (Nat.le_refl _) (by simp) ?_; (case hd => rfl); (case hg => rfl); (case hr => first | (go_simp; done) | (go_simp; rfl)); (case hp => exact (Reps.one (show Kd.M Kd.string _ _ _ x [.string x] from rfl) (Reps.none _ _)))
                  intro v50 w101 ho hb hg_ hnew_
                  clear hg_ hnew_
                  have HO1 := Aside0.mk ho
                  have HB1 := Aside0.mk hb
                  have HD1 := Aside0.mk (HD0.out.below hb)
                  clear ho hb
                  refine hK.out _ _ trivial (fun hHeld => ?_)
                  clear hK K_
                  refine norm_ (a' := ?_) ?_ ?_
                  rotate_left
                  · show Act.put _ (some 50) _ = _
                    simp only [Act.put, List.setIfInBounds_toArray, List.set_cons_zero, List.set_cons_succ, i64_w, i32_w]
                    rfl
                  refine one_ (i := 8) (N := some 54) #[true, true, true, true, true, true, true, true, true, false, false] rfl rfl (one_of HT_.out (by kernel_rfl)) (by decide) (fun K_ hK => ?_)
                  refine Kd.R_append_rows_step Kd.string (w0 := w100) w100.heap.size (by rfl) (.tmp 50) (.tmp 53) 24 9 (.string ⟨#[]⟩) 16 rfl Try.underlying24 info9 rfl (by decide) (by omega) v50 [x] ((out.drop (m + 1)).map strB) _ _ _ (fun _ => True) (fun _ => False) rfl rfl ?aO ?aR (fun _ _ h => h) (fun _ h => h.elim) ?aF ?aB ?aS ?aL ?_
                  case aO => exact HO1.out
                  case aR => exact HD1.out.readsNone (m + 1) (by have := HCM.out; omega)
                  case aF => exact fun _ _ => trivial
                  case aB => exact HB1.out
                  case aS => exact HB1.out.size
                  case aL => simp only [List.length_cons, List.length_nil]; omega
                  intro v54 w102 ho hb hg hat
                  obtain ⟨g54, c54, rfl, HC54⟩ := own_reads ho (by simp)
                  clear hg hat
                  have HR54 := Aside0.mk HC54
                  have HD2 := Aside0.mk (HD0.out.below hb)
                  clear HC54 ho hb HO1 HB1 HD1
                  refine hK.out _ _ trivial (fun hHeld => ?_)
                  clear hK K_
                  refine norm_ (a' := ?_) ?_ ?_
                  rotate_left
                  · show Act.put _ (some 54) _ = _
                    simp only [Act.put, List.setIfInBounds_toArray, List.set_cons_zero, List.set_cons_succ, i64_w, i32_w]
                    rfl
                  refine one_ (i := 9) (N := some 55) #[true, true, true, true, true, true, true, true, true, true, false] rfl rfl (one_of HT_.out (by kernel_rfl)) (by decide) (fun K_ hK => ?_)
                  refine Kd.R_append_rows_step Kd.string (w0 := w) w.heap.size (by rfl) (.tmp 48) (.tmp 54) 24 9 (.string ⟨#[]⟩) 16 rfl Try.underlying24 info9 rfl (by decide) (by omega) _ ((out.take (m + 1)).map strB) ([x] ++ (out.drop (m + 1)).map strB) _ _ _ (fun _ => True) (fun _ => False) rfl rfl ?aO ?aR (fun _ _ h => h) (fun _ h => h.elim) ?aF ?aB ?aS ?aL ?_
                  case aO => exact HD2.out.ownsTo (m + 1) (by omega)
                  case aR => exact HR54.out
                  case aF => exact fun _ _ => trivial
                  case aB => exact HD2.out.bel
                  case aS => exact HD2.out.bel.size
                  case aL => simp only [List.length_append, List.length_cons, List.length_nil, List.length_map, List.length_take, List.length_drop]; omega
                  intro v55 w103 ho hb hg hat
                  obtain ⟨B', cap', rfl, HDn⟩ := put_del HPUT.out ho hb
                  clear hg hat ho hb HR54 HD2 HD0
                  have HDN := Aside0.mk HDn
                  clear HDn
                  refine hK.out _ _ trivial (fun hHeld => ?_)
                  clear hK K_
                  refine norm_ (a' := ?_) ?_ ?_
                  rotate_left
                  · show Act.put _ (some 55) _ = _
                    simp only [Act.put, List.setIfInBounds_toArray, List.set_cons_zero, List.set_cons_succ, i64_w, i32_w]
                    rfl
                  refine pure_ (i := 10) (N := some 5) (v := ?_) (a' := ?_) #[true, true, true, true, true, true, true, true, true, true, true] rfl rfl (any_of HT_.out (by kernel_rfl)) (fun _ _ _ h => h) (Or.inl ⟨by rfl, ?_⟩) ?_ ?_
                  rotate_left
                  · intro w'
                    go_simp
                    with_reducible rfl
                  rotate_left
                  · simp only [Act.put, List.setIfInBounds_toArray, List.set_cons_zero, List.set_cons_succ, i64_w, i32_w]
                    rfl
                  refine done_ (done_of HT_.out (by kernel_rfl)) ?_
                  go_wp2
                  go_roundw
                  case rel => exact ⟨i + 1, B', cap', by omega, by go_num, by rw [HSN.out, refOut_snoc, HQX.out, ← HO.out]; rfl, ⟨by rw [HSN.out, refOut_snoc, HQX.out, ← HO.out]; exact HDN.out⟩⟩
                  case measure => first | (simp [intOf]; done) | (simp [intOf]; omega)
                · have q9 : (cap = m + 1) = False := eq_false hcm
                  have q10 : (m + 1 = cap) = False := eq_false (fun e => hcm e.symm)
                  clear hcm
                  go_wp2
                  refine start_ (n := 11) (S := fun w' => True) (ds := []) #[false, false, false, false, false, false, false, false, false, false, false] (by kernel_rfl) rfl rfl trivial (fun hHeld => ?_); refine with_tabW tab10 bits10 (fun HT_ HW_ => ?_)
                  have HD0 := Aside0.mk (HDi.out.below (w' := wr.drew) (below_drew1 (Below.refl _ _)))
                  generalize wr.drew = w100 at HD0 hHeld ⊢
                  refine pure_ (i := 0) (N := some 46) (v := ?_) (a' := ?_) #[true, false, false, false, false, false, false, false, false, false, false] rfl rfl (any_of HT_.out (by kernel_rfl)) (fun _ _ _ h => h) (Or.inl ⟨by rfl, ?_⟩) ?_ ?_
                  rotate_left
                  · intro w'
                    go_simp
                    with_reducible rfl
                  rotate_left
                  · simp only [Act.put, List.setIfInBounds_toArray, List.set_cons_zero, List.set_cons_succ, i64_w, i32_w]
                    rfl
                  refine pure_ (i := 1) (N := some 47) (v := ?_) (a' := ?_) #[true, true, false, false, false, false, false, false, false, false, false] rfl rfl (any_of HT_.out (by kernel_rfl)) (fun _ _ _ h => h) (Or.inl ⟨by rfl, ?_⟩) ?_ ?_
                  rotate_left
                  · intro w'
                    go_simp
                    with_reducible rfl
                  rotate_left
                  · simp only [Act.put, List.setIfInBounds_toArray, List.set_cons_zero, List.set_cons_succ, i64_w, i32_w]
                    rfl
                  refine pure_ (i := 2) (N := some 48) (v := ?_) (a' := ?_) #[true, true, true, false, false, false, false, false, false, false, false] rfl rfl (any_of HT_.out (by kernel_rfl)) (fun _ _ _ h => h) (Or.inl ⟨by rfl, ?_⟩) ?_ ?_
                  rotate_left
                  · intro w'
                    go_simp
                    with_reducible rfl
                  rotate_left
                  · simp only [Act.put, List.setIfInBounds_toArray, List.set_cons_zero, List.set_cons_succ, i64_w, i32_w]
                    rfl
                  refine pure_ (i := 3) (N := some 49) (v := ?_) (a' := ?_) #[true, true, true, true, false, false, false, false, false, false, false] rfl rfl (any_of HT_.out (by kernel_rfl)) (fun _ _ _ h => h) (Or.inl ⟨by rfl, ?_⟩) ?_ ?_
                  rotate_left
                  · intro w'
                    go_simp
                    with_reducible rfl
                  rotate_left
                  · simp only [Act.put, List.setIfInBounds_toArray, List.set_cons_zero, List.set_cons_succ, i64_w, i32_w]
                    rfl
                  refine pure_ (i := 5) (N := some 51) (v := ?_) (a' := ?_) #[true, true, true, true, false, true, false, false, false, false, false] rfl rfl (any_of HT_.out (by kernel_rfl)) (fun _ _ _ h => h) (Or.inl ⟨by rfl, ?_⟩) ?_ ?_
                  rotate_left
                  · intro w'
                    go_simp
                    with_reducible rfl
                  rotate_left
                  · simp only [Act.put, List.setIfInBounds_toArray, List.set_cons_zero, List.set_cons_succ, i64_w, i32_w]
                    rfl
                  refine pure_ (i := 6) (N := some 52) (v := ?_) (a' := ?_) #[true, true, true, true, false, true, true, false, false, false, false] rfl rfl (any_of HT_.out (by kernel_rfl)) (fun _ _ _ h => h) (Or.inl ⟨by rfl, ?_⟩) ?_ ?_
                  rotate_left
                  · intro w'
                    go_simp
                    with_reducible rfl
                  rotate_left
                  · simp only [Act.put, List.setIfInBounds_toArray, List.set_cons_zero, List.set_cons_succ, i64_w, i32_w]
                    rfl
                  refine pure_ (i := 7) (N := some 53) (v := ?_) (a' := ?_) #[true, true, true, true, false, true, true, true, false, false, false] rfl rfl (any_of HT_.out (by kernel_rfl)) (fun _ _ _ h => h) (Or.inl ⟨by rfl, ?_⟩) ?_ ?_
                  rotate_left
                  · intro w'
                    go_simp
                    with_reducible rfl
                  rotate_left
                  · simp only [Act.put, List.setIfInBounds_toArray, List.set_cons_zero, List.set_cons_succ, i64_w, i32_w]
                    rfl
                  refine one_ (i := 4) (N := some 50) #[true, true, true, true, true, true, true, true, false, false, false] rfl rfl (one_of HT_.out (by kernel_rfl)) (by decide) (fun K_ hK => ?_)
                  refine Kd.R_lit_step Kd.string _ 9 ?hg (N := 50) ?hd (xs := ([x] : List ByteArray)) (inner := [.string x]) (ok := fun _ => True) (okp := fun _ => True) ?hr ?hp (fun _ hk => hk) trivial (Below.refl _ _) (Nat.le_refl _) (by simp) ?_; (case hd => rfl); (case hg => rfl); (case hr => first | (go_simp; done) | (go_simp; rfl)); (case hp => exact (Reps.one (show Kd.M Kd.string _ _ _ x [.string x] from rfl) (Reps.none _ _)))
                  intro v50 w101 ho hb hg_ hnew_
                  clear hg_ hnew_
                  have HO1 := Aside0.mk ho
                  have HB1 := Aside0.mk hb
                  have HD1 := Aside0.mk (HD0.out.below hb)
                  clear ho hb
                  refine hK.out _ _ trivial (fun hHeld => ?_)
                  clear hK K_
                  refine norm_ (a' := ?_) ?_ ?_
                  rotate_left
                  · show Act.put _ (some 50) _ = _
                    simp only [Act.put, List.setIfInBounds_toArray, List.set_cons_zero, List.set_cons_succ, i64_w, i32_w]
                    rfl
                  refine one_ (i := 8) (N := some 54) #[true, true, true, true, true, true, true, true, true, false, false] rfl rfl (one_of HT_.out (by kernel_rfl)) (by decide) (fun K_ hK => ?_)
                  refine Kd.R_append_rows_step Kd.string (w0 := w100) w100.heap.size (by rfl) (.tmp 50) (.tmp 53) 24 9 (.string ⟨#[]⟩) 16 rfl Try.underlying24 info9 rfl (by decide) (by omega) v50 [x] ((out.drop (m + 1)).map strB) _ _ _ (fun _ => True) (fun _ => False) rfl rfl ?aO ?aR (fun _ _ h => h) (fun _ h => h.elim) ?aF ?aB ?aS ?aL ?_
                  case aO => exact HO1.out
                  case aR => exact HD1.out.readsFrom (m + 1) (by omega)
                  case aF => exact fun _ _ => trivial
                  case aB => exact HB1.out
                  case aS => exact HB1.out.size
                  case aL => simp only [List.length_cons, List.length_nil]; omega
                  intro v54 w102 ho hb hg hat
                  obtain ⟨g54, c54, rfl, HC54⟩ := own_reads ho (by simp)
                  clear hg hat
                  have HR54 := Aside0.mk HC54
                  have HD2 := Aside0.mk (HD0.out.below hb)
                  clear HC54 ho hb HO1 HB1 HD1
                  refine hK.out _ _ trivial (fun hHeld => ?_)
                  clear hK K_
                  refine norm_ (a' := ?_) ?_ ?_
                  rotate_left
                  · show Act.put _ (some 54) _ = _
                    simp only [Act.put, List.setIfInBounds_toArray, List.set_cons_zero, List.set_cons_succ, i64_w, i32_w]
                    rfl
                  refine one_ (i := 9) (N := some 55) #[true, true, true, true, true, true, true, true, true, true, false] rfl rfl (one_of HT_.out (by kernel_rfl)) (by decide) (fun K_ hK => ?_)
                  refine Kd.R_append_rows_step Kd.string (w0 := w) w.heap.size (by rfl) (.tmp 48) (.tmp 54) 24 9 (.string ⟨#[]⟩) 16 rfl Try.underlying24 info9 rfl (by decide) (by omega) _ ((out.take (m + 1)).map strB) ([x] ++ (out.drop (m + 1)).map strB) _ _ _ (fun _ => True) (fun _ => False) rfl rfl ?aO ?aR (fun _ _ h => h) (fun _ h => h.elim) ?aF ?aB ?aS ?aL ?_
                  case aO => exact HD2.out.ownsTo (m + 1) (by omega)
                  case aR => exact HR54.out
                  case aF => exact fun _ _ => trivial
                  case aB => exact HD2.out.bel
                  case aS => exact HD2.out.bel.size
                  case aL => simp only [List.length_append, List.length_cons, List.length_nil, List.length_map, List.length_take, List.length_drop]; omega
                  intro v55 w103 ho hb hg hat
                  obtain ⟨B', cap', rfl, HDn⟩ := put_del HPUT.out ho hb
                  clear hg hat ho hb HR54 HD2 HD0
                  have HDN := Aside0.mk HDn
                  clear HDn
                  refine hK.out _ _ trivial (fun hHeld => ?_)
                  clear hK K_
                  refine norm_ (a' := ?_) ?_ ?_
                  rotate_left
                  · show Act.put _ (some 55) _ = _
                    simp only [Act.put, List.setIfInBounds_toArray, List.set_cons_zero, List.set_cons_succ, i64_w, i32_w]
                    rfl
                  refine pure_ (i := 10) (N := some 5) (v := ?_) (a' := ?_) #[true, true, true, true, true, true, true, true, true, true, true] rfl rfl (any_of HT_.out (by kernel_rfl)) (fun _ _ _ h => h) (Or.inl ⟨by rfl, ?_⟩) ?_ ?_
                  rotate_left
                  · intro w'
                    go_simp
                    with_reducible rfl
                  rotate_left
                  · simp only [Act.put, List.setIfInBounds_toArray, List.set_cons_zero, List.set_cons_succ, i64_w, i32_w]
                    rfl
                  refine done_ (done_of HT_.out (by kernel_rfl)) ?_
                  go_wp2
                  go_roundw
                  case rel => exact ⟨i + 1, B', cap', by omega, by go_num, by rw [HSN.out, refOut_snoc, HQX.out, ← HO.out]; rfl, ⟨by rw [HSN.out, refOut_snoc, HQX.out, ← HO.out]; exact HDN.out⟩⟩
                  case measure => first | (simp [intOf]; done) | (simp [intOf]; omega)
    · have his : i = l0.length := by omega
      subst his
      have t1 : decide (l0.length < l0.length) = false := decide_eq_false (Nat.lt_irrefl _)
      rw [List.take_of_length_le (by rw [List.length_map]; exact Nat.le_refl _)] at HD ⊢
      go_wp2
      go_ret
      exact ⟨B, cap, rfl, HD.out⟩
end Go.Proofs.Ythlofokgbogndab.GBoxes
