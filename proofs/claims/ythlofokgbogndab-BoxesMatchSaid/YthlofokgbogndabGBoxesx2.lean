/- Written by a program of mine (wip/tools/mkprint.py turns the kit's print; given contracts by hand). Lean checks it. -/
import Derived.Test.YthlofokgbogndabGBoxesx0
import Derived.Test.YthlofokgbogndabGBoxesx1
namespace Go.Proofs.Ythlofokgbogndab.GBoxes
open Go.RowKit Go.Proofs.YthlofokgbogndabW.PrintWords Go.Proofs.YthlofokgbogndabW.PrintLast Go.Proofs.YthlofokgbogndabW.PrintMore
attribute [local go_sem] max2_int min2_int max_two min_two max_three min_three max_four min_four   -- for this text's walks alone
set_option linter.unusedVariables false
set_option linter.unusedSimpArgs false

/-! ### boxes_Fits: function 8 -/
section
open Go.Maps Go.Shelf Go.Proofs.YthlofokgbogndabW.SRows
def starB (c : Int) : Bool := c == 42 || c == 37
def okB (c x : Int) : Bool := c == 42 || x != 47
def sameB (b : Bool) (c x : Int) : Bool := c == x || b && lowI c == lowI x
/-- The table's row behind one byte more of the pattern. -/
def nxB (b : Bool) (c : Int) (name : List Int) (g : Nat → Bool) : Nat → Bool
  | 0 => starB c && g 0
  | i + 1 => if starB c then g (i + 1) || nxB b c name g i && okB c (name.getD i 0) else g i && sameB b c (name.getD i 0)
def g0B (i : Nat) : Bool := i == 0
def fwB (b : Bool) (p name : List Int) : Nat → Bool := p.foldl (fun g c => nxB b c name g) g0B
theorem fwB_snoc (b : Bool) (p name : List Int) (c : Int) : fwB b (p ++ [c]) name = nxB b c name (fwB b p name) := by simp [fwB]
def rowB (m : Nat) (g : Nat → Bool) : List Bool := (List.range m).map g
def upTo (i : Nat) (h : Nat → Bool) (j : Nat) : Bool := if j < i then h j else false
theorem rowB_length (m : Nat) (g : Nat → Bool) : (rowB m g).length = m := by simp [rowB]
theorem rowB_get (m : Nat) (g : Nat → Bool) (j : Nat) (hj : j < m) : (rowB m g).getD j false = g j := by
  simp [rowB, List.getD_eq_getElem?_getD, hj]
theorem rowB_ext (m : Nat) (g h : Nat → Bool) (e : ∀ j, j < m → g j = h j) : rowB m g = rowB m h := by
  unfold rowB
  exact List.map_congr_left fun j hj => e j (List.mem_range.1 hj)
theorem rowB_start (m : Nat) (h : Nat → Bool) : List.replicate m false = rowB m (upTo 0 h) := by
  have e : (List.range m).map (upTo 0 h) = (List.range m).map (fun _ => false) := List.map_congr_left fun j _ => if_neg (Nat.not_lt_zero j)
  rw [rowB, e, List.map_const', List.length_range]
theorem rowB_first (m : Nat) (hm : 0 < m) : (List.replicate m false).set 0 true = rowB m g0B := by
  apply List.ext_getElem (by simp [rowB])
  intro j h1 h2
  simp only [rowB, List.getElem_map, List.getElem_range, g0B, List.getElem_set, List.getElem_replicate]
  by_cases e : 0 = j
  · subst e; simp
  · have : ¬ j = 0 := fun h => e h.symm
    simp [e, this]
theorem rowB_set (m i : Nat) (h : Nat → Bool) (hi : i < m) : (rowB m (upTo i h)).set i (h i) = rowB m (upTo (i + 1) h) := by
  apply List.ext_getElem (by simp [rowB])
  intro j h1 h2
  simp only [rowB, List.getElem_map, List.getElem_range, upTo, List.getElem_set]
  by_cases e : i = j
  · subst e; simp
  · have : (j < i + 1) ↔ j < i := by omega
    simp [e, this]
theorem rowB_skip (m i : Nat) (h : Nat → Bool) (h0 : h i = false) : rowB m (upTo i h) = rowB m (upTo (i + 1) h) := by
  refine rowB_ext _ _ _ fun j _ => ?_
  unfold upTo
  by_cases e : j = i
  · subst e; simp [h0]
  · have : (j < i + 1) ↔ j < i := by omega
    simp [this]
theorem rowB_end (m : Nat) (h : Nat → Bool) : rowB m (upTo m h) = rowB m h := rowB_ext _ _ _ fun j hj => if_pos hj
theorem bytes_back (xs : List Int) (h : ∀ x ∈ xs, 0 ≤ x ∧ x ≤ 255) : bytesOf (strOfNums xs) = xs := by
  simp only [bytesOf, strOfNums_data, List.map_map]
  conv => rhs; rw [← List.map_id xs]
  apply List.map_congr_left
  intro x hx
  have := h x hx
  simp only [Function.comp_apply, UInt8.toNat_ofNat', id_eq]
  omega
theorem lowI_range (c : Int) (h : 0 ≤ c ∧ c ≤ 255) : 0 ≤ lowI c ∧ lowI c ≤ 255 := by
  unfold lowI
  split <;> omega
theorem toList_eq_data (s : ByteArray) : s.toList = s.data.toList := ByteArray.toList_eq s
theorem same_bytes (xs ys : List Int) (hx : ∀ x ∈ xs, 0 ≤ x ∧ x ≤ 255) (hy : ∀ x ∈ ys, 0 ≤ x ∧ x ≤ 255) : ((strOfNums xs).toList == (strOfNums ys).toList) = (xs == ys) := by
  apply Bool.eq_iff_iff.2
  rw [beq_iff_eq, beq_iff_eq, toList_eq_data, toList_eq_data]
  constructor
  · intro e
    have := congrArg (List.map fun b : UInt8 => (b.toNat : Int)) e
    have e2 : bytesOf (strOfNums xs) = bytesOf (strOfNums ys) := this
    rwa [bytes_back xs hx, bytes_back ys hy] at e2
  · rintro rfl
    rfl
theorem bytesOf_extract (s : ByteArray) (j i : Nat) : bytesOf (s.extract j i) = ((bytesOf s).drop j).take (i - j) := by
  have e : (s.extract j i).data.toList = (s.data.toList.drop j).take (i - j) := by
    obtain ⟨⟨l⟩⟩ := s
    rw [ByteArray.extract_mk]
  rw [bytesOf, e, List.map_take, List.map_drop, ← bytesOf]
theorem same_one (c : Int) (s : ByteArray) (j i : Nat) (hi : i = j + 1) (hs : i ≤ s.size) (hc : 0 ≤ c ∧ c ≤ 255) : header_Same.f (strOfNums [c]) (s.extract j i) = some (lowI c == lowI ((bytesOf s).getD j 0)) := by
  have hj : j < (bytesOf s).length := by rw [bytesOf_length]; omega
  have e1 : bytesOf (strOfNums [c]) = [c] := bytes_back [c] (by simpa using hc)
  have e2 : bytesOf (s.extract j i) = [(bytesOf s).getD j 0] := by
    subst hi
    rw [bytesOf_extract, List.drop_eq_getElem_cons hj, List.getD_eq_getElem?_getD, List.getElem?_eq_getElem hj, Nat.add_sub_cancel_left]
    try rfl
  have hx : 0 ≤ (bytesOf s).getD j 0 ∧ (bytesOf s).getD j 0 ≤ 255 := by
    rw [List.getD_eq_getElem?_getD, List.getElem?_eq_getElem hj]
    exact bytesOf_range s _ (List.getElem_mem hj)
  have s1 : (strOfNums [c]).size ≤ 1000000 := by rw [strOfNums_size]; simp
  have s2 : (s.extract j i).size ≤ 1000000 := by rw [ByteArray.size_extract]; omega
  have f1 : header_small.f (strOfNums [c]) = some (strOfNums [lowI c]) := by rw [header_small.f, if_pos s1, smallL_eq, e1]; rfl
  have f2 : header_small.f (s.extract j i) = some (strOfNums [lowI ((bytesOf s).getD j 0)]) := by rw [header_small.f, if_pos s2, smallL_eq, e2]; rfl
  rw [header_Same.f, f1, f2]
  show some ((strOfNums [lowI c]).toList == (strOfNums [lowI ((bytesOf s).getD j 0)]).toList) = _
  rw [same_bytes _ _ (by simpa using lowI_range c hc) (by simpa using lowI_range _ hx)]
  simp
def boxes_Fits.f (a0 a1 : ByteArray) : Option Bool := if a0.size ≤ 1000000 ∧ a1.size ≤ 1000000 then some (fwB (decide (a1.toList = [73, 78, 66, 79, 88])) (bytesOf a0) (bytesOf a1) a1.size) else none
theorem boolInfo : (Try.prog.info? 4).map (fun i => (i.zero, i.size, i.bytes)) = some (some (.bool false), 1, 1) := by kernel_rfl
def boxes_Fits.T13 : Bool × List (List Nat × List Nat) := (true, [([], []), ([], []), ([], []), ([2], [2]), ([1, 3], [1, 3]), ([0, 4], [0, 4]), ([5], [5]), ([6], [6]), ([7, 6], [6, 7]), ([8, 6, 6], [6, 8]), ([9], [9]), ([10, 9], [9, 10]), ([11, 9], [9, 11]), ([9], [9]), ([9], [9]), ([14, 9], [9, 14]), ([9], [9]), ([13, 15, 16, 9], [9, 13, 15, 16]), ([12, 17, 9, 9], [9, 12, 17]), ([9, 18, 6], [6, 9, 18]), ([6, 19], [6, 19]), ([20, 18, 0, 1, 2, 3, 4, 5, 6, 7, 8, 9, 10, 11, 12, 13, 14, 15, 16, 17, 18, 19, 20], [20])])
def boxes_Fits.B13 : List Nat := [0, 0, 0, 4, 14, 31, 63, 127, 255, 511, 1023, 2047, 4095, 1023, 1023, 17407, 1023, 123903, 262143, 524287, 1048575, 2097151]
theorem boxes_Fits.tab13 : rtab .any (opsOf Try.f8 13) = boxes_Fits.T13 := by kernel_rfl
theorem boxes_Fits.bits13 : waitsOk boxes_Fits.T13.2 boxes_Fits.B13 = true := by kernel_rfl
theorem at_bytes (s : ByteArray) (k : Nat) (h : k < s.size) : ((s[k]'h).toNat : Int) = (bytesOf s).getD k 0 := by
  have hl : k < s.data.toList.length := by rw [data_length]; exact h
  rw [bytesOf_getD s k h, List.getD_eq_getElem?_getD, List.getElem?_eq_getElem hl, Option.getD_some, Array.getElem_toList]
  rfl
theorem nxB_star (b : Bool) (c : Int) (name : List Int) (g : Nat → Bool) (i : Nat) (hs : starB c = true) : nxB b c name g (i + 1) = (g (i + 1) || nxB b c name g i && okB c (name.getD i 0)) := by simp [nxB, hs]
theorem nxB_plain (b : Bool) (c : Int) (name : List Int) (g : Nat → Bool) (i : Nat) (hs : starB c = false) : nxB b c name g (i + 1) = (g i && sameB b c (name.getD i 0)) := by simp [nxB, hs]
theorem starB_false (c : Int) (h1 : ¬ c = 42) (h2 : ¬ c = 37) : starB c = false := by simp [starB, h1, h2]
theorem lit_str (w : World) (c : Int) : (convert 33 9 (.slice (some ⟨w.heap.size, 0, none⟩) 1 1)).run Try.prog (w.alloc (.cells #[.int .u8 c] 5)) = .ok (.string (strOfNums [c])) (w.alloc (.cells #[.int .u8 c] 5)) := by
  refine Kd.C_string (P := Try.prog) (c := 1) Try.underlying33 Try.underlying5 Try.underlying9 (Kd.C_of_reads (d := (0 : Int)) (h1 := fun _ => rfl) ⟨rfl, by simp, fun _ => ⟨_, rfl, fun j hj => ?_⟩⟩)
  have : j = 0 := by simpa using hj
  subst this
  show (w.alloc (.cells #[.int .u8 c] 5)).cell? ⟨w.heap.size, 0, none⟩ = _
  rw [World.cell?_alloc_new]
  rfl
theorem fits_first (a0 : ByteArray) (w w9 : World) (v : Value) (m : Nat) (hs0 : a0.size ≤ 1000000) (hm : 0 < m) (ho : Kd.R Kd.bool 4 w9 w.heap.size (fun _ => True) v (List.replicate (m : Int).toNat false)) (hb : Below w.heap.size w w9) :
    ∃ (B c Bp cap : Nat) (W1 : World), v = .slice (some ⟨B, 0, none⟩) m c ∧ w9.cell? ⟨B, 0, none⟩ = some (.bool false) ∧ w9.frozen? ⟨B, 0, none⟩ = false ∧
      (convert 9 33 (.string a0)).run Try.prog (w9.setCell ⟨B, 0, none⟩ (.bool true)) = .ok (.slice (some ⟨Bp, 0, none⟩) a0.size cap) W1 ∧ Aside0 (w.heap.size ≤ B) ∧
      Aside0 (SRow Value.bool false W1 4 B (rowB m g0B)) ∧ Aside0 (SRow (Value.int .u8) 0 W1 5 Bp (bytesOf a0)) ∧ Aside0 (Below w.heap.size w W1) := by
  rw [Int.toNat_natCast] at ho
  obtain ⟨B, c, ev, hB, _, hrow⟩ := SRow.made (d := false) ho (by rw [List.length_replicate]; exact hm)
  rw [List.length_replicate] at ev
  have hl : 0 < (List.replicate m false).length := by rw [List.length_replicate]; exact hm
  have hx := hrow.cell 0 hl
  have hg0 : (List.replicate m false).getD 0 false = false := by rw [List.getD_eq_getElem?_getD, List.getElem?_eq_getElem hl]; simp
  rw [hg0] at hx
  have hF := hrow.set 0 hl true
  rw [rowB_first m hm] at hF
  have hg := bytes_grown (w9.setCell ⟨B, 0, none⟩ (.bool true)) 5 a0
  refine ⟨B, c, _, _, _, ev, hx, hrow.free 0 hl, Lib.run_convert_string_bytes (P := Try.prog) _ 9 33 5 a0 Try.underlying9 Try.underlying33 Try.underlying5, ⟨hB⟩, ⟨hF.kept (hg.block B hF.lt (by simp))⟩, ⟨SRow.new _ _ _ (by omega)⟩, ⟨?_⟩⟩
  exact (hb.setCell hB _).grown hg (Nat.le_trans hb.size (by simp)) (fun k e => by cases e)
theorem fits_next (w w9 : World) (v : Value) (m : Nat) (h : Nat → Bool) (hm : 0 < m) (ho : Kd.R Kd.bool 4 w9 w.heap.size (fun _ => True) v (List.replicate (m : Int).toNat false)) :
    ∃ (B c : Nat), v = .slice (some ⟨B, 0, none⟩) m c ∧ Aside0 (w.heap.size ≤ B) ∧ Aside0 (SRow Value.bool false w9 4 B (rowB m (upTo 0 h))) := by
  rw [Int.toNat_natCast] at ho
  obtain ⟨B, c, ev, hB, _, hrow⟩ := SRow.made (d := false) ho (by rw [List.length_replicate]; exact hm)
  rw [List.length_replicate] at ev
  rw [rowB_start m h] at hrow
  exact ⟨B, c, ev, ⟨hB⟩, ⟨hrow⟩⟩
set_option maxHeartbeats 8000000 in
set_option maxRecDepth 100000 in
theorem boxes_Fits.calls (a0 a1 : ByteArray) (r : Bool) (w : World) (h : boxes_Fits.f a0 a1 = some r) :
    Calls Try.prog 8 #[.string a0, .string a1] w fun e w' => e = .returned (.bool r) ∧ Below w.heap.size w w' := by
  unfold boxes_Fits.f at h
  by_cases hs : a0.size ≤ 1000000 ∧ a1.size ≤ 1000000
  case neg =>
    rw [if_neg hs] at h
    exact absurd h (by simp)
  rw [if_pos hs] at h
  obtain ⟨hs0, hs1⟩ := hs
  obtain ⟨bx, hbx⟩ : ∃ x, x = decide (a1.toList = [73, 78, 66, 79, 88]) := ⟨_, rfl⟩
  obtain ⟨P, hP⟩ : ∃ x, x = bytesOf a0 := ⟨_, rfl⟩
  obtain ⟨Nm, hNm⟩ : ∃ x, x = bytesOf a1 := ⟨_, rfl⟩
  rw [← hbx, ← hP, ← hNm] at h
  have HR := Aside0.mk (Option.some.inj h)
  have hPl : P.length = a0.size := by rw [hP, bytesOf_length]
  have hNl : Nm.length = a1.size := by rw [hNm, bytesOf_length]
  have HPR := Aside0.mk (fun x (hx : x ∈ P) => bytesOf_range a0 x (by rw [← hP]; exact hx))
  have HNR := Aside0.mk (fun x (hx : x ∈ Nm) => bytesOf_range a1 x (by rw [← hNm]; exact hx))
  have HBX := Aside0.mk hbx
  have HNm := Aside0.mk hNm
  have HPN := Aside0.mk hP
  have HPL := Aside0.mk hPl
  have HNL := Aside0.mk hNl
  clear h hbx hNm hP hPl hNl
  have HB := Aside0.mk (Below.refl w.heap.size w)
  obtain ⟨m, hm⟩ : ∃ m, m = a1.size + 1 := ⟨_, rfl⟩
  have HM := Aside0.mk hm
  have e1 : IntKind.i64.wrap ((a1.size : Int) + 1) = (m : Int) := by rw [IntWalk.i64_in _ (by omega)]; omega
  have hm0 : decide (0 < m) = true := decide_eq_true (by omega)
  have hm1 : decide ((0 : Int) < (m : Int)) = true := decide_eq_true (by omega)
  have hm2 : (0 < m) = True := eq_true (by omega)
  clear hm
  have HM0 := Aside0.mk (show m * 1 ≤ 281474976710656 from by have := HM.out; omega)
  have HMP := Aside0.mk (show 0 < m from by have := HM.out; omega)
  go_enter Try.func8, Try.ntmps8
  go_wp2_with ((with_reducible refine gate_dst (N := 14) rfl ?_); refine Kd.R_make Kd.bool _ 4 rfl (N := 14) rfl 32 _ _ rfl (m : Int) rfl rfl Try.underlying32 (.bool false) 1 boolInfo rfl (by decide) (by omega) false (ok := fun _ => True) (okp := fun _ => True) rfl (fun _ hk => hk) trivial (by omega) (by rw [Int.toNat_natCast]; exact HM0.out) (Below.refl _ _) (Nat.le_refl _) ?_; intro v104 w9 ho hb hg_ hnew_; clear hg_ hnew_; obtain ⟨B, c5, Bp, cap, W1, ev, hx0, hf0, hcv, HBO, HF1, HP, HB1⟩ := fits_first a0 w w9 v104 m hs0 HMP.out ho hb; subst ev; clear ho hb)
  go_loopw [5, 20] (fun v i wr => ∃ (k B c : Nat), k ≤ a0.size ∧ i = .int .i64 k ∧ v = .slice (some ⟨B, 0, none⟩) m c ∧ Aside0 (w.heap.size ≤ B) ∧ Aside0 (SRow Value.bool false wr 4 B (rowB m (fwB bx (P.take k) Nm))) ∧ Aside0 (SRow (Value.int .u8) 0 wr 5 Bp P) ∧ Aside0 (Below w.heap.size w wr)) (fun _ i _ => a0.size - (intOf i).toNat)
  case atStart => exact ⟨0, B, c5, Nat.zero_le _, rfl, rfl, HBO, HF1, ⟨by rw [HPN.out]; exact HP.out⟩, HB1⟩
  case round =>
    clear HP HF1 HB1 HBO hcv hx0 hf0 HB
    obtain ⟨k, B5, c5', hk, rfl, rfl, HBO, HF, HP, HB⟩ := hrel
    by_cases hlt : k < a0.size
    · have hkP : k < P.length := by rw [HPL.out]; exact hlt
      have hcell := HP.out.cell k hkP
      have htake : P.take (k + 1) = P.take k ++ [P.getD k 0] := by
        rw [List.take_add_one, List.getElem?_eq_getElem hkP, List.getD_eq_getElem?_getD, List.getElem?_eq_getElem hkP]
        rfl
      have hcr : 0 ≤ P.getD k 0 ∧ P.getD k 0 ≤ 255 := by
        rw [List.getD_eq_getElem?_getD, List.getElem?_eq_getElem hkP]
        exact HPR.out _ (List.getElem_mem hkP)
      obtain ⟨c, hc⟩ : ∃ c, c = P.getD k 0 := ⟨_, rfl⟩
      rw [← hc] at hcell htake hcr
      obtain ⟨g, hg⟩ : ∃ g, g = fwB bx (P.take k) Nm := ⟨_, rfl⟩
      have hnext : fwB bx (P.take (k + 1)) Nm = nxB bx c Nm g := by rw [htake, fwB_snoc, hg]
      rw [← hg] at HF
      obtain ⟨hh, hhe⟩ : ∃ x, x = nxB bx c Nm g := ⟨_, rfl⟩
      rw [← hhe] at hnext
      have HNX := Aside0.mk hnext
      have HHE := Aside0.mk hhe
      have HCR := Aside0.mk hcr
      have t1 : decide (k < a0.size) = true := decide_eq_true hlt
      have t3 : (k < a0.size) = True := eq_true hlt
      have t2 : decide ((k : Int) < (a0.size : Int)) = true := decide_eq_true (by omega)
      clear htake hc hg hnext hhe hcr hkP
      have HLT := Aside0.mk hlt
      clear hlt hk
      go_wp2_with ((with_reducible refine gate_dst (N := 27) rfl ?_); refine Kd.R_make Kd.bool _ 4 rfl (N := 27) rfl 32 _ _ rfl (m : Int) rfl rfl Try.underlying32 (.bool false) 1 boolInfo rfl (by decide) (by omega) false (ok := fun _ => True) (okp := fun _ => True) rfl (fun _ hk => hk) trivial (by omega) (by rw [Int.toNat_natCast]; exact HM0.out) (Below.refl _ _) (Nat.le_refl _) ?_; intro v110 w19 ho hb hg_ hnew_; clear hg_ hnew_; obtain ⟨B8, c8, ev, HB8, HN⟩ := fits_next wr w19 v110 m hh HMP.out ho; subst ev; have HF2 := Aside0.mk (HF.out.below hb); have HP2 := Aside0.mk (HP.out.below hb); have HB2 := Aside0.mk (below_step HB.out hb); have HNE := Aside0.mk (show B5 ≠ B8 ∧ Bp ≠ B8 ∧ w.heap.size ≤ B8 from ⟨Nat.ne_of_lt (Nat.lt_of_lt_of_le HF.out.lt HB8.out), Nat.ne_of_lt (Nat.lt_of_lt_of_le HP.out.lt HB8.out), Nat.le_trans HB.out.size HB8.out⟩); clear ho hb)
      clear HF HP HB HB8 hcell
      go_loopw [30] (fun i wi => ∃ i' : Nat, i' ≤ m ∧ i = .int .i64 i' ∧ Aside0 (SRow Value.bool false wi 4 B8 (rowB m (upTo i' hh))) ∧ Aside0 (SRow Value.bool false wi 4 B5 (rowB m g)) ∧ Aside0 (SRow (Value.int .u8) 0 wi 5 Bp P) ∧ Aside0 (Below w.heap.size w wi)) (fun i _ => m - (intOf i).toNat)
      case atStart => exact ⟨0, Nat.zero_le _, rfl, HN, HF2, HP2, HB2⟩
      case round =>
        clear HN HF2 HP2 HB2
        obtain ⟨i, hi, rfl, HN, HF, HP, HB⟩ := hrel
        by_cases hilt : i < m
        · have hcf := HF.out.cell i (by rw [rowB_length]; exact hilt)
          rw [rowB_get m g i hilt] at hcf
          have hco := HN.out.cell i (by rw [rowB_length]; exact hilt)
          rw [rowB_get m _ i hilt, upTo, if_neg (Nat.lt_irrefl i)] at hco
          have hfo := HN.out.free i (by rw [rowB_length]; exact hilt)
          have HFIN : Aside0 (∀ (W : World), Below wr.heap.size wr W → ∀ v, v = hh i → ∀ W', Below (W.setCell ⟨B8, i, none⟩ (.bool v)).heap.size (W.setCell ⟨B8, i, none⟩ (.bool v)) W' → (Aside0 (SRow Value.bool false W' 4 B8 (rowB m (upTo (i + 1) hh))) ∧ Aside0 (SRow Value.bool false W' 4 B5 (rowB m g)) ∧ Aside0 (SRow (Value.int .u8) 0 W' 5 Bp P) ∧ Aside0 (Below w.heap.size w W'))) := ⟨fun W hW v hv W' hW' => by
            have h1 := (HN.out.below hW).set i (by rw [rowB_length]; exact hilt) v
            rw [hv, rowB_set m i hh hilt, ← hv] at h1
            exact ⟨⟨h1.below hW'⟩, ⟨((HF.out.below hW).other HNE.out.1).below hW'⟩, ⟨((HP.out.below hW).other HNE.out.2.1).below hW'⟩, ⟨below_step ((below_step HB.out hW).setCell HNE.out.2.2 _) hW'⟩⟩⟩
          have HSKIP : Aside0 (hh i = false → SRow Value.bool false wr 4 B8 (rowB m (upTo (i + 1) hh))) := ⟨fun h0 => by rw [← rowB_skip m i hh h0]; exact HN.out⟩
          have s1 : decide (i < m) = true := decide_eq_true hilt
          have s2 : decide ((i : Int) < (m : Int)) = true := decide_eq_true (by omega)
          have s3 : (i < m) = True := eq_true hilt
          have HIL := Aside0.mk hilt
          clear hilt hi
          have hib : (i : Int) ≤ 1000000 := by have := HIL.out; have := HM.out; omega
          rcases Nat.eq_zero_or_pos i with hi0 | hi0
          · skip
            have z1 : decide (0 < i) = false := decide_eq_false (by omega)
            have z2 : decide ((0 : Int) < (i : Int)) = false := decide_eq_false (by omega)
            have z3 : (0 < i) = False := eq_false (by omega)
            have hz : hh i = (starB c && g i) := by rw [HHE.out, hi0]; rfl
            obtain ⟨f, hf⟩ : ∃ f, f = g i := ⟨_, rfl⟩
            rw [← hf] at hcf hz
            clear hf hi0
            by_cases c42 : c = 42
            · subst c42
              cases f with
              | true =>
                have HH : Aside0 (true = hh i) := ⟨by rw [hz]; rfl⟩
                clear hz
                go_wp2
                go_region
                go_wp2
                go_roundw
                case rel => exact ⟨i + 1, by have := HIL.out; omega, by go_num, HFIN.out wr (Below.refl _ _) _ HH.out _ (by first | exact Below.refl _ _ | exact below_drew1 (Below.refl _ _))⟩
                case measure => simp [intOf]; have := HIL.out; omega
              | false =>
                have HH : Aside0 (false = hh i) := ⟨by rw [hz]; rfl⟩
                clear hz
                go_wp2
                go_region
                go_wp2
                go_roundw
                case rel => exact ⟨i + 1, by have := HIL.out; omega, by go_num, HFIN.out wr (Below.refl _ _) _ HH.out _ (by first | exact Below.refl _ _ | exact below_drew1 (Below.refl _ _))⟩
                case measure => simp [intOf]; have := HIL.out; omega
            by_cases c37 : c = 37
            · subst c37
              cases f with
              | true =>
                have HH : Aside0 (true = hh i) := ⟨by rw [hz]; rfl⟩
                clear hz
                go_wp2
                go_region
                go_wp2
                go_roundw
                case rel => exact ⟨i + 1, by have := HIL.out; omega, by go_num, HFIN.out wr (Below.refl _ _) _ HH.out _ (by first | exact Below.refl _ _ | exact below_drew1 (Below.refl _ _))⟩
                case measure => simp [intOf]; have := HIL.out; omega
              | false =>
                have HH : Aside0 (false = hh i) := ⟨by rw [hz]; rfl⟩
                clear hz
                go_wp2
                go_region
                go_wp2
                go_roundw
                case rel => exact ⟨i + 1, by have := HIL.out; omega, by go_num, HFIN.out wr (Below.refl _ _) _ HH.out _ (by first | exact Below.refl _ _ | exact below_drew1 (Below.refl _ _))⟩
                case measure => simp [intOf]; have := HIL.out; omega
            have hs := starB_false c c42 c37
            have d1 : (c == 42) = false := beq_eq_false_iff_ne.2 c42
            have d2 : (c == 37) = false := beq_eq_false_iff_ne.2 c37
            have d3 : decide (c = 42) = false := decide_eq_false c42
            have d4 : decide (c = 37) = false := decide_eq_false c37
            have HZ : Aside0 (hh i = false) := ⟨by rw [hz, hs]; rfl⟩
            clear hz hs
            go_wp2
            go_roundw
            case rel => exact ⟨i + 1, by have := HIL.out; omega, by go_num, ⟨HSKIP.out HZ.out⟩, HF, HP, HB⟩
            case measure => simp [intOf]; have := HIL.out; omega
          · skip
            obtain ⟨j, hj⟩ : ∃ j, i = j + 1 := ⟨i - 1, by omega⟩
            have z1 : decide (0 < i) = true := decide_eq_true (by omega)
            have z2 : decide ((0 : Int) < (i : Int)) = true := decide_eq_true (by omega)
            have z3 : (0 < i) = True := eq_true (by omega)
            have e2 : IntKind.i64.wrap ((i : Int) - 1) = (j : Int) := by have := HM.out; have := HIL.out; rw [IntWalk.i64_in _ (by omega)]; omega
            have hjm : j < m := by have := HIL.out; omega
            have hja : j < a1.size := by have := HIL.out; have := HM.out; omega
            have y1 : decide (j < m) = true := decide_eq_true hjm
            have y2 : decide ((j : Int) < (m : Int)) = true := decide_eq_true (by omega)
            have y3 : (j < m) = True := eq_true hjm
            have y4 : decide (j < a1.size) = true := decide_eq_true hja
            have y5 : decide ((j : Int) < (a1.size : Int)) = true := decide_eq_true (by omega)
            have y6 : (j < a1.size) = True := eq_true hja
            have hcp := HN.out.cell j (by rw [rowB_length]; exact hjm)
            rw [rowB_get m _ j hjm, upTo, if_pos (show j < i by omega)] at hcp
            have hcq := HF.out.cell j (by rw [rowB_length]; exact hjm)
            rw [rowB_get m g j hjm] at hcq
            have hx : ∀ h : j < a1.size, ((a1[j]'h).toNat : Int) = Nm.getD j 0 := fun h => by rw [HNm.out]; exact at_bytes a1 j h
            have hns := nxB_star bx c Nm g j
            have hnp := nxB_plain bx c Nm g j
            rw [← hj, ← HHE.out] at hns hnp
            have HJ := Aside0.mk hj
            have HJA := Aside0.mk hja
            have HXE := Aside0.mk (show ∃ y, y = Nm.getD j 0 from ⟨_, rfl⟩)
            obtain ⟨x, hxe⟩ : ∃ x, x = Nm.getD j 0 := ⟨_, rfl⟩
            rw [← hxe] at hx hns hnp
            have HX := Aside0.mk hxe
            obtain ⟨f, hf⟩ : ∃ f, f = g i := ⟨_, rfl⟩
            obtain ⟨p, hp⟩ : ∃ p, p = hh j := ⟨_, rfl⟩
            obtain ⟨q, hq⟩ : ∃ q, q = g j := ⟨_, rfl⟩
            rw [← hf] at hcf hns
            rw [← hp] at hcp hns
            rw [← hq] at hcq hnp
            clear hf hp hq hj hi0 hjm hja hxe HXE
            by_cases c42 : c = 42
            · subst c42
              have hv := hns rfl
              clear hns hnp hcq
              cases f with
              | true =>
                have HH : Aside0 (true = hh i) := ⟨by rw [hv]; rfl⟩
                clear hv hx
                go_wp2
                go_region
                go_wp2
                go_roundw
                case rel => exact ⟨i + 1, by have := HIL.out; omega, by go_num, HFIN.out wr (Below.refl _ _) _ HH.out _ (by first | exact Below.refl _ _ | exact below_drew1 (Below.refl _ _))⟩
                case measure => simp [intOf]; have := HIL.out; omega
              | false =>
                cases p with
                | false =>
                  have HH : Aside0 (false = hh i) := ⟨by rw [hv]; rfl⟩
                  clear hv hx
                  go_wp2
                  go_region
                  go_wp2
                  go_roundw
                  case rel => exact ⟨i + 1, by have := HIL.out; omega, by go_num, HFIN.out wr (Below.refl _ _) _ HH.out _ (by first | exact Below.refl _ _ | exact below_drew1 (Below.refl _ _))⟩
                  case measure => simp [intOf]; have := HIL.out; omega
                | true =>
                  have HH : Aside0 (true = hh i) := ⟨by rw [hv]; rfl⟩
                  clear hv hx
                  go_wp2
                  go_region
                  go_wp2
                  go_roundw
                  case rel => exact ⟨i + 1, by have := HIL.out; omega, by go_num, HFIN.out wr (Below.refl _ _) _ HH.out _ (by first | exact Below.refl _ _ | exact below_drew1 (Below.refl _ _))⟩
                  case measure => simp [intOf]; have := HIL.out; omega
            by_cases c37 : c = 37
            · subst c37
              have hv := hns rfl
              clear hns hnp hcq
              cases f with
              | true =>
                have HH : Aside0 (true = hh i) := ⟨by rw [hv]; rfl⟩
                clear hv hx
                go_wp2
                go_region
                go_wp2
                go_roundw
                case rel => exact ⟨i + 1, by have := HIL.out; omega, by go_num, HFIN.out wr (Below.refl _ _) _ HH.out _ (by first | exact Below.refl _ _ | exact below_drew1 (Below.refl _ _))⟩
                case measure => simp [intOf]; have := HIL.out; omega
              | false =>
                cases p with
                | false =>
                  have HH : Aside0 (false = hh i) := ⟨by rw [hv]; rfl⟩
                  clear hv hx
                  go_wp2
                  go_region
                  go_wp2
                  go_roundw
                  case rel => exact ⟨i + 1, by have := HIL.out; omega, by go_num, HFIN.out wr (Below.refl _ _) _ HH.out _ (by first | exact Below.refl _ _ | exact below_drew1 (Below.refl _ _))⟩
                  case measure => simp [intOf]; have := HIL.out; omega
                | true =>
                  by_cases cx : x = 47
                  · subst cx
                    have HH : Aside0 (false = hh i) := ⟨by rw [hv]; rfl⟩
                    clear hv
                    go_wp2
                    go_region
                    go_wp2
                    go_roundw
                    case rel => exact ⟨i + 1, by have := HIL.out; omega, by go_num, HFIN.out wr (Below.refl _ _) _ HH.out _ (by first | exact Below.refl _ _ | exact below_drew1 (Below.refl _ _))⟩
                    case measure => simp [intOf]; have := HIL.out; omega
                  · have HH : Aside0 ((x != 47) = hh i) := ⟨by rw [hv]; simp [okB]⟩
                    clear hv cx
                    go_wp2
                    go_region
                    go_wp2
                    go_roundw
                    case rel => exact ⟨i + 1, by have := HIL.out; omega, by go_num, HFIN.out wr (Below.refl _ _) _ HH.out _ (by first | exact Below.refl _ _ | exact below_drew1 (Below.refl _ _))⟩
                    case measure => simp [intOf]; have := HIL.out; omega
            have hs := starB_false c c42 c37
            have hv := hnp hs
            have d1 : (c == 42) = false := beq_eq_false_iff_ne.2 c42
            have d2 : (c == 37) = false := beq_eq_false_iff_ne.2 c37
            have d3 : decide (c = 42) = false := decide_eq_false c42
            have d4 : decide (c = 37) = false := decide_eq_false c37
            clear hns hnp hs hcf hcp c42 c37
            by_cases cx : c = x
            · have v1 : (c == x) = true := beq_iff_eq.2 cx
              have v3 : decide (c = x) = true := decide_eq_true cx
              have HH : Aside0 (q = hh i) := ⟨by rw [hv, sameB, v1]; simp⟩
              clear hv cx
              cases q with
              | true =>
                go_wp2
                go_region
                go_wp2
                go_roundw
                case rel => exact ⟨i + 1, by have := HIL.out; omega, by go_num, HFIN.out wr (Below.refl _ _) _ HH.out _ (by first | exact Below.refl _ _ | exact below_drew1 (Below.refl _ _))⟩
                case measure => simp [intOf]; have := HIL.out; omega
              | false =>
                go_wp2
                go_region
                go_wp2
                go_roundw
                case rel => exact ⟨i + 1, by have := HIL.out; omega, by go_num, HFIN.out wr (Below.refl _ _) _ HH.out _ (by first | exact Below.refl _ _ | exact below_drew1 (Below.refl _ _))⟩
                case measure => simp [intOf]; have := HIL.out; omega
            have v1 : (c == x) = false := beq_eq_false_iff_ne.2 cx
            have v3 : decide (c = x) = false := decide_eq_false cx
            clear cx
            rw [sameB, v1] at hv
            have hbx := HBX.out
            by_cases cb : a1.toList = [73, 78, 66, 79, 88]
            · have b1 : (a1.toList == [73, 78, 66, 79, 88]) = true := beq_iff_eq.2 cb
              have b2 : decide (a1.toList = [73, 78, 66, 79, 88]) = true := decide_eq_true cb
              rw [b2] at hbx
              have hia : i ≤ a1.size := by have := HIL.out; have := HM.out; omega
              have f1 : decide (j ≤ i) = true := decide_eq_true (by have := HJ.out; omega)
              have f2 : decide ((j : Int) ≤ (i : Int)) = true := decide_eq_true (by have := HJ.out; omega)
              have f3 : (j ≤ i) = True := eq_true (by have := HJ.out; omega)
              have f4 : decide (i ≤ a1.size) = true := decide_eq_true hia
              have f5 : decide ((i : Int) ≤ (a1.size : Int)) = true := decide_eq_true (by omega)
              have f6 : (i ≤ a1.size) = True := eq_true hia
              obtain ⟨t, ht⟩ : ∃ t, t = (lowI c == lowI x) := ⟨_, rfl⟩
              have HH : Aside0 ((q && t) = hh i) := ⟨by rw [hv, hbx, ht]; simp⟩
              have HSAME : Aside0 (header_Same.f (strOfNums [c]) (a1.extract j i) = some t) := ⟨by rw [ht, HX.out, HNm.out]; exact same_one c a1 j i HJ.out hia HCR.out⟩
              have KEEP : Aside0 (∀ W, Below wr.heap.size wr W → W.cell? ⟨B5, j, none⟩ = some (.bool q) ∧ W.cell? ⟨B8, i, none⟩ = some (.bool false) ∧ W.frozen? ⟨B8, i, none⟩ = false) := ⟨fun W hW => ⟨(hW.cell (World.block_lt_of_cell? _ _ hcq)).trans hcq, (hW.cell (World.block_lt_of_cell? _ _ hco)).trans hco, (HN.out.below hW).free i (by rw [rowB_length]; exact HIL.out)⟩⟩
              have hlit := fun (W : World) => lit_str W c
              have HRC : c = c := rfl
              clear hv hbx cb hia ht hcq hco hfo HRC
              have HBW : Aside0 (Below wr.heap.size wr wr.drew) := ⟨below_drew1 (Below.refl _ _)⟩
              go_wp2
              refine start_ (n := 22) (S := fun w' => True) (ds := []) #[false, false, false, false, false, false, false, false, false, false, false, false, false, false, false, false, false, false, false, false, false, false] (by kernel_rfl) rfl rfl trivial (fun hHeld => ?_); refine with_tabW boxes_Fits.tab13 boxes_Fits.bits13 (fun HT_ HW_ => ?_)
              generalize wr.drew = w100 at HBW hHeld ⊢
              refine pure_ (i := 0) (N := some 73) (v := ?_) (a' := ?_) #[true, false, false, false, false, false, false, false, false, false, false, false, false, false, false, false, false, false, false, false, false, false] rfl rfl (any_of HT_.out (by kernel_rfl)) (fun _ _ _ h => h) (Or.inl ⟨by rfl, ?_⟩) ?_ ?_
              rotate_left
              · intro w'
                go_simp
                with_reducible rfl
              rotate_left
              · simp only [Act.put, List.setIfInBounds_toArray, List.set_cons_zero, List.set_cons_succ, i64_w, i32_w]
                rfl
              refine pure_ (i := 1) (N := some 74) (v := ?_) (a' := ?_) #[true, true, false, false, false, false, false, false, false, false, false, false, false, false, false, false, false, false, false, false, false, false] rfl rfl (any_of HT_.out (by kernel_rfl)) (fun _ _ _ h => h) (Or.inl ⟨by rfl, ?_⟩) ?_ ?_
              rotate_left
              · intro w'
                go_simp
                with_reducible rfl
              rotate_left
              · simp only [Act.put, List.setIfInBounds_toArray, List.set_cons_zero, List.set_cons_succ, i64_w, i32_w]
                rfl
              refine pure_ (i := 2) (N := some 75) (v := ?_) (a' := ?_) #[true, true, true, false, false, false, false, false, false, false, false, false, false, false, false, false, false, false, false, false, false, false] rfl rfl (any_of HT_.out (by kernel_rfl)) (fun _ _ _ h => h) (Or.inl ⟨by rfl, ?_⟩) ?_ ?_
              rotate_left
              · intro w'
                go_simp
                with_reducible rfl
              rotate_left
              · simp only [Act.put, List.setIfInBounds_toArray, List.set_cons_zero, List.set_cons_succ, i64_w, i32_w]
                rfl
              refine pure_ (i := 3) (N := some 76) (v := ?_) (a' := ?_) #[true, true, true, true, false, false, false, false, false, false, false, false, false, false, false, false, false, false, false, false, false, false] rfl rfl (any_of HT_.out (by kernel_rfl)) (fun _ _ _ h => h) (Or.inl ⟨by rfl, ?_⟩) ?_ ?_
              rotate_left
              · intro w'
                go_simp
                with_reducible rfl
              rotate_left
              · simp only [Act.put, List.setIfInBounds_toArray, List.set_cons_zero, List.set_cons_succ, i64_w, i32_w]
                rfl
              refine take_ (i := 4) (N := some 77) (v := ?_) (a' := ?_) #[true, true, true, true, true, false, false, false, false, false, false, false, false, false, false, false, false, false, false, false, false, false] rfl rfl (take_ofW HT_.out HW_.out (by kernel_rfl)) (fun _ _ _ h => h) (Or.inl ⟨by rfl, ?_⟩) hHeld ?_ ?_
              rotate_left
              · intro w' _
                go_simp
                with_reducible rfl
              rotate_left
              · simp only [Act.put, List.setIfInBounds_toArray, List.set_cons_zero, List.set_cons_succ, i64_w, i32_w]
                rfl
              refine pure_ (i := 5) (N := some 78) (v := ?_) (a' := ?_) #[true, true, true, true, true, true, false, false, false, false, false, false, false, false, false, false, false, false, false, false, false, false] rfl rfl (any_of HT_.out (by kernel_rfl)) (fun _ _ _ h => h) (Or.inl ⟨by rfl, ?_⟩) ?_ ?_
              rotate_left
              · intro w'
                go_simp
                with_reducible rfl
              rotate_left
              · simp only [Act.put, List.setIfInBounds_toArray, List.set_cons_zero, List.set_cons_succ, i64_w, i32_w]
                rfl
              refine pure_ (i := 6) (N := some 79) (v := ?_) (a' := ?_) #[true, true, true, true, true, true, true, false, false, false, false, false, false, false, false, false, false, false, false, false, false, false] rfl rfl (any_of HT_.out (by kernel_rfl)) (fun _ _ _ h => h) (Or.inl ⟨by rfl, ?_⟩) ?_ ?_
              rotate_left
              · intro w'
                go_simp
                with_reducible rfl
              rotate_left
              · simp only [Act.put, List.setIfInBounds_toArray, List.set_cons_zero, List.set_cons_succ, i64_w, i32_w]
                rfl
              refine pure_ (i := 7) (N := some 80) (v := ?_) (a' := ?_) #[true, true, true, true, true, true, true, true, false, false, false, false, false, false, false, false, false, false, false, false, false, false] rfl rfl (any_of HT_.out (by kernel_rfl)) (fun _ _ _ h => h) (Or.inl ⟨by rfl, ?_⟩) ?_ ?_
              rotate_left
              · intro w'
                go_simp
                with_reducible rfl
              rotate_left
              · simp only [Act.put, List.setIfInBounds_toArray, List.set_cons_zero, List.set_cons_succ, i64_w, i32_w]
                rfl
              refine pure_ (i := 8) (N := some 81) (v := ?_) (a' := ?_) #[true, true, true, true, true, true, true, true, true, false, false, false, false, false, false, false, false, false, false, false, false, false] rfl rfl (any_of HT_.out (by kernel_rfl)) (fun _ _ _ h => h) (Or.inl ⟨by rfl, ?_⟩) ?_ ?_
              rotate_left
              · intro w'
                go_simp
                with_reducible rfl
              rotate_left
              · simp only [Act.put, List.setIfInBounds_toArray, List.set_cons_zero, List.set_cons_succ, i64_w, i32_w]
                rfl
              refine pure_ (i := 9) (N := some 82) (v := ?_) (a' := ?_) #[true, true, true, true, true, true, true, true, true, true, false, false, false, false, false, false, false, false, false, false, false, false] rfl rfl (any_of HT_.out (by kernel_rfl)) (fun _ _ _ h => h) (Or.inl ⟨by rfl, ?_⟩) ?_ ?_
              rotate_left
              · intro w'
                go_simp
                with_reducible rfl
              rotate_left
              · simp only [Act.put, List.setIfInBounds_toArray, List.set_cons_zero, List.set_cons_succ, i64_w, i32_w]
                rfl
              refine pure_ (i := 10) (N := some 83) (v := ?_) (a' := ?_) #[true, true, true, true, true, true, true, true, true, true, true, false, false, false, false, false, false, false, false, false, false, false] rfl rfl (any_of HT_.out (by kernel_rfl)) (fun _ _ _ h => h) (Or.inl ⟨by rfl, ?_⟩) ?_ ?_
              rotate_left
              · intro w'
                go_simp
                with_reducible rfl
              rotate_left
              · simp only [Act.put, List.setIfInBounds_toArray, List.set_cons_zero, List.set_cons_succ, i64_w, i32_w]
                rfl
              refine pure_ (i := 13) (N := some 86) (v := ?_) (a' := ?_) #[true, true, true, true, true, true, true, true, true, true, true, false, false, true, false, false, false, false, false, false, false, false] rfl rfl (any_of HT_.out (by kernel_rfl)) (fun _ _ _ h => h) (Or.inl ⟨by rfl, ?_⟩) ?_ ?_
              rotate_left
              · intro w'
                go_simp
                with_reducible rfl
              rotate_left
              · simp only [Act.put, List.setIfInBounds_toArray, List.set_cons_zero, List.set_cons_succ, i64_w, i32_w]
                rfl
              refine pure_ (i := 14) (N := some 87) (v := ?_) (a' := ?_) #[true, true, true, true, true, true, true, true, true, true, true, false, false, true, true, false, false, false, false, false, false, false] rfl rfl (any_of HT_.out (by kernel_rfl)) (fun _ _ _ h => h) (Or.inl ⟨by rfl, ?_⟩) ?_ ?_
              rotate_left
              · intro w'
                go_simp
                with_reducible rfl
              rotate_left
              · simp only [Act.put, List.setIfInBounds_toArray, List.set_cons_zero, List.set_cons_succ, i64_w, i32_w]
                rfl
              refine pure_ (i := 15) (N := some 88) (v := ?_) (a' := ?_) #[true, true, true, true, true, true, true, true, true, true, true, false, false, true, true, true, false, false, false, false, false, false] rfl rfl (any_of HT_.out (by kernel_rfl)) (fun _ _ _ h => h) (Or.inl ⟨by rfl, ?_⟩) ?_ ?_
              rotate_left
              · intro w'
                go_simp
                with_reducible rfl
              rotate_left
              · simp only [Act.put, List.setIfInBounds_toArray, List.set_cons_zero, List.set_cons_succ, i64_w, i32_w]
                rfl
              refine pure_ (i := 16) (N := some 89) (v := ?_) (a' := ?_) #[true, true, true, true, true, true, true, true, true, true, true, false, false, true, true, true, true, false, false, false, false, false] rfl rfl (any_of HT_.out (by kernel_rfl)) (fun _ _ _ h => h) (Or.inl ⟨by rfl, ?_⟩) ?_ ?_
              rotate_left
              · intro w'
                go_simp
                with_reducible rfl
              rotate_left
              · simp only [Act.put, List.setIfInBounds_toArray, List.set_cons_zero, List.set_cons_succ, i64_w, i32_w]
                rfl
              refine pure_ (i := 17) (N := some 90) (v := ?_) (a' := ?_) #[true, true, true, true, true, true, true, true, true, true, true, false, false, true, true, true, true, true, false, false, false, false] rfl rfl (any_of HT_.out (by kernel_rfl)) (fun _ _ _ h => h) (Or.inl ⟨by rfl, ?_⟩) ?_ ?_
              rotate_left
              · intro w'
                go_simp
                with_reducible rfl
              rotate_left
              · simp only [Act.put, List.setIfInBounds_toArray, List.set_cons_zero, List.set_cons_succ, i64_w, i32_w]
                rfl
              refine one_ (i := 11) (N := some 84) #[true, true, true, true, true, true, true, true, true, true, true, true, false, true, true, true, true, true, false, false, false, false] rfl rfl (one_of HT_.out (by kernel_rfl)) (by decide) (fun K hK => ?_)
              refine Kd.R_lit_step (Kd.int .u8) _ 5 ?hg (N := 84) ?hd (xs := ([(c)] : List Int)) (inner := [.int .u8 (c)]) (ok := fun _ => True) (okp := fun _ => True) ?hr ?hp (fun _ hk => hk) trivial (Below.refl _ _) (Nat.le_refl _) (by simp) ?_; (case hd => rfl); (case hg => rfl); (case hr => first | (go_simp; done) | (go_simp; rfl)); (case hp => exact (Reps.one (show Kd.M (Kd.int .u8) _ _ _ (c) [.int .u8 (c)] from rfl) (Reps.none _ _)))
              intro v123 w101 ho102 hb hg_ hnew_
              clear hg_ hnew_
              have HO124 := Aside0.mk ho102
              have n3_ := Aside0.mk (below_step HBW.out hb)
              clear HBW
              have HBW := n3_
              clear n3_
              clear hb ho102
              refine hK.out _ _ trivial (fun hHeld => ?_)
              clear hK K
              refine norm_ (a' := ?_) ?_ ?_
              rotate_left
              · show Act.put _ (some 84) _ = _
                simp only [Act.put, List.setIfInBounds_toArray, List.set_cons_zero, List.set_cons_succ, i64_w, i32_w]
                rfl
              refine one_ (i := 12) (N := some 85) #[true, true, true, true, true, true, true, true, true, true, true, true, true, true, true, true, true, true, false, false, false, false] rfl rfl (one_of HT_.out (by kernel_rfl)) (by decide) (fun K hK => ?_)
              have hcv103 := own_string (P := Try.prog) Try.underlying33 Try.underlying5 Try.underlying9 (Kd.own_of_R HO124.out)
              refine value_ (w1 := ?_) (v := ?_) (by rfl) rfl ?_ ?_
              rotate_left 2
              · go_simp
                constructor
                · rfl
                · rfl
              clear hcv103
              refine hK.out _ _ trivial (fun hHeld => ?_)
              clear hK K
              refine norm_ (a' := ?_) ?_ ?_
              rotate_left
              · show Act.put _ (some 85) _ = _
                simp only [Act.put, List.setIfInBounds_toArray, List.set_cons_zero, List.set_cons_succ, i64_w, i32_w]
                rfl
              refine one_ (i := 18) (N := some 91) #[true, true, true, true, true, true, true, true, true, true, true, true, true, true, true, true, true, true, true, false, false, false] rfl rfl (one_of HT_.out (by kernel_rfl)) (by decide) (fun K hK => ?_)
              refine goes_ Try.func17 (by kernel_rfl) rfl #[.string (strOfNums [c]), .string (a1.extract j i)] (by rfl) rfl rfl (by (try simp only [List.map_toArray, List.map_cons, List.map_nil]); first | done | rfl | (simp only [List.length_drop, List.length_take]; rfl)) ?_
              with_reducible refine (header_Same.calls (strOfNums [c]) (a1.extract j i) t _ HSAME.out).mono ?_
              rintro e w104 ⟨rfl, hb⟩
              refine ⟨_, rfl, ?_⟩
              have n3_ := Aside0.mk (below_step HBW.out hb)
              clear HBW
              have HBW := n3_
              clear n3_
              clear HO124
              (try clear hb)
              (try clear hb2)
              (try clear hk)
              (try clear hi)
              refine hK.out _ _ trivial (fun hHeld => ?_)
              clear hK K
              refine norm_ (a' := ?_) ?_ ?_
              rotate_left
              · show Act.put _ (some 91) _ = _
                simp only [Act.put, List.setIfInBounds_toArray, List.set_cons_zero, List.set_cons_succ, i64_w, i32_w]
                rfl
              refine pure_ (i := 19) (N := some 92) (v := ?_) (a' := ?_) #[true, true, true, true, true, true, true, true, true, true, true, true, true, true, true, true, true, true, true, true, false, false] rfl rfl (any_of HT_.out (by kernel_rfl)) (fun _ _ _ h => h) (Or.inl ⟨by rfl, ?_⟩) ?_ ?_
              rotate_left
              · intro w'
                go_simp
                with_reducible rfl
              rotate_left
              · simp only [Act.put, List.setIfInBounds_toArray, List.set_cons_zero, List.set_cons_succ, i64_w, i32_w]
                rfl
              refine pure_ (i := 20) (N := some 93) (v := ?_) (a' := ?_) #[true, true, true, true, true, true, true, true, true, true, true, true, true, true, true, true, true, true, true, true, true, false] rfl rfl (any_of HT_.out (by kernel_rfl)) (fun _ _ _ h => h) (Or.inl ⟨by rfl, ?_⟩) ?_ ?_
              rotate_left
              · intro w'
                go_simp
                with_reducible rfl
              rotate_left
              · simp only [Act.put, List.setIfInBounds_toArray, List.set_cons_zero, List.set_cons_succ, i64_w, i32_w]
                rfl
              refine pure_ (i := 21) (N := some 10) (v := ?_) (a' := ?_) #[true, true, true, true, true, true, true, true, true, true, true, true, true, true, true, true, true, true, true, true, true, true] rfl rfl (any_of HT_.out (by kernel_rfl)) (fun _ _ _ h => h) (Or.inl ⟨by rfl, ?_⟩) ?_ ?_
              rotate_left
              · intro w'
                go_simp
                with_reducible rfl
              rotate_left
              · simp only [Act.put, List.setIfInBounds_toArray, List.set_cons_zero, List.set_cons_succ, i64_w, i32_w]
                rfl
              refine done_ (done_of HT_.out (by kernel_rfl)) ?_
              obtain ⟨k1, k2, k3⟩ := KEEP.out _ HBW.out
              cases q with
              | true =>
                go_wp2
                go_roundw
                case rel => exact ⟨i + 1, by have := HIL.out; omega, by go_num, HFIN.out _ HBW.out _ HH.out _ (by first | exact Below.refl _ _ | exact below_drew1 (Below.refl _ _))⟩
                case measure => simp [intOf]; have := HIL.out; omega
              | false =>
                go_wp2
                go_roundw
                case rel => exact ⟨i + 1, by have := HIL.out; omega, by go_num, HFIN.out _ HBW.out _ HH.out _ (by first | exact Below.refl _ _ | exact below_drew1 (Below.refl _ _))⟩
                case measure => simp [intOf]; have := HIL.out; omega
            · have b1 : (a1.toList == [73, 78, 66, 79, 88]) = false := beq_eq_false_iff_ne.2 cb
              have b2 : decide (a1.toList = [73, 78, 66, 79, 88]) = false := decide_eq_false cb
              rw [b2] at hbx
              have HH : Aside0 (false = hh i) := ⟨by rw [hv, hbx]; simp⟩
              clear hv hbx cb
              cases q with
              | true =>
                go_wp2
                go_region
                go_wp2
                go_roundw
                case rel => exact ⟨i + 1, by have := HIL.out; omega, by go_num, HFIN.out wr (Below.refl _ _) _ HH.out _ (by first | exact Below.refl _ _ | exact below_drew1 (Below.refl _ _))⟩
                case measure => simp [intOf]; have := HIL.out; omega
              | false =>
                go_wp2
                go_region
                go_wp2
                go_roundw
                case rel => exact ⟨i + 1, by have := HIL.out; omega, by go_num, HFIN.out wr (Below.refl _ _) _ HH.out _ (by first | exact Below.refl _ _ | exact below_drew1 (Below.refl _ _))⟩
                case measure => simp [intOf]; have := HIL.out; omega
        · have him : i = m := by omega
          have hN := HN.out
          rw [him, rowB_end] at hN
          have HN2 := Aside0.mk hN
          subst him
          have s1 : decide (i < i) = false := decide_eq_false (Nat.lt_irrefl i)
          have s3 : (i < i) = False := eq_false (Nat.lt_irrefl i)
          have hkb : (k : Int) ≤ 1000000 := by have := HLT.out; omega
          clear hN HN hilt hi
          go_wp2
          go_roundw
          case rel => exact ⟨k + 1, B8, c8, by have := HLT.out; omega, by go_num, rfl, ⟨HNE.out.2.2⟩, ⟨by rw [HNX.out]; exact HN2.out⟩, HP, HB⟩
          case measure => simp [intOf]; have := HLT.out; omega
    · have hka : k = a0.size := by omega
      have hF := HF.out
      rw [hka, List.take_of_length_le (by rw [HPL.out]; exact Nat.le_refl _)] at hF
      have t1 : decide (k < a0.size) = false := decide_eq_false hlt
      have t2 : decide ((k : Int) < (a0.size : Int)) = false := decide_eq_false (by omega)
      have t3 : (k < a0.size) = False := eq_false hlt
      have hl := hF.cell a1.size (by rw [rowB_length]; have := HM.out; omega)
      rw [rowB_get m _ a1.size (by have := HM.out; omega), HR.out] at hl
      have x1 : decide (a1.size < m) = true := decide_eq_true (by have := HM.out; omega)
      have x2 : decide ((a1.size : Int) < (m : Int)) = true := decide_eq_true (by have := HM.out; omega)
      have x3 : (a1.size < m) = True := eq_true (by have := HM.out; omega)
      clear hF hka hlt hk
      go_wp2
      go_ret
      exact ⟨rfl, HB.out⟩
end

/-! ### stringslite_HasPrefix: function 32 -/
def stringslite_HasPrefix.f (a0 : ByteArray) (a1 : ByteArray) : Option (Bool) := if (a0.size : Int) ≥ (a1.size : Int) then (if 0 ≤ (a1.size : Int) then (if (a1.size : Int) ≤ (a0.size : Int) then (some ((a0.extract 0 ((a1.size : Int) : Int).toNat).toList == a1.toList)) else (none)) else (none)) else (some false)
set_option maxHeartbeats 8000000 in
set_option maxRecDepth 100000 in
theorem stringslite_HasPrefix.calls (a0 : ByteArray) (a1 : ByteArray) (r : Bool) (w : World) (h : stringslite_HasPrefix.f a0 a1 = some r) :
    Calls Try.prog 32 #[.string a0, .string a1] w fun e w' => e = .returned (.bool r) ∧ Drawn0 w w' := by
  have H : (if (a0.size : Int) ≥ (a1.size : Int) then (if 0 ≤ (a1.size : Int) then (if (a1.size : Int) ≤ (a0.size : Int) then (some ((a0.extract 0 ((a1.size : Int) : Int).toNat).toList == a1.toList)) else (none)) else (none)) else (some false)) = some r := h
  clear h
  by_cases c3 : (a0.size : Int) ≥ (a1.size : Int)
  · rw [if_pos c3] at H
    have c3b0 : decide ((a1.size : Int) ≤ (a0.size : Int)) = true := decide_eq_true c3
    have c3b1 : decide (a1.size ≤ a0.size) = true := decide_eq_true (Int.ofNat_le.mp c3)
    clear c3
    by_cases c4 : 0 ≤ (a1.size : Int)
    · rw [if_pos c4] at H
      have c4b0 := eq_true c4
      have c4b1 : decide (0 ≤ (a1.size : Int)) = true := decide_eq_true c4
      clear c4
      by_cases c5 : (a1.size : Int) ≤ (a0.size : Int)
      · rw [if_pos c5] at H
        have c5b0 := eq_true c5
        have c5b1 : decide ((a1.size : Int) ≤ (a0.size : Int)) = true := decide_eq_true c5
        clear c5
        obtain rfl := Option.some.inj H
        go_enter Try.func32, Try.ntmps32
        go_wp2
        go_ret
        exact ⟨by first | rfl | (simp; done) | (simp [*]; done) | (simp [Go.Proofs.YthlofokgbogndabW.SRows.bne_nil_]; done), by repeat (first | exact Drawn0.refl _ | apply Drawn0.step)⟩
      · rw [if_neg c5] at H
        exact absurd H (by simp)
    · rw [if_neg c4] at H
      exact absurd H (by simp)
  · rw [if_neg c3] at H
    have c3b0 : decide ((a1.size : Int) ≤ (a0.size : Int)) = false := decide_eq_false c3
    have c3b1 : decide (a1.size ≤ a0.size) = false := decide_eq_false (fun h => c3 (Int.ofNat_le.mpr h))
    clear c3
    obtain rfl := Option.some.inj H
    go_enter Try.func32, Try.ntmps32
    go_wp2
    go_ret
    exact ⟨by first | rfl | (simp; done) | (simp [*]; done) | (simp [Go.Proofs.YthlofokgbogndabW.SRows.bne_nil_]; done), by repeat (first | exact Drawn0.refl _ | apply Drawn0.step)⟩

/-! ### stringslite_CutPrefix: function 26 -/
def stringslite_CutPrefix.f (a0 : ByteArray) (a1 : ByteArray) : Option (ByteArray × Bool) := (stringslite_HasPrefix.f a0 a1).bind fun t103 => (if t103 = true then (if 0 ≤ (a1.size : Int) then (if (a1.size : Int) ≤ (a0.size : Int) then (some (a0.extract ((a1.size : Int) : Int).toNat a0.size, true)) else (none)) else (none)) else (some (a0, false)))
set_option maxHeartbeats 8000000 in
set_option maxRecDepth 100000 in
theorem stringslite_CutPrefix.calls (a0 : ByteArray) (a1 : ByteArray) (r1 : ByteArray) (r2 : Bool) (w : World) (h : stringslite_CutPrefix.f a0 a1 = some (r1, r2)) :
    Calls Try.prog 26 #[.string a0, .string a1] w fun e w' => e = .returned (.tuple #[.string r1, .bool r2]) ∧ Drawn0 w w' := by
  have H : ((stringslite_HasPrefix.f a0 a1).bind fun t103 => (if t103 = true then (if 0 ≤ (a1.size : Int) then (if (a1.size : Int) ≤ (a0.size : Int) then (some (a0.extract ((a1.size : Int) : Int).toNat a0.size, true)) else (none)) else (none)) else (some (a0, false)))) = some (r1, r2) := h
  clear h
  replace H := Option.bind_eq_some_iff.mp H
  obtain ⟨t103, A30, H⟩ := H
  replace H : (if t103 = true then (if 0 ≤ (a1.size : Int) then (if (a1.size : Int) ≤ (a0.size : Int) then (some (a0.extract ((a1.size : Int) : Int).toNat a0.size, true)) else (none)) else (none)) else (some (a0, false))) = some (r1, r2) := H
  have A3 := Aside0.mk A30
  clear A30
  by_cases c4 : t103 = true
  · subst c4
    have H1 : (if 0 ≤ (a1.size : Int) then (if (a1.size : Int) ≤ (a0.size : Int) then (some (a0.extract ((a1.size : Int) : Int).toNat a0.size, true)) else (none)) else (none)) = some (r1, r2) := by rw [if_pos rfl] at H; exact H
    clear H
    have H := H1
    clear H1
    by_cases c5 : 0 ≤ (a1.size : Int)
    · rw [if_pos c5] at H
      have c5b0 := eq_true c5
      have c5b1 : decide (0 ≤ (a1.size : Int)) = true := decide_eq_true c5
      clear c5
      by_cases c6 : (a1.size : Int) ≤ (a0.size : Int)
      · rw [if_pos c6] at H
        have c6b0 := eq_true c6
        have c6b1 : decide ((a1.size : Int) ≤ (a0.size : Int)) = true := decide_eq_true c6
        clear c6
        simp only [Option.some.injEq, Prod.mk.injEq] at H
        obtain ⟨rfl, rfl⟩ := H
        go_enter Try.func26, Try.ntmps26
        go_wp2_with (first | ((with_reducible refine gate_callee (f := 32) rfl ?_); refine goesL_ (some 8) rfl rfl Try.func32 (by kernel_rfl) rfl #[.string a0, .string a1] rfl (by (try simp only [List.map_toArray, List.map_cons, List.map_nil]); first | done | rfl | (simp only [List.length_drop, List.length_take]; rfl)) ?_; (with_reducible refine (stringslite_HasPrefix.calls a0 a1 true _ A3.out).mono ?_); rintro e w' ⟨rfl, ⟨nd, rfl⟩⟩; refine ⟨_, rfl, ?_⟩))
        go_ret2
        exact ⟨by first | rfl | (simp; done) | (simp [*]; done) | (simp [Go.Proofs.YthlofokgbogndabW.SRows.bne_nil_]; done), by repeat (first | exact Drawn0.refl _ | apply Drawn0.step)⟩
      · rw [if_neg c6] at H
        exact absurd H (by simp)
    · rw [if_neg c5] at H
      exact absurd H (by simp)
  · replace c4 := Bool.eq_false_iff.mpr c4
    subst c4
    have H1 : (some (a0, false)) = some (r1, r2) := by rw [if_neg (show ¬ (false = true) by decide)] at H; exact H
    clear H
    have H := H1
    clear H1
    simp only [Option.some.injEq, Prod.mk.injEq] at H
    obtain ⟨rfl, rfl⟩ := H
    go_enter Try.func26, Try.ntmps26
    go_wp2_with (first | ((with_reducible refine gate_callee (f := 32) rfl ?_); refine goesL_ (some 8) rfl rfl Try.func32 (by kernel_rfl) rfl #[.string a0, .string a1] rfl (by (try simp only [List.map_toArray, List.map_cons, List.map_nil]); first | done | rfl | (simp only [List.length_drop, List.length_take]; rfl)) ?_; (with_reducible refine (stringslite_HasPrefix.calls a0 a1 false _ A3.out).mono ?_); rintro e w' ⟨rfl, ⟨nd, rfl⟩⟩; refine ⟨_, rfl, ?_⟩))
    go_ret2
    exact ⟨by first | rfl | (simp; done) | (simp [*]; done) | (simp [Go.Proofs.YthlofokgbogndabW.SRows.bne_nil_]; done), by repeat (first | exact Drawn0.refl _ | apply Drawn0.step)⟩

/-! ### strings_CutPrefix: function 19 -/
def strings_CutPrefix.f (a0 : ByteArray) (a1 : ByteArray) : Option (ByteArray × Bool) := (stringslite_CutPrefix.f a0 a1).bind fun bt104 => (some (bt104.1, bt104.2))
set_option maxHeartbeats 8000000 in
set_option maxRecDepth 100000 in
theorem strings_CutPrefix.calls (a0 : ByteArray) (a1 : ByteArray) (r1 : ByteArray) (r2 : Bool) (w : World) (h : strings_CutPrefix.f a0 a1 = some (r1, r2)) :
    Calls Try.prog 19 #[.string a0, .string a1] w fun e w' => e = .returned (.tuple #[.string r1, .bool r2]) ∧ Drawn0 w w' := by
  have H : ((stringslite_CutPrefix.f a0 a1).bind fun bt104 => (some (bt104.1, bt104.2))) = some (r1, r2) := h
  clear h
  replace H := Option.bind_eq_some_iff.mp H
  obtain ⟨⟨t104, t105⟩, A30, H⟩ := H
  replace H : (some (t104, t105)) = some (r1, r2) := H
  have A3 := Aside0.mk A30
  clear A30
  simp only [Option.some.injEq, Prod.mk.injEq] at H
  obtain ⟨rfl, rfl⟩ := H
  go_enter Try.func19, Try.ntmps19
  go_wp2_with (first | ((with_reducible refine gate_callee (f := 26) rfl ?_); refine goesL_ (some 8) rfl rfl Try.func26 (by kernel_rfl) rfl #[.string a0, .string a1] rfl (by (try simp only [List.map_toArray, List.map_cons, List.map_nil]); first | done | rfl | (simp only [List.length_drop, List.length_take]; rfl)) ?_; (with_reducible refine (stringslite_CutPrefix.calls a0 a1 t104 t105 _ A3.out).mono ?_); rintro e w' ⟨rfl, ⟨nd, rfl⟩⟩; refine ⟨_, rfl, ?_⟩))
  go_ret2
  exact ⟨by first | rfl | (simp; done) | (simp [*]; done) | (simp [Go.Proofs.YthlofokgbogndabW.SRows.bne_nil_]; done), by repeat (first | exact Drawn0.refl _ | apply Drawn0.step)⟩

/-! ### boxes_Under: function 12 -/
def boxes_Under.f (a0 : ByteArray) (a1 : ByteArray) : Option (Bool) := if a1.size + 1 ≤ 9223372036854775807 then ((strings_CutPrefix.f a0 (a1 ++ (⟨#[47]⟩ : ByteArray))).bind fun bt106 => (if bt106.2 = true then (some (bt106.1.toList != ([] : List UInt8))) else (some false))) else (none)
set_option maxHeartbeats 8000000 in
set_option maxRecDepth 100000 in
theorem boxes_Under.calls (a0 : ByteArray) (a1 : ByteArray) (r : Bool) (w : World) (h : boxes_Under.f a0 a1 = some r) :
    Calls Try.prog 12 #[.string a0, .string a1] w fun e w' => e = .returned (.bool r) ∧ Drawn0 w w' := by
  have H : (if a1.size + 1 ≤ 9223372036854775807 then ((strings_CutPrefix.f a0 (a1 ++ (⟨#[47]⟩ : ByteArray))).bind fun bt106 => (if bt106.2 = true then (some (bt106.1.toList != ([] : List UInt8))) else (some false))) else (none)) = some r := h
  clear h
  by_cases c3 : a1.size + 1 ≤ 9223372036854775807
  · rw [if_pos c3] at H
    have c3b0 := eq_true c3
    have c3b1 : decide (a1.size + 1 ≤ 9223372036854775807) = true := decide_eq_true c3
    try have c3b2 : (9223372036854775807 < a1.size + 1) = False := eq_false (Nat.not_lt.2 c3)
    replace H := Option.bind_eq_some_iff.mp H
    obtain ⟨⟨t106, t107⟩, A40, H⟩ := H
    replace H : (if t107 = true then (some (t106.toList != ([] : List UInt8))) else (some false)) = some r := H
    have A4 := Aside0.mk A40
    clear A40
    by_cases c5 : t107 = true
    · subst c5
      have H1 : (some (t106.toList != ([] : List UInt8))) = some r := by rw [if_pos rfl] at H; exact H
      clear H
      have H := H1
      clear H1
      obtain rfl := Option.some.inj H
      go_enter Try.func12, Try.ntmps12
      go_wp2_with (first | ((with_reducible refine gate_callee (f := 19) rfl ?_); refine goesL_ (some 11) rfl rfl Try.func19 (by kernel_rfl) rfl #[.string a0, .string (a1 ++ (⟨#[47]⟩ : ByteArray))] rfl (by (try simp only [List.map_toArray, List.map_cons, List.map_nil]); first | done | rfl | (simp only [List.length_drop, List.length_take]; rfl)) ?_; (with_reducible refine (strings_CutPrefix.calls a0 (a1 ++ (⟨#[47]⟩ : ByteArray)) t106 true _ A4.out).mono ?_); rintro e w' ⟨rfl, ⟨nd, rfl⟩⟩; refine ⟨_, rfl, ?_⟩))
      go_ret
      exact ⟨by first | rfl | (simp; done) | (simp [*]; done) | (simp [Go.Proofs.YthlofokgbogndabW.SRows.bne_nil_]; done), by repeat (first | exact Drawn0.refl _ | apply Drawn0.step)⟩
    · replace c5 := Bool.eq_false_iff.mpr c5
      subst c5
      have H1 : (some false) = some r := by rw [if_neg (show ¬ (false = true) by decide)] at H; exact H
      clear H
      have H := H1
      clear H1
      obtain rfl := Option.some.inj H
      go_enter Try.func12, Try.ntmps12
      go_wp2_with (first | ((with_reducible refine gate_callee (f := 19) rfl ?_); refine goesL_ (some 11) rfl rfl Try.func19 (by kernel_rfl) rfl #[.string a0, .string (a1 ++ (⟨#[47]⟩ : ByteArray))] rfl (by (try simp only [List.map_toArray, List.map_cons, List.map_nil]); first | done | rfl | (simp only [List.length_drop, List.length_take]; rfl)) ?_; (with_reducible refine (strings_CutPrefix.calls a0 (a1 ++ (⟨#[47]⟩ : ByteArray)) t106 false _ A4.out).mono ?_); rintro e w' ⟨rfl, ⟨nd, rfl⟩⟩; refine ⟨_, rfl, ?_⟩))
      go_ret
      exact ⟨by first | rfl | (simp; done) | (simp [*]; done) | (simp [Go.Proofs.YthlofokgbogndabW.SRows.bne_nil_]; done), by repeat (first | exact Drawn0.refl _ | apply Drawn0.step)⟩
  · rw [if_neg c3] at H
    exact absurd H (by simp)

end Go.Proofs.Ythlofokgbogndab.GBoxes
