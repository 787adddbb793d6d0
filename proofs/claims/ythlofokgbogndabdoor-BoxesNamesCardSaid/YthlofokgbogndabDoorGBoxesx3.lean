/- Written by a program of mine (wip/tools/mkprint.py turns the kit's print; given contracts by hand). Lean checks it. -/
import Derived.Test.YthlofokgbogndabDoorGBoxesx0
import Derived.Test.YthlofokgbogndabDoorGBoxesx1
import Derived.Test.YthlofokgbogndabDoorGBoxesx2
namespace Go.Proofs.YthlofokgbogndabDoor.GBoxes
open Go.RowKit Go.Proofs.YthlofokgbogndabDoorW.PrintWords Go.Proofs.YthlofokgbogndabDoorW.PrintLast Go.Proofs.YthlofokgbogndabDoorW.PrintMore
attribute [local go_sem] max2_int min2_int max_two min_two max_three min_three max_four min_four   -- for this text's walks alone
set_option linter.unusedVariables false
set_option linter.unusedSimpArgs false

/-! ### boxes_each: function 15 -/
section
open Go.Maps Go.Shelf Go.Proofs.YthlofokgbogndabDoorW.SRows
/-- May a byte stand in a name, or a pattern? -/
def okB13 (but : ByteArray) (c : Int) : Bool := decide (33 ≤ c) && (decide (c ≤ 126) && decide (Lib.indexByte but.data.toList c.toNat.toUInt8 < 0))
def boxes_each.f (s but : ByteArray) : Option Bool := if s.size ≤ 1000000 then some ((bytesOf s).all (okB13 but)) else none
theorem all_at13 (xs : List Int) (p : Int → Bool) (k : Nat) (hk : k < xs.length) (h : p (xs.getD k 0) = false) : xs.all p = false := by
  rw [List.all_eq_false]
  refine ⟨xs.getD k 0, ?_, by rw [h]; decide⟩
  rw [List.getD_eq_getElem?_getD, List.getElem?_eq_getElem hk]
  exact List.getElem_mem hk
theorem all_take13 (xs : List Int) (p : Int → Bool) (k : Nat) (hk : k < xs.length) (h : (xs.take k).all p = true) (h1 : p (xs.getD k 0) = true) : (xs.take (k + 1)).all p = true := by
  rw [List.take_add_one, List.getElem?_eq_getElem hk, List.all_append, h, Bool.true_and]
  rw [List.getD_eq_getElem?_getD, List.getElem?_eq_getElem hk] at h1
  simpa using h1
set_option maxHeartbeats 2000000 in
theorem boxes_each.calls (a0 a1 : ByteArray) (r : Bool) (w : World) (h : boxes_each.f a0 a1 = some r) :
    Calls Tryd.prog 15 #[.string a0, .string a1] w fun e w' => e = .returned (.bool r) ∧ Below w.heap.size w w' := by
  unfold boxes_each.f at h
  by_cases hs : a0.size ≤ 1000000
  case neg =>
    rw [if_neg hs] at h
    exact absurd h (by simp)
  rw [if_pos hs] at h
  have HR := Aside0.mk (Option.some.inj h)
  clear h
  have hcv := Lib.run_convert_string_bytes (P := Tryd.prog) w 9 43 5 a0 Tryd.underlying9 Tryd.underlying43 Tryd.underlying5
  obtain ⟨cap, hcap⟩ : ∃ c, c = grownCap w a0.size 0 5 := ⟨_, rfl⟩
  have hcs : a0.size ≤ cap := by rw [hcap]; exact grownCap_ge w _ _ _
  rw [← hcap] at hcv
  clear hcap
  have hrow := SRow.new w 5 a0 (by omega)
  have hbel : Below w.heap.size w (Lib.bytesWorld w 5 a0) := (Below.refl _ w).grown (bytes_grown w _ a0) (Nat.le_refl _) (fun k e => by cases e)
  obtain ⟨W1, hW1⟩ : ∃ x, x = Lib.bytesWorld w 5 a0 := ⟨_, rfl⟩
  rw [← hW1] at hcv hrow hbel
  clear hW1
  obtain ⟨xs, hxs⟩ : ∃ x, x = bytesOf a0 := ⟨_, rfl⟩
  have hlen : xs.length = a0.size := by rw [hxs, bytesOf_length]
  have hrange : ∀ k, k < xs.length → 0 ≤ xs.getD k 0 ∧ xs.getD k 0 ≤ 255 := fun k hk => by
    rw [List.getD_eq_getElem?_getD, List.getElem?_eq_getElem hk, Option.getD_some]
    exact bytesOf_range a0 _ (by rw [← hxs]; exact List.getElem_mem hk)
  rw [← hxs] at hrow HR
  have HN := Aside0.mk hrange
  have HW := Aside0.mk hrow
  have HB := Aside0.mk hbel
  have HL := Aside0.mk hlen
  have hle : (a0.size : Int) ≤ 1000000 := by omega
  clear hrange hrow hbel hlen hxs hs
  go_enter Tryd.func15, Tryd.ntmps15
  go_wp2
  go_loopw [10] (fun i wr => ∃ k : Nat, k ≤ a0.size ∧ i = .int .i64 k ∧ Aside0 ((xs.take k).all (okB13 a1) = true) ∧ Aside0 (SRow (Value.int .u8) 0 wr 5 w.heap.size xs) ∧ Aside0 (Below w.heap.size w wr)) (fun i _ => a0.size - (intOf i).toNat)
  case atStart => exact ⟨0, Nat.zero_le _, rfl, ⟨rfl⟩, HW, HB⟩
  case round =>
    clear HW HB
    obtain ⟨k, hk, rfl, HA, HW, HB⟩ := hrel
    by_cases hlt : k < a0.size
    · have hx : k < xs.length := by rw [HL.out]; exact hlt
      have hcell := HW.out.cell k hx
      have hb0 := HN.out k hx
      have HX := Aside0.mk hx
      have t1 : decide (k < a0.size) = true := decide_eq_true hlt
      have t2 : decide ((k : Int) < (a0.size : Int)) = true := decide_eq_true (by omega)
      have hno : okB13 a1 (xs.getD k 0) = false → r = false := fun hf => by rw [← HR.out]; exact all_at13 xs _ k hx hf
      have hyes : okB13 a1 (xs.getD k 0) = true → (xs.take (k + 1)).all (okB13 a1) = true := fun ht => all_take13 xs _ k hx HA.out ht
      have HNO := Aside0.mk hno
      have HYES := Aside0.mk hyes
      clear hx hno hyes
      obtain ⟨c, hc⟩ : ∃ c, c = xs.getD k 0 := ⟨_, rfl⟩
      rw [← hc] at hcell hb0 HNO HYES
      clear hc
      by_cases hu1 : c < 33
      · have g1 : decide (c < 33) = true := decide_eq_true hu1
        have hf : okB13 a1 c = false := by unfold okB13; rw [decide_eq_false (show ¬ 33 ≤ c by omega), Bool.false_and]
        have HF := Aside0.mk (HNO.out hf)
        clear hf
        go_wp2
        go_ret
        exact ⟨by rw [HF.out]; rfl, HB.out⟩
      · have g1 : decide (c < 33) = false := decide_eq_false hu1
        by_cases hu2 : 126 < c
        · have g2 : decide (126 < c) = true := decide_eq_true hu2
          have hf : okB13 a1 c = false := by unfold okB13; rw [decide_eq_false (show ¬ c ≤ 126 by omega), Bool.false_and, Bool.and_false]
          have HF := Aside0.mk (HNO.out hf)
          clear hf
          go_wp2
          go_ret
          exact ⟨by rw [HF.out]; rfl, HB.out⟩
        · have g2 : decide (126 < c) = false := decide_eq_false hu2
          have hix := Tryd.strings_IndexByte a1 c wr
          obtain ⟨z, hz⟩ : ∃ z, z = Lib.indexByte a1.data.toList c.toNat.toUInt8 := ⟨_, rfl⟩
          rw [← hz] at hix
          have HI := Aside0.mk hix
          clear hix
          by_cases hu3 : 0 ≤ z
          · have g3 : decide (0 ≤ z) = true := decide_eq_true hu3
            have hf : okB13 a1 c = false := by unfold okB13; rw [← hz, decide_eq_false (show ¬ z < 0 by omega), Bool.and_false, Bool.and_false]
            have HF := Aside0.mk (HNO.out hf)
            clear hf hz
            go_wp2_with (first | (go_at_call 23; refine HI.out.mono ?_; rintro e w' ⟨rfl, rfl⟩))
            go_ret
            exact ⟨by rw [HF.out]; rfl, HB.out⟩
          · have g3 : decide (0 ≤ z) = false := decide_eq_false hu3
            have ht : okB13 a1 c = true := by unfold okB13; rw [← hz, decide_eq_true (show z < 0 by omega), decide_eq_true (show 33 ≤ c by omega), decide_eq_true (show c ≤ 126 by omega)]; rfl
            have HT := Aside0.mk (HYES.out ht)
            clear ht hz
            go_wp2_with (first | (go_at_call 23; refine HI.out.mono ?_; rintro e w' ⟨rfl, rfl⟩))
            go_roundw
            case rel => exact ⟨k + 1, by omega, by go_num, HT, HW, HB⟩
            case measure => first | (simp [intOf]; done) | (simp [intOf]; omega)
    · have hks : k = a0.size := by omega
      subst hks
      have t1 : decide (a0.size < a0.size) = false := decide_eq_false (Nat.lt_irrefl _)
      have hA := HA.out
      rw [← HL.out, List.take_length] at hA
      have HT := Aside0.mk (HR.out.symm.trans hA)
      clear hA hlt
      go_wp2
      go_ret
      exact ⟨by rw [HT.out]; rfl, HB.out⟩
end

-- function 24 (slices_Index_string_string): its walk stands in a text of its own

-- function 16 (slices_Contains_string_string): its walk stands in a text of its own

-- NOT PRINTED: function 38 (utf8_RuneCountInString)

-- NOT PRINTED: function 43 (utf8_decodeRuneInStringSlow)

-- NOT PRINTED: function 39 (utf8_DecodeRuneInString)

-- NOT PRINTED: function 31 (strings_explode)

-- function 44 (bytealg_IndexString): its walk stands in a text of its own

-- function 45 (bytealg_Cutover): its walk stands in a text of its own

-- function 47 (bytealg_hashStr_string): its walk stands in a text of its own

-- function 46 (bytealg_IndexRabinKarp_string): its walk stands in a text of its own

-- NOT PRINTED: function 41 (stringslite_Index)

-- NOT PRINTED: function 33 (strings_Index)

-- function 40 (bytealg_CountString): its walk stands in a text of its own

-- NOT PRINTED: function 32 (strings_Count)

-- NOT PRINTED: function 25 (strings_genSplit)

-- NOT PRINTED: function 17 (strings_Split)

/-! ### boxes_Name: function 6 -/
section
open Go.Maps Go.Shelf Go.Proofs.YthlofokgbogndabDoorW.SRows Go.Proofs.YthlofokgbogndabDoor.Is
/-- What the world bears: the sentinels, a number in bytealg's variable. -/
def SentEnv (S : Int → Prop) (w : World) (E : Int → Addr) : Prop := Errs S w E ∧ ∃ m : Int, w.cell? ⟨13, 0, none⟩ = some (.int .i64 m)
theorem cell_below13 {w w' : World} (hb : Below w.heap.size w w') {a : Addr} {v : Value} (h : w.cell? a = some v) : w'.cell? a = some v := by
  cases hk : w.heap[a.block]? with
  | none => simp [World.cell?, hk] at h
  | some o =>
    have := hb.block a.block (Array.getElem?_eq_some_iff.1 hk).1
    rw [← h]
    simp only [World.cell?, this]
theorem SentEnv.below {S : Int → Prop} {w w' : World} {E : Int → Addr} (h : SentEnv S w E) (hb : Below w.heap.size w w') : SentEnv S w' E := ⟨h.1.below hb, h.2.elim fun m hm => ⟨m, cell_below13 hb hm⟩⟩
def slashS13 : ByteArray := ⟨#[47]⟩
def inboxS13 : ByteArray := ⟨#[73, 78, 66, 79, 88]⟩
def barS13 : ByteArray := ⟨#[40, 41, 123, 37, 42, 34, 92]⟩
def parts13 (s : ByteArray) : List ByteArray := Lib.splitB slashS13 0 (Lib.countB s slashS13) s
theorem parts13_length (s : ByteArray) : (parts13 s).length = Lib.countB s slashS13 + 1 := Lib.splitB_all slashS13 (by decide) 0 _ s rfl
def boxes_Name.f (a0 : ByteArray) : Option (ByteArray × Option Int) :=
  if 60 < a0.size then some (ByteArray.empty, some 4) else
  if (bytesOf a0).all (okB13 barS13) = true then
    if Lib.containsS (parts13 a0) ByteArray.empty = true then some (ByteArray.empty, some 4) else
    (header_Same.f a0 inboxS13).bind fun t => if t = true then some (inboxS13, none) else some (a0, none)
  else some (ByteArray.empty, some 4)
theorem count13_le (s : ByteArray) : Lib.countB s slashS13 ≤ s.size := Lib.countB_le slashS13 (by decide) s.size s (Nat.le_refl _)
theorem bel_trans13 {w w1 w2 : World} (h : Below w.heap.size w w1) (h2 : Below w1.heap.size w1 w2) : Below w.heap.size w w2 := below_step h h2
theorem split_cells13 (s : ByteArray) (w1 w2 : World) (hw : w2 = w1.alloc (.cells ((parts13 s).map Value.string).toArray 9)) : ∀ j, j < (parts13 s).length → w2.cell? ⟨w1.heap.size, 0 + j, none⟩ = some (.string ((parts13 s).getD j ByteArray.empty)) := by
  intro j hj
  rw [hw, World.cell?_alloc_new, Nat.zero_add]
  simp [List.getElem?_eq_getElem hj, List.getD_eq_getElem?_getD]
set_option maxHeartbeats 4000000 in
theorem boxes_Name.calls {S : Int → Prop} (hS : S 4) (E : Int → Addr) (a0 r1 : ByteArray) (r2 : Option Int) (w : World) (hE : SentEnv S w E) (h : boxes_Name.f a0 = some (r1, r2)) :
    Calls Tryd.prog 6 #[.string a0] w fun e w' => e = .returned (.tuple #[.string r1, errV E r2]) ∧ Below w.heap.size w w' := by
  have HE := Aside0.mk hE
  have hv : w.cell? ⟨0, 0, none⟩ = some (.iface 80 (.pointer (some (E 4)))) := hE.1.var 4 hS
  clear hE
  unfold boxes_Name.f at h
  by_cases h1 : 60 < a0.size
  · rw [if_pos h1] at h
    obtain ⟨rfl, rfl⟩ := Prod.mk.inj (Option.some.inj h)
    have g1 : decide (60 < a0.size) = true := decide_eq_true h1
    have g2 : decide (60 < (a0.size : Int)) = true := decide_eq_true (by omega)
    clear h h1
    go_enter Tryd.func6, Tryd.ntmps6
    go_wp2
    go_region
    go_wp2
    go_ret2
    exact ⟨rfl, by first | exact Below.refl _ _ | exact below_drew1 (Below.refl _ _)⟩
  · rw [if_neg h1] at h
    have g1 : decide (60 < a0.size) = false := decide_eq_false h1
    have g2 : decide (60 < (a0.size : Int)) = false := decide_eq_false (by omega)
    have HS := Aside0.mk (show a0.size ≤ 60 by omega)
    clear h1
    obtain ⟨b, hb⟩ : ∃ b, b = (bytesOf a0).all (okB13 barS13) := ⟨_, rfl⟩
    have HEACH := Aside0.mk (show boxes_each.f a0 barS13 = some b by rw [boxes_each.f, if_pos (by have := HS.out; omega), hb])
    rw [← hb] at h
    clear hb
    cases b with
    | false =>
      rw [if_neg (by decide)] at h
      obtain ⟨rfl, rfl⟩ := Prod.mk.inj (Option.some.inj h)
      clear h hv
      go_enter Tryd.func6, Tryd.ntmps6
      go_wp2_with (first | (go_at_call 15; refine (boxes_each.calls a0 barS13 false _ HEACH.out).mono ?_; rintro e w1 ⟨rfl, hb1⟩; have HB1 := Aside0.mk hb1; have hv1 := (show w1.cell? ⟨0, 0, none⟩ = some (.iface 80 (.pointer (some (E 4)))) from (HE.out.below hb1).1.var 4 hS); clear hb1))
      go_region
      go_wp2
      go_ret2
      exact ⟨rfl, by first | exact HB1.out | exact below_drew1 HB1.out⟩
    | true =>
      rw [if_pos rfl] at h
      have HSP : Aside0 (∀ W, Below w.heap.size w W → ∃ m, W.cell? ⟨13, 0, none⟩ = some (.int .i64 m)) := ⟨fun W hW => (HE.out.below hW).2⟩
      obtain ⟨c, hc⟩ : ∃ c, c = Lib.containsS (parts13 a0) ByteArray.empty := ⟨_, rfl⟩
      have HC := Aside0.mk hc
      rw [← hc] at h
      clear hc
      cases c with
      | true =>
        rw [if_pos rfl] at h
        obtain ⟨rfl, rfl⟩ := Prod.mk.inj (Option.some.inj h)
        clear h hv
        go_enter Tryd.func6, Tryd.ntmps6
        go_wp2_with (first
          | (go_at_call 15; refine (boxes_each.calls a0 barS13 true _ HEACH.out).mono ?_; rintro e w1 ⟨rfl, hb1⟩; have HB1 := Aside0.mk hb1; clear hb1)
          | (go_at_call 17; obtain ⟨m1, hm1⟩ := HSP.out _ HB1.out; refine (Tryd.strings_Split a0 slashS13 m1 _ (by have := HS.out; omega) hm1 (by decide)).mono ?_; rintro e w2 ⟨rfl, hw2⟩; have HB2 := Aside0.mk (bel_trans13 HB1.out (show Below w1.heap.size w1 w2 by rw [hw2]; exact below_lit _ _)); have HCL := Aside0.mk (split_cells13 a0 _ w2 hw2); have hv1 := (show w2.cell? ⟨0, 0, none⟩ = some (.iface 80 (.pointer (some (E 4)))) from (HE.out.below HB2.out).1.var 4 hS); clear hw2 hm1)
          | (go_at_call 16; refine (Tryd.slices_Contains_string _ 0 _ _ (parts13 a0) ByteArray.empty _ (by rw [parts13_length]; exact Nat.le_refl _) (by have := HS.out; have := count13_le a0; omega) HCL.out).mono ?_; rintro e w3 ⟨rfl, rfl⟩; rw [← parts13_length, List.take_length, ← HC.out]))
        go_region
        go_wp2
        go_ret2
        exact ⟨rfl, by first | exact HB2.out | exact below_drew1 HB2.out⟩
      | false =>
        rw [if_neg (by decide)] at h
        obtain ⟨t, ht, h⟩ := Option.bind_eq_some_iff.mp h
        have HT := Aside0.mk ht
        clear ht
        cases t with
        | true =>
          rw [if_pos rfl] at h
          obtain ⟨rfl, rfl⟩ := Prod.mk.inj (Option.some.inj h)
          clear h hv
          go_enter Tryd.func6, Tryd.ntmps6
          go_wp2_with (first
            | (go_at_call 15; refine (boxes_each.calls a0 barS13 true _ HEACH.out).mono ?_; rintro e w1 ⟨rfl, hb1⟩; have HB1 := Aside0.mk hb1; clear hb1)
            | (go_at_call 17; obtain ⟨m1, hm1⟩ := HSP.out _ HB1.out; refine (Tryd.strings_Split a0 slashS13 m1 _ (by have := HS.out; omega) hm1 (by decide)).mono ?_; rintro e w2 ⟨rfl, hw2⟩; have HB2 := Aside0.mk (bel_trans13 HB1.out (show Below w1.heap.size w1 w2 by rw [hw2]; exact below_lit _ _)); have HCL := Aside0.mk (split_cells13 a0 _ w2 hw2); clear hw2 hm1)
            | (go_at_call 16; refine (Tryd.slices_Contains_string _ 0 _ _ (parts13 a0) ByteArray.empty _ (by rw [parts13_length]; exact Nat.le_refl _) (by have := HS.out; have := count13_le a0; omega) HCL.out).mono ?_; rintro e w3 ⟨rfl, rfl⟩; rw [← parts13_length, List.take_length, ← HC.out])
            | (go_at_call 18; refine (header_Same.calls a0 inboxS13 true _ HT.out).mono ?_; rintro e w4 ⟨rfl, hb4⟩; have HB4 := Aside0.mk (bel_trans13 HB2.out hb4); clear hb4))
          go_ret2
          exact ⟨rfl, HB4.out⟩
        | false =>
          rw [if_neg (by decide)] at h
          obtain ⟨rfl, rfl⟩ := Prod.mk.inj (Option.some.inj h)
          clear h hv
          go_enter Tryd.func6, Tryd.ntmps6
          go_wp2_with (first
            | (go_at_call 15; refine (boxes_each.calls a0 barS13 true _ HEACH.out).mono ?_; rintro e w1 ⟨rfl, hb1⟩; have HB1 := Aside0.mk hb1; clear hb1)
            | (go_at_call 17; obtain ⟨m1, hm1⟩ := HSP.out _ HB1.out; refine (Tryd.strings_Split a0 slashS13 m1 _ (by have := HS.out; omega) hm1 (by decide)).mono ?_; rintro e w2 ⟨rfl, hw2⟩; have HB2 := Aside0.mk (bel_trans13 HB1.out (show Below w1.heap.size w1 w2 by rw [hw2]; exact below_lit _ _)); have HCL := Aside0.mk (split_cells13 a0 _ w2 hw2); clear hw2 hm1)
            | (go_at_call 16; refine (Tryd.slices_Contains_string _ 0 _ _ (parts13 a0) ByteArray.empty _ (by rw [parts13_length]; exact Nat.le_refl _) (by have := HS.out; have := count13_le a0; omega) HCL.out).mono ?_; rintro e w3 ⟨rfl, rfl⟩; rw [← parts13_length, List.take_length, ← HC.out])
            | (go_at_call 18; refine (header_Same.calls a0 inboxS13 false _ HT.out).mono ?_; rintro e w4 ⟨rfl, hb4⟩; have HB4 := Aside0.mk (bel_trans13 HB2.out hb4); clear hb4))
          go_ret2
          exact ⟨rfl, HB4.out⟩
end

/-! ### boxes_Above: function 7 -/
def boxes_Above.l0 : Nat → ByteArray → List ByteArray → Int → Int → Option (List ByteArray)
  | 0, _, _, _, _ => none
  | k + 1, x0, x3, x6, x7 => if x7 < x6 then (if 0 ≤ x7 then (if x7 < (x0.size : Int) then (if 0 < 1 then (if (bt x0 x7) = (bt (⟨#[47]⟩ : ByteArray) 0) then (if x7 ≤ (x0.size : Int) then (if x3.length < 8796093022208 then (boxes_Above.l0 k x0 (x3 ++ [x0.extract 0 (x7 : Int).toNat]) x6 (wrap64 (x7 + 1))) else (none)) else (none)) else (boxes_Above.l0 k x0 x3 x6 (wrap64 (x7 + 1)))) else (none)) else (none)) else (none)) else (some x3)
def boxes_Above.f (k : Nat) (a0 : ByteArray) : Option (List ByteArray) := boxes_Above.l0 k a0 ([] : List ByteArray) (a0.size : Int) 0
theorem boxes_Above.mono_l : ∀ k, (∀ y0 y1 y2 y3, LeO (boxes_Above.l0 k y0 y1 y2 y3) (boxes_Above.l0 (k + 1) y0 y1 y2 y3))
  | 0 => fun _ _ _ _ r h => by simp [boxes_Above.l0] at h
  | k + 1 => by
    have ih0 := boxes_Above.mono_l k
    · intro y0 y1 y2 y3
      unfold boxes_Above.l0
      repeat' first
      | (with_reducible exact ih0 _ _ _ _)
      | (with_reducible exact LeO.refl _)
      | (with_reducible exact LeO.none _)
      | (with_reducible refine LeO.ite ?_ ?_)
      | (with_reducible refine LeO.bind ?_ (fun _ => ?_))
      | exact ih0 _ _ _ _
      | exact LeO.none _
      | refine LeO.ite ?_ ?_
      | refine LeO.bind ?_ (fun _ => ?_)
theorem boxes_Above.mono : ∀ a0 k, LeO (boxes_Above.f k a0) (boxes_Above.f (k + 1) a0) := by
  intro a0 k
  have ih0 := boxes_Above.mono_l k
  unfold boxes_Above.f
  repeat' first
      | (with_reducible exact ih0 _ _ _ _)
      | (with_reducible exact LeO.refl _)
      | (with_reducible exact LeO.none _)
      | (with_reducible refine LeO.ite ?_ ?_)
      | (with_reducible refine LeO.bind ?_ (fun _ => ?_))
      | exact ih0 _ _ _ _
      | exact LeO.none _
      | refine LeO.ite ?_ ?_
      | refine LeO.bind ?_ (fun _ => ?_)
set_option maxHeartbeats 8000000 in
set_option maxRecDepth 100000 in
theorem boxes_Above.calls (k : Nat) (a0 : ByteArray) (r : List ByteArray) (w : World) (h : boxes_Above.f k a0 = some r) :
    Calls Tryd.prog 7 #[.string a0] w fun e w' => ∃ v0_ : Value, e = .returned (v0_) ∧ Kd.R Kd.string 9 w' w.heap.size (fun _ => True) v0_ r ∧ Below w.heap.size w w' := by
  have HB := Aside0.mk (Below.refl w.heap.size w)
  have H : (boxes_Above.l0 k a0 ([] : List ByteArray) (a0.size : Int) 0) = some r := h
  clear h
  have H' := Aside0.mk H
  clear H
  go_enter Tryd.func7, Tryd.ntmps7
  go_wp2
  repeat (go_quiet (fail); try go_wp2)
  go_loopg [3, 7] k (fun kq v3 v7 w' => ∃ (x3_1 : List ByteArray) (x7_1 : Int), v7 = .int .i64 x7_1 ∧ Aside0 (boxes_Above.l0 kq a0 x3_1 (a0.size : Int) x7_1 = some r) ∧ Aside0 (kq ≤ k) ∧ Aside0 (Kd.R Kd.string 9 w' w.heap.size (fun _ => True) v3 x3_1) ∧ Aside0 (Below w.heap.size w w'))
  case atStart => exact ⟨(([] : List ByteArray)), (0), (by first | rfl | (simp; done) | (simp [*]; done)), H', ⟨Nat.le_refl _⟩, ⟨by first | exact Kd.R_nil _ _ _ _ _ | exact Kd.N_nil _ _ _ _ _ | exact Kd.V_nil _ _ _ _ _ | exact Kd.Q_nil _ _ _ _ _ | exact Kd.S_nil _ _ _ _ _⟩, ⟨by repeat (first | (with_reducible first | exact HB.out | apply below_alloc | apply pw_below_drewN | apply below_drew1) | exact HB.out | exact Below.refl _ _)⟩⟩
  case round =>
    clear H'
    obtain ⟨x3_1, x7_1, rfl, HA, HK1, HO_3, HB⟩ := hrel
    cases gk with
    | zero => exact absurd HA.out (by simp [boxes_Above.l0])
    | succ k1 =>
      have H := HA.out
      clear HA
      simp only [boxes_Above.l0] at H
      by_cases c2 : x7_1 < (a0.size : Int)
      · rw [if_pos c2] at H
        have c2b0 : decide (x7_1 < (a0.size : Int)) = true := decide_eq_true c2
        clear c2
        by_cases c3 : 0 ≤ x7_1
        · rw [if_pos c3] at H
          have c3b0 : decide (0 ≤ x7_1) = true := decide_eq_true c3
          clear c3
          by_cases c4 : x7_1 < (a0.size : Int)
          · rw [if_pos c4] at H
            have c4b0 : decide (x7_1 < (a0.size : Int)) = true := decide_eq_true c4
            clear c4
            by_cases c6 : 0 < 1
            · rw [if_pos c6] at H
              have c6b0 : decide (0 < 1) = true := decide_eq_true c6
              clear c6
              by_cases c8 : (bt a0 x7_1) = (bt (⟨#[47]⟩ : ByteArray) 0)
              · rw [if_pos c8] at H
                have c8b0 : ((bt a0 x7_1) == (bt (⟨#[47]⟩ : ByteArray) 0)) = true := beq_iff_eq.mpr c8
                have c8b1 : ((bt a0 x7_1) != (bt (⟨#[47]⟩ : ByteArray) 0)) = false := bne_eq_false_iff_eq.mpr c8
                clear c8
                have c9b0 := eq_true (of_decide_eq_true (by first | (with_reducible assumption) | assumption) : 0 ≤ x7_1)
                by_cases c10 : x7_1 ≤ (a0.size : Int)
                · rw [if_pos c10] at H
                  have c10b0 := eq_true c10
                  have c10b1 : decide (x7_1 ≤ (a0.size : Int)) = true := decide_eq_true c10
                  clear c10
                  by_cases c11 : x3_1.length < 8796093022208
                  · rw [if_pos c11] at H
                    have LMc11 := Aside0.mk c11
                    clear c11
                    obtain ⟨y116, hy116⟩ : ∃ y_ : List ByteArray, y_ = (x3_1 ++ [a0.extract 0 (x7_1 : Int).toNat]) := ⟨_, rfl⟩
                    replace H : (boxes_Above.l0 k1 a0 y116 (a0.size : Int) (wrap64 (x7_1 + 1))) = some r := by first | (rw [hy116]; with_reducible exact H) | (have H2_ := (Option.bind_some _ _).symm.trans H; rw [hy116]; with_reducible exact H2_) | (have H2_ := (Option.bind_some _ _).symm.trans H; with_reducible exact H2_) | with_reducible exact H | (rw [hy116]; exact H) | exact H
                    have Ny116 := Aside0.mk hy116
                    clear hy116
                    have H' := Aside0.mk H
                    clear H
                    have p5 : 0 ≤ (x7_1 : Int) := of_decide_eq_true (by first | (with_reducible assumption) | assumption)
                    have q5 : x7_1 < (a0.size : Int) := of_decide_eq_true (by first | (with_reducible assumption) | assumption)
                    have hx5 := bt_at a0 x7_1
                    replace p5 := eq_true p5
                    replace q5 := eq_true q5
                    have p7 : 0 ≤ (0 : Int) := (by omega)
                    have q7 : 0 < (1 : Int) := (by omega)
                    have hx7 := bt_at (⟨#[47]⟩ : ByteArray) 0
                    have hy7 : (((⟨#[47]⟩ : ByteArray)[0]'(by decide)).toNat : Int) = bt (⟨#[47]⟩ : ByteArray) 0 := rfl
                    replace p7 := eq_true p7
                    replace q7 := eq_true q7
                    go_wp2_with (first | ((with_reducible refine gate_builtin (b := .append) (xs := #[.tmp 15, .tmp 19]) rfl ?_); at_builtin; refine Kd.R_append Kd.string (w0 := w) w.heap.size rfl (.tmp 15) (.tmp 19) 27 9 (.string ⟨#[]⟩) 16 rfl Tryd.underlying27 info9 rfl (by decide) (by omega) u3 x3_1 (a0.extract 0 (x7_1 : Int).toNat) [.string (a0.extract 0 (x7_1 : Int).toNat)] (fun _ => True) (fun _ => False) rfl rfl ?aP (fun _ hk => hk.elim) ?aF ?aO ?aB ?aS ?aL ?_; (case aP => exact rfl); (case aB => exact (by repeat (first | (with_reducible first | exact HB.out | apply below_alloc | apply pw_below_drewN | apply below_drew1) | exact HB.out | exact Below.refl _ _))); (case aF => exact (fun _ _ => trivial)); (case aO => exact (by (with_reducible repeat (first | apply Kd.R_alloc | apply Kd.R_drewN | apply Kd.R_drew)); exact HO_3.out)); (case aS => exact (below_size (by repeat (first | (with_reducible first | exact HB.out | apply below_alloc | apply pw_below_drewN | apply below_drew1) | exact HB.out | exact Below.refl _ _)))); (case aL => have := LMc11.out; omega); intro v117 w12 ho hb hg hat; rw [← Ny116.out] at ho; have n0_ := Aside0.mk (hb); have n1_ := Aside0.mk (ho); clear HB; clear HO_3; have HB := n0_; have HO118 := n1_; clear n0_ n1_; clear ho hb hg hat))
                    repeat (go_quiet (first | ((with_reducible refine gate_builtin (b := .append) (xs := #[.tmp 15, .tmp 19]) rfl ?_); at_builtin; refine Kd.R_append Kd.string (w0 := w) w.heap.size rfl (.tmp 15) (.tmp 19) 27 9 (.string ⟨#[]⟩) 16 rfl Tryd.underlying27 info9 rfl (by decide) (by omega) u3 x3_1 (a0.extract 0 (x7_1 : Int).toNat) [.string (a0.extract 0 (x7_1 : Int).toNat)] (fun _ => True) (fun _ => False) rfl rfl ?aP (fun _ hk => hk.elim) ?aF ?aO ?aB ?aS ?aL ?_; (case aP => exact rfl); (case aB => exact (by repeat (first | (with_reducible first | exact HB.out | apply below_alloc | apply pw_below_drewN | apply below_drew1) | exact HB.out | exact Below.refl _ _))); (case aF => exact (fun _ _ => trivial)); (case aO => exact (by (with_reducible repeat (first | apply Kd.R_alloc | apply Kd.R_drewN | apply Kd.R_drew)); exact HO_3.out)); (case aS => exact (below_size (by repeat (first | (with_reducible first | exact HB.out | apply below_alloc | apply pw_below_drewN | apply below_drew1) | exact HB.out | exact Below.refl _ _)))); (case aL => have := LMc11.out; omega); intro v117 w12 ho hb hg hat; rw [← Ny116.out] at ho; have n0_ := Aside0.mk (hb); have n1_ := Aside0.mk (ho); clear HB; clear HO_3; have HB := n0_; have HO118 := n1_; clear n0_ n1_; clear ho hb hg hat)); try go_wp2_with (first | ((with_reducible refine gate_builtin (b := .append) (xs := #[.tmp 15, .tmp 19]) rfl ?_); at_builtin; refine Kd.R_append Kd.string (w0 := w) w.heap.size rfl (.tmp 15) (.tmp 19) 27 9 (.string ⟨#[]⟩) 16 rfl Tryd.underlying27 info9 rfl (by decide) (by omega) u3 x3_1 (a0.extract 0 (x7_1 : Int).toNat) [.string (a0.extract 0 (x7_1 : Int).toNat)] (fun _ => True) (fun _ => False) rfl rfl ?aP (fun _ hk => hk.elim) ?aF ?aO ?aB ?aS ?aL ?_; (case aP => exact rfl); (case aB => exact (by repeat (first | (with_reducible first | exact HB.out | apply below_alloc | apply pw_below_drewN | apply below_drew1) | exact HB.out | exact Below.refl _ _))); (case aF => exact (fun _ _ => trivial)); (case aO => exact (by (with_reducible repeat (first | apply Kd.R_alloc | apply Kd.R_drewN | apply Kd.R_drew)); exact HO_3.out)); (case aS => exact (below_size (by repeat (first | (with_reducible first | exact HB.out | apply below_alloc | apply pw_below_drewN | apply below_drew1) | exact HB.out | exact Below.refl _ _)))); (case aL => have := LMc11.out; omega); intro v117 w12 ho hb hg hat; rw [← Ny116.out] at ho; have n0_ := Aside0.mk (hb); have n1_ := Aside0.mk (ho); clear HB; clear HO_3; have HB := n0_; have HO118 := n1_; clear n0_ n1_; clear ho hb hg hat)))
                    go_roundg k1
                    case measure => have := HK1.out; omega
                    case rel => exact ⟨(y116), (wrap64 (x7_1 + 1)), (by first | rfl | (simp; done) | (simp [*]; done)), H', ⟨by have := HK1.out; omega⟩, ⟨by (with_reducible repeat (first | apply Kd.R_alloc | apply Kd.R_drewN | apply Kd.R_drew)); exact HO118.out⟩, ⟨by repeat (first | (with_reducible first | exact HB.out | apply below_alloc | apply pw_below_drewN | apply below_drew1) | exact HB.out | exact Below.refl _ _)⟩⟩
                  · rw [if_neg c11] at H
                    exact absurd H (by simp)
                · rw [if_neg c10] at H
                  exact absurd H (by simp)
              · rw [if_neg c8] at H
                have c8b0 : ((bt a0 x7_1) == (bt (⟨#[47]⟩ : ByteArray) 0)) = false := beq_eq_false_iff_ne.mpr c8
                have c8b1 : ((bt a0 x7_1) != (bt (⟨#[47]⟩ : ByteArray) 0)) = true := bne_iff_ne.mpr c8
                have H' := Aside0.mk H
                clear H
                have p5 : 0 ≤ (x7_1 : Int) := of_decide_eq_true (by first | (with_reducible assumption) | assumption)
                have q5 : x7_1 < (a0.size : Int) := of_decide_eq_true (by first | (with_reducible assumption) | assumption)
                have hx5 := bt_at a0 x7_1
                replace p5 := eq_true p5
                replace q5 := eq_true q5
                have p7 : 0 ≤ (0 : Int) := (by omega)
                have q7 : 0 < (1 : Int) := (by omega)
                have hx7 := bt_at (⟨#[47]⟩ : ByteArray) 0
                have hy7 : (((⟨#[47]⟩ : ByteArray)[0]'(by decide)).toNat : Int) = bt (⟨#[47]⟩ : ByteArray) 0 := rfl
                replace p7 := eq_true p7
                replace q7 := eq_true q7
                go_wp2
                repeat (go_quiet (fail); try go_wp2)
                go_roundg k1
                case measure => have := HK1.out; omega
                case rel => exact ⟨(x3_1), (wrap64 (x7_1 + 1)), (by first | rfl | (simp; done) | (simp [*]; done)), H', ⟨by have := HK1.out; omega⟩, ⟨by (with_reducible repeat (first | apply Kd.R_alloc | apply Kd.R_drewN | apply Kd.R_drew)); exact HO_3.out⟩, ⟨by repeat (first | (with_reducible first | exact HB.out | apply below_alloc | apply pw_below_drewN | apply below_drew1) | exact HB.out | exact Below.refl _ _)⟩⟩
            · rw [if_neg c6] at H
              exact absurd H (by simp)
          · rw [if_neg c4] at H
            exact absurd H (by simp)
        · rw [if_neg c3] at H
          exact absurd H (by simp)
      · rw [if_neg c2] at H
        have c2b0 : decide (x7_1 < (a0.size : Int)) = false := decide_eq_false c2
        clear c2
        obtain rfl := Option.some.inj H
        go_wp2
        repeat (go_quiet (fail); try go_wp2)
        go_ret
        exact ⟨_, by first | rfl | (simp [errW_none, errW_some] <;> rfl) | (simp [*, errW_none, errW_some] <;> rfl), by (with_reducible repeat (first | apply Kd.R_alloc | apply Kd.R_drewN | apply Kd.R_drew)); exact HO_3.out, by repeat (first | (with_reducible first | exact HB.out | apply below_alloc | apply pw_below_drewN | apply below_drew1) | exact HB.out | exact Below.refl _ _)⟩

/-! ### postbaglaw13_BoxesUnder: function 3 -/
def postbaglaw13_BoxesUnder.l0 : Nat → ByteArray → List ByteArray → Int → Int → Option (Bool)
  | 0, _, _, _, _ => none
  | k + 1, x0, x24, x25, x26 => if x26 < x25 then (if 0 ≤ x26 then (if x26 < (x24.length : Int) then ((boxes_Moved.f x0 (rdOf ByteArray.empty x24 x26) (⟨#[122, 122]⟩ : ByteArray)).bind fun bt128 => ((boxes_Moved.f bt128.1 (⟨#[122, 122]⟩ : ByteArray) (rdOf ByteArray.empty x24 x26)).bind fun bt130 => ((boxes_Under.f x0 (rdOf ByteArray.empty x24 x26)).bind fun t132 => (if t132 = true then (if bt128.2 = true then (if bt130.2 = true then (if bt130.1.toList = x0.toList then (if (bt128.1.size : Int) = (wrap64 ((wrap64 ((x0.size : Int) - ((rdOf ByteArray.empty x24 x26).size : Int))) + 2)) then (postbaglaw13_BoxesUnder.l0 k x0 x24 x25 (wrap64 (x26 + 1))) else (some false)) else (some false)) else (some false)) else (some false)) else (some false))))) else (none)) else (none)) else ((boxes_Under.f x0 x0).bind fun t126 => (some (!t126)))
def postbaglaw13_BoxesUnder.f (k : Nat) (a0 : ByteArray) : Option (Bool) := (postbaglaw13_alive.f).bind fun t119 => (if t119 = true then (if (a0.size : Int) > 200 then (some true) else ((boxes_Name.f a0).bind fun bt120 => (if bt120.2.isNone = true then ((boxes_Above.f k a0).bind fun t123 => (postbaglaw13_BoxesUnder.l0 k a0 t123 (t123.length : Int) 0)) else (some true)))) else (some false))
theorem postbaglaw13_BoxesUnder.mono_l : ∀ k, (∀ y0 y1 y2 y3, LeO (postbaglaw13_BoxesUnder.l0 k y0 y1 y2 y3) (postbaglaw13_BoxesUnder.l0 (k + 1) y0 y1 y2 y3))
  | 0 => fun _ _ _ _ r h => by simp [postbaglaw13_BoxesUnder.l0] at h
  | k + 1 => by
    have ih0 := postbaglaw13_BoxesUnder.mono_l k
    · intro y0 y1 y2 y3
      unfold postbaglaw13_BoxesUnder.l0
      repeat' first
      | (with_reducible exact ih0 _ _ _ _)
      | (with_reducible exact boxes_Above.mono _ _)
      | (with_reducible exact LeO.refl _)
      | (with_reducible exact LeO.none _)
      | (with_reducible refine LeO.ite ?_ ?_)
      | (with_reducible refine LeO.bind ?_ (fun _ => ?_))
      | exact ih0 _ _ _ _
      | exact boxes_Above.mono _ _
      | exact LeO.none _
      | refine LeO.ite ?_ ?_
      | refine LeO.bind ?_ (fun _ => ?_)
theorem postbaglaw13_BoxesUnder.mono : ∀ a0 k, LeO (postbaglaw13_BoxesUnder.f k a0) (postbaglaw13_BoxesUnder.f (k + 1) a0) := by
  intro a0 k
  have ih0 := postbaglaw13_BoxesUnder.mono_l k
  unfold postbaglaw13_BoxesUnder.f
  repeat' first
      | (with_reducible exact ih0 _ _ _ _)
      | (with_reducible exact boxes_Above.mono _ _)
      | (with_reducible exact LeO.refl _)
      | (with_reducible exact LeO.none _)
      | (with_reducible refine LeO.ite ?_ ?_)
      | (with_reducible refine LeO.bind ?_ (fun _ => ?_))
      | exact ih0 _ _ _ _
      | exact boxes_Above.mono _ _
      | exact LeO.none _
      | refine LeO.ite ?_ ?_
      | refine LeO.bind ?_ (fun _ => ?_)
set_option maxHeartbeats 8000000 in
set_option maxRecDepth 100000 in
theorem postbaglaw13_BoxesUnder.calls (E : Int → Addr) (k : Nat) (a0 : ByteArray) (r : Bool) (w : World) (hE : SentEnv (fun c => c = 4) w E) (h : postbaglaw13_BoxesUnder.f k a0 = some r) :
    Calls Tryd.prog 3 #[.string a0] w fun e w' => e = .returned (.bool r) ∧ Below w.heap.size w w' := by
  have HE := Aside0.mk hE
  clear hE
  have hu24 := Tryd.underlying24
  have HB := Aside0.mk (Below.refl w.heap.size w)
  have H : ((postbaglaw13_alive.f).bind fun t119 => (if t119 = true then (if (a0.size : Int) > 200 then (some true) else ((boxes_Name.f a0).bind fun bt120 => (if bt120.2.isNone = true then ((boxes_Above.f k a0).bind fun t123 => (postbaglaw13_BoxesUnder.l0 k a0 t123 (t123.length : Int) 0)) else (some true)))) else (some false))) = some r := h
  clear h
  replace H := Option.bind_eq_some_iff.mp H
  obtain ⟨t119, A20, H⟩ := H
  replace H : (if t119 = true then (if (a0.size : Int) > 200 then (some true) else ((boxes_Name.f a0).bind fun bt120 => (if bt120.2.isNone = true then ((boxes_Above.f k a0).bind fun t123 => (postbaglaw13_BoxesUnder.l0 k a0 t123 (t123.length : Int) 0)) else (some true)))) else (some false)) = some r := H
  have A2 := Aside0.mk A20
  clear A20
  by_cases c3 : t119 = true
  · subst c3
    have H1 : (if (a0.size : Int) > 200 then (some true) else ((boxes_Name.f a0).bind fun bt120 => (if bt120.2.isNone = true then ((boxes_Above.f k a0).bind fun t123 => (postbaglaw13_BoxesUnder.l0 k a0 t123 (t123.length : Int) 0)) else (some true)))) = some r := by rw [if_pos rfl] at H; exact H
    clear H
    have H := H1
    clear H1
    by_cases c4 : (a0.size : Int) > 200
    · rw [if_pos c4] at H
      have c4b0 : decide (200 < (a0.size : Int)) = true := decide_eq_true c4
      have c4b1 : decide (200 < a0.size) = true := decide_eq_true (by omega)
      clear c4
      obtain rfl := Option.some.inj H
      go_enter Tryd.func3, Tryd.ntmps3
      go_wp2_with (first | ((with_reducible refine gate_callee (f := 5) rfl ?_); refine goesL_ (some 11) rfl rfl Tryd.func5 (by kernel_rfl) rfl #[] rfl (by (try simp only [List.map_toArray, List.map_cons, List.map_nil]); first | done | rfl | (simp only [List.length_drop, List.length_take]; rfl)) ?_; (with_reducible refine (postbaglaw13_alive.calls  true _ A2.out).mono ?_); rintro e w5 ⟨rfl, hb⟩; refine ⟨_, rfl, ?_⟩; have n0_ := Aside0.mk (below_step (by repeat (first | (with_reducible first | exact HB.out | apply below_alloc | apply pw_below_drewN | apply below_drew1) | exact HB.out | exact Below.refl _ _)) hb); clear HB; have HB := n0_; clear n0_; (try clear hb); (try clear hb2); (try clear hk); (try clear hi)))
      go_ret
      exact ⟨by first | rfl | (simp [Is.errV_none, Is.errV_some] <;> rfl) | (simp [*, Is.errV_none, Is.errV_some] <;> rfl), by repeat (first | (with_reducible first | exact HB.out | apply below_alloc | apply pw_below_drewN | apply below_drew1) | exact HB.out | exact Below.refl _ _)⟩
    · rw [if_neg c4] at H
      have c4b0 : decide (200 < (a0.size : Int)) = false := decide_eq_false c4
      have c4b1 : decide (200 < a0.size) = false := decide_eq_false (by omega)
      clear c4
      replace H := Option.bind_eq_some_iff.mp H
      obtain ⟨⟨t120, t121⟩, A60, H⟩ := H
      replace H : (if t121.isNone = true then ((boxes_Above.f k a0).bind fun t123 => (postbaglaw13_BoxesUnder.l0 k a0 t123 (t123.length : Int) 0)) else (some true)) = some r := H
      have A6 := Aside0.mk A60
      clear A60
      rcases t121 with _ | q122
      · have H1 : ((boxes_Above.f k a0).bind fun t123 => (postbaglaw13_BoxesUnder.l0 k a0 t123 (t123.length : Int) 0)) = some r := by rw [if_pos (show (none : Option Int).isNone = true by rfl)] at H; exact H
        clear H
        have H := H1
        clear H1
        try simp only [Is.errV_none, Is.errV_some]
        replace H := Option.bind_eq_some_iff.mp H
        obtain ⟨t123, A70, H⟩ := H
        replace H : (postbaglaw13_BoxesUnder.l0 k a0 t123 (t123.length : Int) 0) = some r := H
        have A7 := Aside0.mk A70
        clear A70
        have H' := Aside0.mk H
        clear H
        go_enter Tryd.func3, Tryd.ntmps3
        go_wp2_with (first | ((with_reducible refine gate_callee (f := 5) rfl ?_); refine goesL_ (some 11) rfl rfl Tryd.func5 (by kernel_rfl) rfl #[] rfl (by (try simp only [List.map_toArray, List.map_cons, List.map_nil]); first | done | rfl | (simp only [List.length_drop, List.length_take]; rfl)) ?_; (with_reducible refine (postbaglaw13_alive.calls  true _ A2.out).mono ?_); rintro e w8 ⟨rfl, hb⟩; refine ⟨_, rfl, ?_⟩; have n0_ := Aside0.mk (below_step (by repeat (first | (with_reducible first | exact HB.out | apply below_alloc | apply pw_below_drewN | apply below_drew1) | exact HB.out | exact Below.refl _ _)) hb); clear HB; have HB := n0_; clear n0_; (try clear hb); (try clear hb2); (try clear hk); (try clear hi)) | ((with_reducible refine gate_callee (f := 6) rfl ?_); refine goesL_ (some 18) rfl rfl Tryd.func6 (by kernel_rfl) rfl #[.string a0] rfl (by (try simp only [List.map_toArray, List.map_cons, List.map_nil]); first | done | rfl | (simp only [List.length_drop, List.length_take]; rfl)) ?_; (with_reducible refine (boxes_Name.calls (S := (fun c => c = 4)) (by first | rfl | exact ⟨by decide, by decide⟩) E a0 t120 none _ (HE.out.below (by repeat (first | (with_reducible first | exact HB.out | apply below_alloc | apply pw_below_drewN | apply below_drew1) | exact HB.out | exact Below.refl _ _))) A6.out).mono ?_); rintro e w9 ⟨rfl, hb⟩; refine ⟨_, rfl, ?_⟩; have n0_ := Aside0.mk (below_step (by repeat (first | (with_reducible first | exact HB.out | apply below_alloc | apply pw_below_drewN | apply below_drew1) | exact HB.out | exact Below.refl _ _)) hb); clear HB; have HB := n0_; clear n0_; (try clear hb); (try clear hb2); (try clear hk); (try clear hi); (try simp only [Is.errV_none, Is.errV_some])) | ((with_reducible refine gate_callee (f := 7) rfl ?_); refine goesL_ (some 24) rfl rfl Tryd.func7 (by kernel_rfl) rfl #[.string a0] rfl (by (try simp only [List.map_toArray, List.map_cons, List.map_nil]); first | done | rfl | (simp only [List.length_drop, List.length_take]; rfl)) ?_; (with_reducible refine (boxes_Above.calls k a0 t123 _ A7.out).mono ?_); rintro e w10 ⟨v124, rfl, ho0, hb⟩; refine ⟨_, rfl, ?_⟩; have n0_ := Aside0.mk (Kd.R_lower ho0 (below_size (by repeat (first | (with_reducible first | exact HB.out | apply below_alloc | apply pw_below_drewN | apply below_drew1) | exact HB.out | exact Below.refl _ _)))); have n1_ := Aside0.mk (below_step (by repeat (first | (with_reducible first | exact HB.out | apply below_alloc | apply pw_below_drewN | apply below_drew1) | exact HB.out | exact Below.refl _ _)) hb); clear HB; have HO125 := n0_; have HB := n1_; clear n0_ n1_; (try clear hb); (try clear hb2); (try clear hk); (try clear hi); (try clear ho0); obtain ⟨Ao11, co11, eo11⟩ := Kd.R_slice HO125.out; subst eo11))
        go_loopg [26] k (fun kq v26 w' => ∃ (x26_1 : Int), v26 = .int .i64 x26_1 ∧ Aside0 (postbaglaw13_BoxesUnder.l0 kq a0 t123 (t123.length : Int) x26_1 = some r) ∧ Aside0 (kq ≤ k) ∧ Aside0 (Kd.R Kd.string 9 w' w.heap.size (fun _ => True) (.slice Ao11 t123.length co11) t123) ∧ Aside0 (Below w.heap.size w w'))
        case atStart => exact ⟨(0), (by first | rfl | (simp; done) | (simp [*]; done)), H', ⟨Nat.le_refl _⟩, ⟨by (with_reducible repeat (first | apply Kd.R_alloc | apply Kd.R_drewN | apply Kd.R_drew)); exact HO125.out⟩, ⟨by repeat (first | (with_reducible first | exact HB.out | apply below_alloc | apply pw_below_drewN | apply below_drew1) | exact HB.out | exact Below.refl _ _)⟩⟩
        case round =>
          clear H'
          try clear q1
          try clear p2
          try clear c3
          try clear c4
          try clear c4b0
          try clear c4b1
          try clear c5
          try clear c6
          try clear c7
          try clear q122
          obtain ⟨x26_1, rfl, HA, HK1, HO_24, HB⟩ := hrel
          cases gk with
          | zero => exact absurd HA.out (by simp [postbaglaw13_BoxesUnder.l0])
          | succ k1 =>
            have H := HA.out
            clear HA
            simp only [postbaglaw13_BoxesUnder.l0] at H
            by_cases c12 : x26_1 < (t123.length : Int)
            · rw [if_pos c12] at H
              have c12b0 : decide (x26_1 < (t123.length : Int)) = true := decide_eq_true c12
              clear c12
              by_cases c13 : 0 ≤ x26_1
              · rw [if_pos c13] at H
                have c13b0 : decide (0 ≤ x26_1) = true := decide_eq_true c13
                clear c13
                by_cases c14 : x26_1 < (t123.length : Int)
                · rw [if_pos c14] at H
                  have c14b0 : decide (x26_1 < (t123.length : Int)) = true := decide_eq_true c14
                  clear c14
                  replace H := Option.bind_eq_some_iff.mp H
                  obtain ⟨⟨t128, t129⟩, A150, H⟩ := H
                  replace H : ((boxes_Moved.f t128 (⟨#[122, 122]⟩ : ByteArray) (rdOf ByteArray.empty t123 x26_1)).bind fun bt130 => ((boxes_Under.f a0 (rdOf ByteArray.empty t123 x26_1)).bind fun t132 => (if t132 = true then (if t129 = true then (if bt130.2 = true then (if bt130.1.toList = a0.toList then (if (t128.size : Int) = (wrap64 ((wrap64 ((a0.size : Int) - ((rdOf ByteArray.empty t123 x26_1).size : Int))) + 2)) then (postbaglaw13_BoxesUnder.l0 k1 a0 t123 (t123.length : Int) (wrap64 (x26_1 + 1))) else (some false)) else (some false)) else (some false)) else (some false)) else (some false)))) = some r := H
                  have A15 := Aside0.mk A150
                  clear A150
                  replace H := Option.bind_eq_some_iff.mp H
                  obtain ⟨⟨t130, t131⟩, A160, H⟩ := H
                  replace H : ((boxes_Under.f a0 (rdOf ByteArray.empty t123 x26_1)).bind fun t132 => (if t132 = true then (if t129 = true then (if t131 = true then (if t130.toList = a0.toList then (if (t128.size : Int) = (wrap64 ((wrap64 ((a0.size : Int) - ((rdOf ByteArray.empty t123 x26_1).size : Int))) + 2)) then (postbaglaw13_BoxesUnder.l0 k1 a0 t123 (t123.length : Int) (wrap64 (x26_1 + 1))) else (some false)) else (some false)) else (some false)) else (some false)) else (some false))) = some r := H
                  have A16 := Aside0.mk A160
                  clear A160
                  replace H := Option.bind_eq_some_iff.mp H
                  obtain ⟨t132, A170, H⟩ := H
                  replace H : (if t132 = true then (if t129 = true then (if t131 = true then (if t130.toList = a0.toList then (if (t128.size : Int) = (wrap64 ((wrap64 ((a0.size : Int) - ((rdOf ByteArray.empty t123 x26_1).size : Int))) + 2)) then (postbaglaw13_BoxesUnder.l0 k1 a0 t123 (t123.length : Int) (wrap64 (x26_1 + 1))) else (some false)) else (some false)) else (some false)) else (some false)) else (some false)) = some r := H
                  have A17 := Aside0.mk A170
                  clear A170
                  by_cases c18 : t132 = true
                  · subst c18
                    have H1 : (if t129 = true then (if t131 = true then (if t130.toList = a0.toList then (if (t128.size : Int) = (wrap64 ((wrap64 ((a0.size : Int) - ((rdOf ByteArray.empty t123 x26_1).size : Int))) + 2)) then (postbaglaw13_BoxesUnder.l0 k1 a0 t123 (t123.length : Int) (wrap64 (x26_1 + 1))) else (some false)) else (some false)) else (some false)) else (some false)) = some r := by rw [if_pos rfl] at H; exact H
                    clear H
                    have H := H1
                    clear H1
                    by_cases c19 : t129 = true
                    · subst c19
                      have H1 : (if t131 = true then (if t130.toList = a0.toList then (if (t128.size : Int) = (wrap64 ((wrap64 ((a0.size : Int) - ((rdOf ByteArray.empty t123 x26_1).size : Int))) + 2)) then (postbaglaw13_BoxesUnder.l0 k1 a0 t123 (t123.length : Int) (wrap64 (x26_1 + 1))) else (some false)) else (some false)) else (some false)) = some r := by rw [if_pos rfl] at H; exact H
                      clear H
                      have H := H1
                      clear H1
                      by_cases c20 : t131 = true
                      · subst c20
                        have H1 : (if t130.toList = a0.toList then (if (t128.size : Int) = (wrap64 ((wrap64 ((a0.size : Int) - ((rdOf ByteArray.empty t123 x26_1).size : Int))) + 2)) then (postbaglaw13_BoxesUnder.l0 k1 a0 t123 (t123.length : Int) (wrap64 (x26_1 + 1))) else (some false)) else (some false)) = some r := by rw [if_pos rfl] at H; exact H
                        clear H
                        have H := H1
                        clear H1
                        by_cases c21 : t130.toList = a0.toList
                        · rw [if_pos c21] at H
                          have c21b0 : (t130.toList == a0.toList) = true := beq_iff_eq.mpr c21
                          have c21b1 : (t130.toList != a0.toList) = false := bne_eq_false_iff_eq.mpr c21
                          clear c21
                          by_cases c22 : (t128.size : Int) = (wrap64 ((wrap64 ((a0.size : Int) - ((rdOf ByteArray.empty t123 x26_1).size : Int))) + 2))
                          · rw [if_pos c22] at H
                            have c22b0 : ((t128.size : Int) == (wrap64 ((wrap64 ((a0.size : Int) - ((rdOf ByteArray.empty t123 x26_1).size : Int))) + 2))) = true := beq_iff_eq.mpr c22
                            have c22b1 : ((t128.size : Int) != (wrap64 ((wrap64 ((a0.size : Int) - ((rdOf ByteArray.empty t123 x26_1).size : Int))) + 2))) = false := bne_eq_false_iff_eq.mpr c22
                            clear c22
                            have H' := Aside0.mk H
                            clear H
                            have p127 : 0 ≤ (x26_1 : Int) := of_decide_eq_true (by first | (with_reducible assumption) | assumption)
                            have q127 : x26_1 < (t123.length : Int) := of_decide_eq_true (by first | (with_reducible assumption) | assumption)
                            obtain ⟨ad127, e127, hx127_0⟩ := Kd.at_string (Kd.R_reads' HO_24.out).2.2 x26_1 p127 q127
                            cases e127
                            replace p127 := eq_true p127
                            replace q127 := eq_true q127
                            go_wp2_with (first | ((with_reducible refine gate_callee (f := 8) rfl ?_); refine goesL_ (some 33) rfl rfl Tryd.func8 (by kernel_rfl) rfl #[.string a0, .string (rdOf ByteArray.empty t123 x26_1), .string (⟨#[122, 122]⟩ : ByteArray)] rfl (by (try simp only [List.map_toArray, List.map_cons, List.map_nil]); first | done | rfl | (simp only [List.length_drop, List.length_take]; rfl)) ?_; (with_reducible refine (boxes_Moved.calls a0 (rdOf ByteArray.empty t123 x26_1) (⟨#[122, 122]⟩ : ByteArray) t128 true _ A15.out).mono ?_); rintro e w' ⟨rfl, ⟨nd, rfl⟩⟩; refine ⟨_, rfl, ?_⟩) | ((with_reducible refine gate_callee (f := 8) rfl ?_); refine goesL_ (some 39) rfl rfl Tryd.func8 (by kernel_rfl) rfl #[.string t128, .string (⟨#[122, 122]⟩ : ByteArray), .string (rdOf ByteArray.empty t123 x26_1)] rfl (by (try simp only [List.map_toArray, List.map_cons, List.map_nil]); first | done | rfl | (simp only [List.length_drop, List.length_take]; rfl)) ?_; (with_reducible refine (boxes_Moved.calls t128 (⟨#[122, 122]⟩ : ByteArray) (rdOf ByteArray.empty t123 x26_1) t130 true _ A16.out).mono ?_); rintro e w' ⟨rfl, ⟨nd, rfl⟩⟩; refine ⟨_, rfl, ?_⟩) | ((with_reducible refine gate_callee (f := 9) rfl ?_); refine goesL_ (some 44) rfl rfl Tryd.func9 (by kernel_rfl) rfl #[.string a0, .string (rdOf ByteArray.empty t123 x26_1)] rfl (by (try simp only [List.map_toArray, List.map_cons, List.map_nil]); first | done | rfl | (simp only [List.length_drop, List.length_take]; rfl)) ?_; (with_reducible refine (boxes_Under.calls a0 (rdOf ByteArray.empty t123 x26_1) true _ A17.out).mono ?_); rintro e w' ⟨rfl, ⟨nd, rfl⟩⟩; refine ⟨_, rfl, ?_⟩))
                            go_roundg k1
                            case measure => have := HK1.out; omega
                            case rel => exact ⟨(wrap64 (x26_1 + 1)), (by first | rfl | (simp; done) | (simp [*]; done)), H', ⟨by have := HK1.out; omega⟩, ⟨by (with_reducible repeat (first | apply Kd.R_alloc | apply Kd.R_drewN | apply Kd.R_drew)); exact HO_24.out⟩, ⟨by repeat (first | (with_reducible first | exact HB.out | apply below_alloc | apply pw_below_drewN | apply below_drew1) | exact HB.out | exact Below.refl _ _)⟩⟩
                          · rw [if_neg c22] at H
                            have c22b0 : ((t128.size : Int) == (wrap64 ((wrap64 ((a0.size : Int) - ((rdOf ByteArray.empty t123 x26_1).size : Int))) + 2))) = false := beq_eq_false_iff_ne.mpr c22
                            have c22b1 : ((t128.size : Int) != (wrap64 ((wrap64 ((a0.size : Int) - ((rdOf ByteArray.empty t123 x26_1).size : Int))) + 2))) = true := bne_iff_ne.mpr c22
                            obtain rfl := Option.some.inj H
                            have p127 : 0 ≤ (x26_1 : Int) := of_decide_eq_true (by first | (with_reducible assumption) | assumption)
                            have q127 : x26_1 < (t123.length : Int) := of_decide_eq_true (by first | (with_reducible assumption) | assumption)
                            obtain ⟨ad127, e127, hx127_0⟩ := Kd.at_string (Kd.R_reads' HO_24.out).2.2 x26_1 p127 q127
                            cases e127
                            replace p127 := eq_true p127
                            replace q127 := eq_true q127
                            go_wp2_with (first | ((with_reducible refine gate_callee (f := 8) rfl ?_); refine goesL_ (some 33) rfl rfl Tryd.func8 (by kernel_rfl) rfl #[.string a0, .string (rdOf ByteArray.empty t123 x26_1), .string (⟨#[122, 122]⟩ : ByteArray)] rfl (by (try simp only [List.map_toArray, List.map_cons, List.map_nil]); first | done | rfl | (simp only [List.length_drop, List.length_take]; rfl)) ?_; (with_reducible refine (boxes_Moved.calls a0 (rdOf ByteArray.empty t123 x26_1) (⟨#[122, 122]⟩ : ByteArray) t128 true _ A15.out).mono ?_); rintro e w' ⟨rfl, ⟨nd, rfl⟩⟩; refine ⟨_, rfl, ?_⟩) | ((with_reducible refine gate_callee (f := 8) rfl ?_); refine goesL_ (some 39) rfl rfl Tryd.func8 (by kernel_rfl) rfl #[.string t128, .string (⟨#[122, 122]⟩ : ByteArray), .string (rdOf ByteArray.empty t123 x26_1)] rfl (by (try simp only [List.map_toArray, List.map_cons, List.map_nil]); first | done | rfl | (simp only [List.length_drop, List.length_take]; rfl)) ?_; (with_reducible refine (boxes_Moved.calls t128 (⟨#[122, 122]⟩ : ByteArray) (rdOf ByteArray.empty t123 x26_1) t130 true _ A16.out).mono ?_); rintro e w' ⟨rfl, ⟨nd, rfl⟩⟩; refine ⟨_, rfl, ?_⟩) | ((with_reducible refine gate_callee (f := 9) rfl ?_); refine goesL_ (some 44) rfl rfl Tryd.func9 (by kernel_rfl) rfl #[.string a0, .string (rdOf ByteArray.empty t123 x26_1)] rfl (by (try simp only [List.map_toArray, List.map_cons, List.map_nil]); first | done | rfl | (simp only [List.length_drop, List.length_take]; rfl)) ?_; (with_reducible refine (boxes_Under.calls a0 (rdOf ByteArray.empty t123 x26_1) true _ A17.out).mono ?_); rintro e w' ⟨rfl, ⟨nd, rfl⟩⟩; refine ⟨_, rfl, ?_⟩))
                            go_ret
                            exact ⟨by first | rfl | (simp [Is.errV_none, Is.errV_some] <;> rfl) | (simp [*, Is.errV_none, Is.errV_some] <;> rfl), by repeat (first | (with_reducible first | exact HB.out | apply below_alloc | apply pw_below_drewN | apply below_drew1) | exact HB.out | exact Below.refl _ _)⟩
                        · rw [if_neg c21] at H
                          have c21b0 : (t130.toList == a0.toList) = false := beq_eq_false_iff_ne.mpr c21
                          have c21b1 : (t130.toList != a0.toList) = true := bne_iff_ne.mpr c21
                          obtain rfl := Option.some.inj H
                          have p127 : 0 ≤ (x26_1 : Int) := of_decide_eq_true (by first | (with_reducible assumption) | assumption)
                          have q127 : x26_1 < (t123.length : Int) := of_decide_eq_true (by first | (with_reducible assumption) | assumption)
                          obtain ⟨ad127, e127, hx127_0⟩ := Kd.at_string (Kd.R_reads' HO_24.out).2.2 x26_1 p127 q127
                          cases e127
                          replace p127 := eq_true p127
                          replace q127 := eq_true q127
                          go_wp2_with (first | ((with_reducible refine gate_callee (f := 8) rfl ?_); refine goesL_ (some 33) rfl rfl Tryd.func8 (by kernel_rfl) rfl #[.string a0, .string (rdOf ByteArray.empty t123 x26_1), .string (⟨#[122, 122]⟩ : ByteArray)] rfl (by (try simp only [List.map_toArray, List.map_cons, List.map_nil]); first | done | rfl | (simp only [List.length_drop, List.length_take]; rfl)) ?_; (with_reducible refine (boxes_Moved.calls a0 (rdOf ByteArray.empty t123 x26_1) (⟨#[122, 122]⟩ : ByteArray) t128 true _ A15.out).mono ?_); rintro e w' ⟨rfl, ⟨nd, rfl⟩⟩; refine ⟨_, rfl, ?_⟩) | ((with_reducible refine gate_callee (f := 8) rfl ?_); refine goesL_ (some 39) rfl rfl Tryd.func8 (by kernel_rfl) rfl #[.string t128, .string (⟨#[122, 122]⟩ : ByteArray), .string (rdOf ByteArray.empty t123 x26_1)] rfl (by (try simp only [List.map_toArray, List.map_cons, List.map_nil]); first | done | rfl | (simp only [List.length_drop, List.length_take]; rfl)) ?_; (with_reducible refine (boxes_Moved.calls t128 (⟨#[122, 122]⟩ : ByteArray) (rdOf ByteArray.empty t123 x26_1) t130 true _ A16.out).mono ?_); rintro e w' ⟨rfl, ⟨nd, rfl⟩⟩; refine ⟨_, rfl, ?_⟩) | ((with_reducible refine gate_callee (f := 9) rfl ?_); refine goesL_ (some 44) rfl rfl Tryd.func9 (by kernel_rfl) rfl #[.string a0, .string (rdOf ByteArray.empty t123 x26_1)] rfl (by (try simp only [List.map_toArray, List.map_cons, List.map_nil]); first | done | rfl | (simp only [List.length_drop, List.length_take]; rfl)) ?_; (with_reducible refine (boxes_Under.calls a0 (rdOf ByteArray.empty t123 x26_1) true _ A17.out).mono ?_); rintro e w' ⟨rfl, ⟨nd, rfl⟩⟩; refine ⟨_, rfl, ?_⟩))
                          go_ret
                          exact ⟨by first | rfl | (simp [Is.errV_none, Is.errV_some] <;> rfl) | (simp [*, Is.errV_none, Is.errV_some] <;> rfl), by repeat (first | (with_reducible first | exact HB.out | apply below_alloc | apply pw_below_drewN | apply below_drew1) | exact HB.out | exact Below.refl _ _)⟩
                      · replace c20 := Bool.eq_false_iff.mpr c20
                        subst c20
                        have H1 : (some false) = some r := by rw [if_neg (show ¬ (false = true) by decide)] at H; exact H
                        clear H
                        have H := H1
                        clear H1
                        obtain rfl := Option.some.inj H
                        have p127 : 0 ≤ (x26_1 : Int) := of_decide_eq_true (by first | (with_reducible assumption) | assumption)
                        have q127 : x26_1 < (t123.length : Int) := of_decide_eq_true (by first | (with_reducible assumption) | assumption)
                        obtain ⟨ad127, e127, hx127_0⟩ := Kd.at_string (Kd.R_reads' HO_24.out).2.2 x26_1 p127 q127
                        cases e127
                        replace p127 := eq_true p127
                        replace q127 := eq_true q127
                        go_wp2_with (first | ((with_reducible refine gate_callee (f := 8) rfl ?_); refine goesL_ (some 33) rfl rfl Tryd.func8 (by kernel_rfl) rfl #[.string a0, .string (rdOf ByteArray.empty t123 x26_1), .string (⟨#[122, 122]⟩ : ByteArray)] rfl (by (try simp only [List.map_toArray, List.map_cons, List.map_nil]); first | done | rfl | (simp only [List.length_drop, List.length_take]; rfl)) ?_; (with_reducible refine (boxes_Moved.calls a0 (rdOf ByteArray.empty t123 x26_1) (⟨#[122, 122]⟩ : ByteArray) t128 true _ A15.out).mono ?_); rintro e w' ⟨rfl, ⟨nd, rfl⟩⟩; refine ⟨_, rfl, ?_⟩) | ((with_reducible refine gate_callee (f := 8) rfl ?_); refine goesL_ (some 39) rfl rfl Tryd.func8 (by kernel_rfl) rfl #[.string t128, .string (⟨#[122, 122]⟩ : ByteArray), .string (rdOf ByteArray.empty t123 x26_1)] rfl (by (try simp only [List.map_toArray, List.map_cons, List.map_nil]); first | done | rfl | (simp only [List.length_drop, List.length_take]; rfl)) ?_; (with_reducible refine (boxes_Moved.calls t128 (⟨#[122, 122]⟩ : ByteArray) (rdOf ByteArray.empty t123 x26_1) t130 false _ A16.out).mono ?_); rintro e w' ⟨rfl, ⟨nd, rfl⟩⟩; refine ⟨_, rfl, ?_⟩) | ((with_reducible refine gate_callee (f := 9) rfl ?_); refine goesL_ (some 44) rfl rfl Tryd.func9 (by kernel_rfl) rfl #[.string a0, .string (rdOf ByteArray.empty t123 x26_1)] rfl (by (try simp only [List.map_toArray, List.map_cons, List.map_nil]); first | done | rfl | (simp only [List.length_drop, List.length_take]; rfl)) ?_; (with_reducible refine (boxes_Under.calls a0 (rdOf ByteArray.empty t123 x26_1) true _ A17.out).mono ?_); rintro e w' ⟨rfl, ⟨nd, rfl⟩⟩; refine ⟨_, rfl, ?_⟩))
                        go_ret
                        exact ⟨by first | rfl | (simp [Is.errV_none, Is.errV_some] <;> rfl) | (simp [*, Is.errV_none, Is.errV_some] <;> rfl), by repeat (first | (with_reducible first | exact HB.out | apply below_alloc | apply pw_below_drewN | apply below_drew1) | exact HB.out | exact Below.refl _ _)⟩
                    · replace c19 := Bool.eq_false_iff.mpr c19
                      subst c19
                      have H1 : (some false) = some r := by rw [if_neg (show ¬ (false = true) by decide)] at H; exact H
                      clear H
                      have H := H1
                      clear H1
                      obtain rfl := Option.some.inj H
                      have p127 : 0 ≤ (x26_1 : Int) := of_decide_eq_true (by first | (with_reducible assumption) | assumption)
                      have q127 : x26_1 < (t123.length : Int) := of_decide_eq_true (by first | (with_reducible assumption) | assumption)
                      obtain ⟨ad127, e127, hx127_0⟩ := Kd.at_string (Kd.R_reads' HO_24.out).2.2 x26_1 p127 q127
                      cases e127
                      replace p127 := eq_true p127
                      replace q127 := eq_true q127
                      go_wp2_with (first | ((with_reducible refine gate_callee (f := 8) rfl ?_); refine goesL_ (some 33) rfl rfl Tryd.func8 (by kernel_rfl) rfl #[.string a0, .string (rdOf ByteArray.empty t123 x26_1), .string (⟨#[122, 122]⟩ : ByteArray)] rfl (by (try simp only [List.map_toArray, List.map_cons, List.map_nil]); first | done | rfl | (simp only [List.length_drop, List.length_take]; rfl)) ?_; (with_reducible refine (boxes_Moved.calls a0 (rdOf ByteArray.empty t123 x26_1) (⟨#[122, 122]⟩ : ByteArray) t128 false _ A15.out).mono ?_); rintro e w' ⟨rfl, ⟨nd, rfl⟩⟩; refine ⟨_, rfl, ?_⟩) | ((with_reducible refine gate_callee (f := 8) rfl ?_); refine goesL_ (some 39) rfl rfl Tryd.func8 (by kernel_rfl) rfl #[.string t128, .string (⟨#[122, 122]⟩ : ByteArray), .string (rdOf ByteArray.empty t123 x26_1)] rfl (by (try simp only [List.map_toArray, List.map_cons, List.map_nil]); first | done | rfl | (simp only [List.length_drop, List.length_take]; rfl)) ?_; (with_reducible refine (boxes_Moved.calls t128 (⟨#[122, 122]⟩ : ByteArray) (rdOf ByteArray.empty t123 x26_1) t130 t131 _ A16.out).mono ?_); rintro e w' ⟨rfl, ⟨nd, rfl⟩⟩; refine ⟨_, rfl, ?_⟩) | ((with_reducible refine gate_callee (f := 9) rfl ?_); refine goesL_ (some 44) rfl rfl Tryd.func9 (by kernel_rfl) rfl #[.string a0, .string (rdOf ByteArray.empty t123 x26_1)] rfl (by (try simp only [List.map_toArray, List.map_cons, List.map_nil]); first | done | rfl | (simp only [List.length_drop, List.length_take]; rfl)) ?_; (with_reducible refine (boxes_Under.calls a0 (rdOf ByteArray.empty t123 x26_1) true _ A17.out).mono ?_); rintro e w' ⟨rfl, ⟨nd, rfl⟩⟩; refine ⟨_, rfl, ?_⟩))
                      go_ret
                      exact ⟨by first | rfl | (simp [Is.errV_none, Is.errV_some] <;> rfl) | (simp [*, Is.errV_none, Is.errV_some] <;> rfl), by repeat (first | (with_reducible first | exact HB.out | apply below_alloc | apply pw_below_drewN | apply below_drew1) | exact HB.out | exact Below.refl _ _)⟩
                  · replace c18 := Bool.eq_false_iff.mpr c18
                    subst c18
                    have H1 : (some false) = some r := by rw [if_neg (show ¬ (false = true) by decide)] at H; exact H
                    clear H
                    have H := H1
                    clear H1
                    obtain rfl := Option.some.inj H
                    have p127 : 0 ≤ (x26_1 : Int) := of_decide_eq_true (by first | (with_reducible assumption) | assumption)
                    have q127 : x26_1 < (t123.length : Int) := of_decide_eq_true (by first | (with_reducible assumption) | assumption)
                    obtain ⟨ad127, e127, hx127_0⟩ := Kd.at_string (Kd.R_reads' HO_24.out).2.2 x26_1 p127 q127
                    cases e127
                    replace p127 := eq_true p127
                    replace q127 := eq_true q127
                    go_wp2_with (first | ((with_reducible refine gate_callee (f := 8) rfl ?_); refine goesL_ (some 33) rfl rfl Tryd.func8 (by kernel_rfl) rfl #[.string a0, .string (rdOf ByteArray.empty t123 x26_1), .string (⟨#[122, 122]⟩ : ByteArray)] rfl (by (try simp only [List.map_toArray, List.map_cons, List.map_nil]); first | done | rfl | (simp only [List.length_drop, List.length_take]; rfl)) ?_; (with_reducible refine (boxes_Moved.calls a0 (rdOf ByteArray.empty t123 x26_1) (⟨#[122, 122]⟩ : ByteArray) t128 t129 _ A15.out).mono ?_); rintro e w' ⟨rfl, ⟨nd, rfl⟩⟩; refine ⟨_, rfl, ?_⟩) | ((with_reducible refine gate_callee (f := 8) rfl ?_); refine goesL_ (some 39) rfl rfl Tryd.func8 (by kernel_rfl) rfl #[.string t128, .string (⟨#[122, 122]⟩ : ByteArray), .string (rdOf ByteArray.empty t123 x26_1)] rfl (by (try simp only [List.map_toArray, List.map_cons, List.map_nil]); first | done | rfl | (simp only [List.length_drop, List.length_take]; rfl)) ?_; (with_reducible refine (boxes_Moved.calls t128 (⟨#[122, 122]⟩ : ByteArray) (rdOf ByteArray.empty t123 x26_1) t130 t131 _ A16.out).mono ?_); rintro e w' ⟨rfl, ⟨nd, rfl⟩⟩; refine ⟨_, rfl, ?_⟩) | ((with_reducible refine gate_callee (f := 9) rfl ?_); refine goesL_ (some 44) rfl rfl Tryd.func9 (by kernel_rfl) rfl #[.string a0, .string (rdOf ByteArray.empty t123 x26_1)] rfl (by (try simp only [List.map_toArray, List.map_cons, List.map_nil]); first | done | rfl | (simp only [List.length_drop, List.length_take]; rfl)) ?_; (with_reducible refine (boxes_Under.calls a0 (rdOf ByteArray.empty t123 x26_1) false _ A17.out).mono ?_); rintro e w' ⟨rfl, ⟨nd, rfl⟩⟩; refine ⟨_, rfl, ?_⟩))
                    go_ret
                    exact ⟨by first | rfl | (simp [Is.errV_none, Is.errV_some] <;> rfl) | (simp [*, Is.errV_none, Is.errV_some] <;> rfl), by repeat (first | (with_reducible first | exact HB.out | apply below_alloc | apply pw_below_drewN | apply below_drew1) | exact HB.out | exact Below.refl _ _)⟩
                · rw [if_neg c14] at H
                  exact absurd H (by simp)
              · rw [if_neg c13] at H
                exact absurd H (by simp)
            · rw [if_neg c12] at H
              have c12b0 : decide (x26_1 < (t123.length : Int)) = false := decide_eq_false c12
              clear c12
              replace H := Option.bind_eq_some_iff.mp H
              obtain ⟨t126, A230, H⟩ := H
              replace H : (some (!t126)) = some r := H
              have A23 := Aside0.mk A230
              clear A230
              obtain rfl := Option.some.inj H
              go_wp2_with (first | ((with_reducible refine gate_callee (f := 9) rfl ?_); refine goesL_ (some 73) rfl rfl Tryd.func9 (by kernel_rfl) rfl #[.string a0, .string a0] rfl (by (try simp only [List.map_toArray, List.map_cons, List.map_nil]); first | done | rfl | (simp only [List.length_drop, List.length_take]; rfl)) ?_; (with_reducible refine (boxes_Under.calls a0 a0 t126 _ A23.out).mono ?_); rintro e w' ⟨rfl, ⟨nd, rfl⟩⟩; refine ⟨_, rfl, ?_⟩))
              go_ret
              exact ⟨by first | rfl | (simp [Is.errV_none, Is.errV_some] <;> rfl) | (simp [*, Is.errV_none, Is.errV_some] <;> rfl), by repeat (first | (with_reducible first | exact HB.out | apply below_alloc | apply pw_below_drewN | apply below_drew1) | exact HB.out | exact Below.refl _ _)⟩
      · have H1 : (some true) = some r := by rw [if_neg (show ¬ (some q122).isNone = true by simp)] at H; exact H
        clear H
        have H := H1
        clear H1
        try simp only [Is.errV_none, Is.errV_some]
        obtain rfl := Option.some.inj H
        go_enter Tryd.func3, Tryd.ntmps3
        go_wp2_with (first | ((with_reducible refine gate_callee (f := 5) rfl ?_); refine goesL_ (some 11) rfl rfl Tryd.func5 (by kernel_rfl) rfl #[] rfl (by (try simp only [List.map_toArray, List.map_cons, List.map_nil]); first | done | rfl | (simp only [List.length_drop, List.length_take]; rfl)) ?_; (with_reducible refine (postbaglaw13_alive.calls  true _ A2.out).mono ?_); rintro e w24 ⟨rfl, hb⟩; refine ⟨_, rfl, ?_⟩; have n0_ := Aside0.mk (below_step (by repeat (first | (with_reducible first | exact HB.out | apply below_alloc | apply pw_below_drewN | apply below_drew1) | exact HB.out | exact Below.refl _ _)) hb); clear HB; have HB := n0_; clear n0_; (try clear hb); (try clear hb2); (try clear hk); (try clear hi)) | ((with_reducible refine gate_callee (f := 6) rfl ?_); refine goesL_ (some 18) rfl rfl Tryd.func6 (by kernel_rfl) rfl #[.string a0] rfl (by (try simp only [List.map_toArray, List.map_cons, List.map_nil]); first | done | rfl | (simp only [List.length_drop, List.length_take]; rfl)) ?_; (with_reducible refine (boxes_Name.calls (S := (fun c => c = 4)) (by first | rfl | exact ⟨by decide, by decide⟩) E a0 t120 (some q122) _ (HE.out.below (by repeat (first | (with_reducible first | exact HB.out | apply below_alloc | apply pw_below_drewN | apply below_drew1) | exact HB.out | exact Below.refl _ _))) A6.out).mono ?_); rintro e w25 ⟨rfl, hb⟩; refine ⟨_, rfl, ?_⟩; have n0_ := Aside0.mk (below_step (by repeat (first | (with_reducible first | exact HB.out | apply below_alloc | apply pw_below_drewN | apply below_drew1) | exact HB.out | exact Below.refl _ _)) hb); clear HB; have HB := n0_; clear n0_; (try clear hb); (try clear hb2); (try clear hk); (try clear hi); (try simp only [Is.errV_none, Is.errV_some])))
        go_ret
        exact ⟨by first | rfl | (simp [Is.errV_none, Is.errV_some] <;> rfl) | (simp [*, Is.errV_none, Is.errV_some] <;> rfl), by repeat (first | (with_reducible first | exact HB.out | apply below_alloc | apply pw_below_drewN | apply below_drew1) | exact HB.out | exact Below.refl _ _)⟩
  · replace c3 := Bool.eq_false_iff.mpr c3
    subst c3
    have H1 : (some false) = some r := by rw [if_neg (show ¬ (false = true) by decide)] at H; exact H
    clear H
    have H := H1
    clear H1
    obtain rfl := Option.some.inj H
    go_enter Tryd.func3, Tryd.ntmps3
    go_wp2_with (first | ((with_reducible refine gate_callee (f := 5) rfl ?_); refine goesL_ (some 11) rfl rfl Tryd.func5 (by kernel_rfl) rfl #[] rfl (by (try simp only [List.map_toArray, List.map_cons, List.map_nil]); first | done | rfl | (simp only [List.length_drop, List.length_take]; rfl)) ?_; (with_reducible refine (postbaglaw13_alive.calls  false _ A2.out).mono ?_); rintro e w26 ⟨rfl, hb⟩; refine ⟨_, rfl, ?_⟩; have n0_ := Aside0.mk (below_step (by repeat (first | (with_reducible first | exact HB.out | apply below_alloc | apply pw_below_drewN | apply below_drew1) | exact HB.out | exact Below.refl _ _)) hb); clear HB; have HB := n0_; clear n0_; (try clear hb); (try clear hb2); (try clear hk); (try clear hi)))
    go_ret
    exact ⟨by first | rfl | (simp [Is.errV_none, Is.errV_some] <;> rfl) | (simp [*, Is.errV_none, Is.errV_some] <;> rfl), by repeat (first | (with_reducible first | exact HB.out | apply below_alloc | apply pw_below_drewN | apply below_drew1) | exact HB.out | exact Below.refl _ _)⟩

/-- THE ONE PURE STATEMENT of postbaglaw13_BoxesUnder: yours. -/
def postbaglaw13_BoxesUnder.Pure : Prop := ∀ (a0 : ByteArray), a0.size ≤ 140737488351232 → ∃ k, postbaglaw13_BoxesUnder.f k a0 = some true
theorem postbaglaw13_BoxesUnder.walk (E : Int → Addr) (P : postbaglaw13_BoxesUnder.Pure) (a0 : ByteArray) (w : World) (hE : SentEnv (fun c => c = 4) w E) (w0 : a0.size ≤ 140737488351232) :
    Calls Tryd.prog 3 #[.string a0] w fun e w' => e = .returned (.bool true) ∧ Below w.heap.size w w' := by
  obtain ⟨k, h⟩ := P a0 w0
  refine (postbaglaw13_BoxesUnder.calls E k a0 true w hE h).mono ?_
  rintro e w' ⟨rfl, hd⟩
  exact ⟨rfl, hd⟩

end Go.Proofs.YthlofokgbogndabDoor.GBoxes
