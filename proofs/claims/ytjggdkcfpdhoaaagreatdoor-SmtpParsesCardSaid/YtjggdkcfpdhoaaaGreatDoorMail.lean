/- Command.mail: what is behind MAIL or RCPT. -/
import Derived.Test.YtjggdkcfpdhoaaaGreatDoorOpt
namespace Go.Proofs.YtjggdkcfpdhoaaaGreatDoor.Mail
open Go Go.RowKit Go.Proofs.YtjggdkcfpdhoaaaGreatDoorW.PrintWords Go.Proofs.YtjggdkcfpdhoaaaGreatDoor.Large Go.Proofs.YtjggdkcfpdhoaaaGreatDoor.Take Go.Proofs.YtjggdkcfpdhoaaaGreatDoor.Number Go.Proofs.YtjggdkcfpdhoaaaGreatDoor.Opt
set_option linter.unusedVariables false
set_option linter.unusedSimpArgs false
/-- MAIL's options, one behind the other. -/
def optsO : Nat → CmdR → ByteArray → Option CmdR
  | 0, c, o => if o.toList.isEmpty = true then some c else none
  | k + 1, c, o =>
    if o.toList.isEmpty = true then some c
    else if preF o 32 = false then none
    else match optC c (cutA (preT o 32) 32) with
      | none => none
      | some c' => optsO k c' (o.extract (1 + (cutA (preT o 32) 32).size) o.size)
def mailO (c : CmdR) (rest words : ByteArray) : Option CmdR :=
  if aftF rest words = false then none else
    match takeB (aftV rest words) with
    | none => none
    | some (l, d, o) =>
      if (c.v.toList == [82, 67, 80, 84]) = true then (if o.toList.isEmpty = true then some { c with l := l, d := d } else none)
      else optsO o.size { c with l := l, d := d, n := -1 } o
theorem takeG_rest (b1 b2 b3 b4 b5 b6 : Bool) (l' d' q l d o : ByteArray) (h : takeG b1 b2 b3 b4 b5 b6 l' d' q = some (l, d, o)) : o = q := by
  cases b1 <;> cases b2 <;> cases b3 <;> cases b4 <;> cases b5 <;> cases b6 <;> simp [takeG] at h <;> exact h.2.2.symm
theorem takeB_rest (s l d o : ByteArray) (h : takeB s = some (l, d, o)) : o = cutB s 62 := takeG_rest _ _ _ _ _ _ _ _ _ _ _ _ h
theorem preF_size (o : ByteArray) (d : UInt8) (h : preF o d = true) : (preT o d).size + 1 = o.size := by
  have e : (preT o d).size = (Lib.trimPrefix o.data.toList [d]).length := by show (Lib.trimPrefix o.data.toList [d]).toArray.size = _; simp
  have e2 : o.data.toList.length = o.size := data_length o
  have h2 : Lib.hasPrefix o.data.toList [d] = true := h
  rw [e, ← e2]
  unfold Lib.trimPrefix
  rw [if_pos h2]
  unfold Lib.hasPrefix at h2
  cases h3 : o.data.toList with
  | nil => rw [h3] at h2; simp at h2
  | cons a l => simp
def sizeV : Value → Nat
  | .string o => o.size
  | _ => 0
theorem empty_size (o : ByteArray) (h : o.toList.isEmpty = true) : o.size = 0 := by
  rw [Dots.toList_data] at h
  have := data_length o
  rw [List.isEmpty_iff] at h
  rw [h] at this
  simpa using this.symm
theorem optsO_more : ∀ (k m : Nat) (c : CmdR) (o : ByteArray), o.size ≤ k → o.size ≤ m → optsO k c o = optsO m c o := by
  intro k
  induction k with
  | zero =>
    intro m c o hk hm
    have h : o.toList.isEmpty = true := by rw [Dots.toList_data, List.isEmpty_iff, ← List.length_eq_zero_iff, data_length]; omega
    cases m with
    | zero => rfl
    | succ m => simp only [optsO, h, if_true]
  | succ k ih =>
    intro m c o hk hm
    cases m with
    | zero =>
      have h : o.toList.isEmpty = true := by rw [Dots.toList_data, List.isEmpty_iff, ← List.length_eq_zero_iff, data_length]; omega
      simp only [optsO, h, if_true]
    | succ m =>
      simp only [optsO]
      split
      · rfl
      · split
        · rfl
        · split
          · rfl
          · exact ih m _ _ (by rw [ByteArray.size_extract]; omega) (by rw [ByteArray.size_extract]; omega)
theorem kept_drewL {B n : Nat} {w W : World} (h : KB B (w.drewN n) W) : KB B w W := ⟨h.os, h.tape, h.output, h.size, h.block⟩
def PostM (B : Nat) (w : World) (r : Option CmdR) (e : Ending) (w' : World) : Prop :=
  e = .returned (.bool r.isSome) ∧ (∃ c2, CmdAt B c2 w' ∧ ∀ q, r = some q → c2 = q) ∧ KB B w w'
set_option maxRecDepth 100000 in
set_option maxHeartbeats 4000000 in
theorem mail_calls (B : Nat) (c : CmdR) (rest words : ByteArray) (hs : rest.size ≤ 1000000) (hw : words.size ≤ 1000) (t : Nat) (pv : Value) (w : World) (hE : w.cell? ⟨1, 0, none⟩ = some (.iface t pv)) (h : CmdAt B c w) :
    Calls Tryz.prog 38 #[.pointer (some ⟨B, 0, none⟩), .string rest, .string words] w (PostM B w (mailO c rest words)) := by
  obtain ⟨r, hr⟩ : ∃ r, r = mailO c rest words := ⟨_, rfl⟩
  rw [← hr]
  unfold mailO at hr
  have HF := Aside0.mk (fun W => after_calls rest words hs hw W)
  have hvs : (aftV rest words).size ≤ 1000000 := by
    unfold aftV
    split
    · rw [ByteArray.size_extract]; omega
    · exact Nat.zero_le _
  have HT := Aside0.mk (fun W hW => take_calls (aftV rest words) hvs (.iface t pv) W hW)
  obtain ⟨v, hv⟩ : ∃ x, x = aftV rest words := ⟨_, rfl⟩
  obtain ⟨f, hf⟩ : ∃ x, x = aftF rest words := ⟨_, rfl⟩
  rw [← hv] at hr HF HT hvs
  rw [← hf] at hr HF
  clear hv hf
  obtain ⟨tb, htb⟩ : ∃ x, x = takeB v := ⟨_, rfl⟩
  rw [← htb] at hr HT
  have hsz : ∀ l d o, tb = some (l, d, o) → o.size ≤ 1000000 := fun l d o h9 => by
    rw [htb] at h9
    rw [takeB_rest v l d o h9]
    exact Nat.le_trans (cutB_size v 62) hvs
  clear htb
  have HCA := Aside0.mk h
  have HE := Aside0.mk hE
  clear h hE
  cases tb with
  | none =>
    have hr2 : r = none := by rw [hr]; split <;> rfl
    clear hr hsz
    subst hr2
    simp only [takeV, emptyB] at HT
    go_enter Tryz.func38, Tryz.ntmps38
    go_upto_region 3 with (first
      | (go_at_call 53; refine (HF.out _).mono ?_; rintro e w1 ⟨rfl, hb1⟩; have HB1 := Aside0.mk hb1; have HE1 := Aside0.mk ((hb1.cell (p := ⟨1, 0, none⟩) (World.block_lt_of_cell? w _ HE.out)).trans HE.out); clear hb1)
      | (go_at_call 54; refine (HT.out _ HE1.out).mono ?_; rintro e w2 ⟨rfl, hb2⟩; have HB2 := Aside0.mk (HB1.out.trans (hb2.mono HB1.out.size)); clear hb2))
    clear HF HT HE HE1
    obtain ⟨W, hW⟩ : ∃ W, W = w2.alloc (Obj.cells #[Value.string ⟨#[]⟩, Value.string ⟨#[]⟩] 24) := ⟨_, rfl⟩
    have HBW := Aside0.mk (show Below w.heap.size w W by rw [hW]; exact HB2.out.alloc HB2.out.size _)
    have HCW := Aside0.mk (HCA.out.below HBW.out)
    have HKW := Aside0.mk (kept_below (B := B) HBW.out)
    have hp0 : W.cell? ⟨w2.heap.size, 0, none⟩ = some (.string ⟨#[]⟩) := by rw [hW]; exact World.cell?_alloc_at _ _ _ _ rfl
    have hp1 : W.cell? ⟨w2.heap.size, 1, none⟩ = some (.string ⟨#[]⟩) := by rw [hW]; exact World.cell?_alloc_at _ _ _ _ rfl
    rw [← hW]
    clear hW HB1 HB2 HBW
    cases f with
    | false =>
      go_wp2
      go_ret
      exact ⟨rfl, ⟨c, HCW.out, fun q hq => by cases hq⟩, HKW.out⟩
    | true =>
      go_wp2
      go_ret
      exact ⟨rfl, ⟨c, HCW.out, fun q hq => by cases hq⟩, HKW.out⟩
  | some p =>
    obtain ⟨l, d, o⟩ := p
    have ho := hsz l d o rfl
    clear hsz
    cases f with
    | false =>
      have hr2 : r = none := by rw [hr]; rfl
      clear hr
      subst hr2
      simp only [takeV, emptyB] at HT
      go_enter Tryz.func38, Tryz.ntmps38
      go_upto_region 3 with (first
        | (go_at_call 53; refine (HF.out _).mono ?_; rintro e w1 ⟨rfl, hb1⟩; have HB1 := Aside0.mk hb1; have HE1 := Aside0.mk ((hb1.cell (p := ⟨1, 0, none⟩) (World.block_lt_of_cell? w _ HE.out)).trans HE.out); clear hb1)
        | (go_at_call 54; refine (HT.out _ HE1.out).mono ?_; rintro e w2 ⟨rfl, hb2⟩; have HB2 := Aside0.mk (HB1.out.trans (hb2.mono HB1.out.size)); clear hb2))
      clear HF HT HE HE1
      obtain ⟨W, hW⟩ : ∃ W, W = w2.alloc (Obj.cells #[Value.string l, Value.string d] 24) := ⟨_, rfl⟩
      have HBW := Aside0.mk (show Below w.heap.size w W by rw [hW]; exact HB2.out.alloc HB2.out.size _)
      have HCW := Aside0.mk (HCA.out.below HBW.out)
      have HKW := Aside0.mk (kept_below (B := B) HBW.out)
      have hp0 : W.cell? ⟨w2.heap.size, 0, none⟩ = some (.string l) := by rw [hW]; exact World.cell?_alloc_at _ _ _ _ rfl
      have hp1 : W.cell? ⟨w2.heap.size, 1, none⟩ = some (.string d) := by rw [hW]; exact World.cell?_alloc_at _ _ _ _ rfl
      rw [← hW]
      clear hW HB1 HB2 HBW
      go_wp2
      go_ret
      exact ⟨rfl, ⟨c, HCW.out, fun q hq => by cases hq⟩, HKW.out⟩
    | true =>
      have hr2 : r = if (c.v.toList == [82, 67, 80, 84]) = true then (if o.toList.isEmpty = true then some { c with l := l, d := d } else none) else optsO o.size { c with l := l, d := d, n := -1 } o := hr
      clear hr
      simp only [takeV, emptyB] at HT
      go_enter Tryz.func38, Tryz.ntmps38
      go_upto_region 3 with (first
        | (go_at_call 53; refine (HF.out _).mono ?_; rintro e w1 ⟨rfl, hb1⟩; have HB1 := Aside0.mk hb1; have HE1 := Aside0.mk ((hb1.cell (p := ⟨1, 0, none⟩) (World.block_lt_of_cell? w _ HE.out)).trans HE.out); clear hb1)
        | (go_at_call 54; refine (HT.out _ HE1.out).mono ?_; rintro e w2 ⟨rfl, hb2⟩; have HB2 := Aside0.mk (HB1.out.trans (hb2.mono HB1.out.size)); clear hb2))
      clear HF HT HE HE1
      obtain ⟨W, hW⟩ : ∃ W, W = w2.alloc (Obj.cells #[Value.string l, Value.string d] 24) := ⟨_, rfl⟩
      have HBW := Aside0.mk (show Below w.heap.size w W by rw [hW]; exact HB2.out.alloc HB2.out.size _)
      have HCW := Aside0.mk (HCA.out.below HBW.out)
      have HKW := Aside0.mk (kept_below (B := B) HBW.out)
      have hp0 : W.cell? ⟨w2.heap.size, 0, none⟩ = some (.string l) := by rw [hW]; exact World.cell?_alloc_at _ _ _ _ rfl
      have hp1 : W.cell? ⟨w2.heap.size, 1, none⟩ = some (.string d) := by rw [hW]; exact World.cell?_alloc_at _ _ _ _ rfl
      rw [← hW]
      clear hW HB1 HB2 HBW
      have hv0 := HCW.out.c0
      have hv1 := HCW.out.c1
      have hv2 := HCW.out.c2
      have hz0 := HCW.out.fr
      have HCP := Aside0.mk (HCW.out.setP l d)
      have HKP := Aside0.mk ((HKW.out.setCell (p := ⟨B, 1, none⟩) (.inl rfl) (.string l)).setCell (p := ⟨B, 2, none⟩) (.inl rfl) (.string d))
      cases b1 : c.v.toList == [82, 67, 80, 84] with
      | true =>
        rw [b1, if_pos rfl] at hr2
        have hc0 := HCP.out.c0
        cases b2 : o.toList.isEmpty with
        | true =>
          rw [b2, if_pos rfl] at hr2
          subst hr2
          go_wp2
          go_ret
          exact ⟨rfl, ⟨_, HCP.out, fun q hq => by cases hq; rfl⟩, HKP.out⟩
        | false =>
          rw [b2, if_neg (by simp)] at hr2
          subst hr2
          go_wp2
          go_ret
          exact ⟨rfl, ⟨_, HCP.out, fun q hq => by cases hq⟩, HKP.out⟩
      | false =>
        rw [b1, if_neg (by simp)] at hr2
        have HR := Aside0.mk hr2
        clear hr2
        have hc0 := HCP.out.c0
        have hc4 := HCP.out.c4
        have HCN := Aside0.mk (HCP.out.setN (-1))
        have HKN := Aside0.mk (HKP.out.setCell (p := ⟨B, 4, none⟩) (.inl rfl) (.int .i64 (-1)))
        go_wp2
        go_loopw [9] (fun i wr => ∃ (o2 : ByteArray) (c2 : CmdR), i = .string o2 ∧ o2.size ≤ 1000000 ∧ Aside0 (CmdAt B c2 wr) ∧ Aside0 (KB B w wr) ∧ Aside0 (r = optsO o2.size c2 o2)) (fun i _ => sizeV i)
        case atStart => exact ⟨o, _, rfl, ho, HCN, HKN, HR⟩
        case round =>
          clear HCA HCP HCW HCN HKN HKP HKW HR hv0 hv1 hv2 hz0 hc0 hc4 hp0 hp1 ho
          obtain ⟨o2, c2, rfl, ho2, HC2, HK2, HR⟩ := hrel
          cases e1 : o2.toList.isEmpty with
          | true =>
            have hr3 : r = some c2 := by
              rw [HR.out]
              cases o2.size with
              | zero => simp only [optsO, e1, if_true]
              | succ k => simp only [optsO, e1, if_true]
            clear HR
            subst hr3
            go_wp2
            go_ret
            exact ⟨rfl, ⟨_, HC2.out, fun q hq => by cases hq; rfl⟩, HK2.out⟩
          | false =>
            obtain ⟨k, hk⟩ : ∃ k, o2.size = k + 1 := by
              refine ⟨o2.size - 1, ?_⟩
              have h9 := data_length o2
              rw [Dots.toList_data] at e1
              cases h8 : o2.data.toList with
              | nil => rw [h8] at e1; simp at e1
              | cons a l => rw [h8] at h9; simp at h9; omega
            have hr3 : r = if preF o2 32 = false then none
              else match optC c2 (cutA (preT o2 32) 32) with
                | none => none
                | some c' => optsO k c' (o2.extract (1 + (cutA (preT o2 32) 32).size) o2.size) := by
              rw [HR.out]
              conv => lhs; rw [hk]
              rw [optsO, if_neg (by rw [e1]; simp)]
            clear HR
            have hpz := preF_size o2 32
            have HP := Aside0.mk (fun W => prefix_calls o2 32 W)
            have hz1 := preT_size o2 32
            obtain ⟨x, hx⟩ : ∃ x, x = preT o2 32 := ⟨_, rfl⟩
            rw [← hx] at hr3 HP hpz hz1
            clear hx
            have hz2 := cutA_size x 32
            have HCu := Aside0.mk (fun W => cut_calls x 32 (by omega) W)
            obtain ⟨y, hy⟩ : ∃ y, y = cutA x 32 := ⟨_, rfl⟩
            rw [← hy] at hr3 HCu hz2
            clear hy
            have HO := Aside0.mk (fun W hW => option_calls B c2 y (by omega) W hW)
            cases e2 : preF o2 32 with
            | false =>
              rw [e2] at hr3 HP
              have hr4 : r = none := hr3
              clear hr3 hpz
              subst hr4
              go_wp2_with (go_at_call 55; refine (HP.out _).mono ?_; rintro e w' ⟨rfl, rfl⟩)
              go_ret
              exact ⟨rfl, ⟨_, HC2.out, fun q hq => by cases hq⟩, HK2.out⟩
            | true =>
              rw [e2] at hr3 HP
              have hxs := hpz e2
              have hr4 : r = match optC c2 y with
                | none => none
                | some c' => optsO k c' (o2.extract (1 + y.size) o2.size) := hr3
              clear hr3 hpz
              have hw1 : wrap64 (1 + (y.size : Int)) = 1 + y.size := by unfold wrap64; omega
              have hle : 1 + y.size ≤ o2.size := by omega
              cases e3 : optC c2 y with
              | none =>
                rw [e3] at hr4 HO
                simp only [Option.isSome_none, Option.getD_none] at HO
                have hr5 : r = none := hr4
                clear hr4
                subst hr5
                go_wp2_with (first
                  | (go_at_call 55; refine (HP.out _).mono ?_; rintro e w' ⟨rfl, rfl⟩)
                  | (go_at_call 15; refine (HCu.out _).mono ?_; rintro e w' ⟨rfl, n1, rfl⟩)
                  | (go_at_call 56; refine (HO.out _ (HC2.out.heap (by first | rfl | exact rfl))).mono ?_; rintro e w3 ⟨rfl, hc3, hk3⟩; have HC3 := Aside0.mk hc3; have HK3 := Aside0.mk (HK2.out.then_ (kept_drewL hk3)); clear hc3 hk3))
                go_ret
                exact ⟨rfl, ⟨_, HC3.out, fun q hq => by cases hq⟩, HK3.out⟩
              | some c3 =>
                rw [e3] at hr4 HO
                simp only [Option.isSome_some, Option.getD_some] at HO
                have hr5 : r = optsO k c3 (o2.extract (1 + y.size) o2.size) := hr4
                have hz4 : (o2.extract (1 + y.size) o2.size).size ≤ k := by rw [ByteArray.size_extract]; omega
                have HR5 := Aside0.mk (hr5.trans (optsO_more k (o2.extract (1 + y.size) o2.size).size c3 _ hz4 (Nat.le_refl _)))
                clear hr4 hr5
                have hz5 : (o2.extract (1 + y.size) o2.size).size ≤ 1000000 := by omega
                have hz6 : (o2.extract (1 + y.size) o2.size).size < o2.size := by omega
                clear hz4 hk hxs
                go_wp2_with (first
                  | (go_at_call 55; refine (HP.out _).mono ?_; rintro e w' ⟨rfl, rfl⟩)
                  | (go_at_call 15; refine (HCu.out _).mono ?_; rintro e w' ⟨rfl, n1, rfl⟩)
                  | (go_at_call 56; refine (HO.out _ (HC2.out.heap (by first | rfl | exact rfl))).mono ?_; rintro e w3 ⟨rfl, hc3, hk3⟩; have HC3 := Aside0.mk hc3; have HK3 := Aside0.mk (HK2.out.then_ (kept_drewL hk3)); clear hc3 hk3))
                go_roundw
                case rel => exact ⟨_, c3, rfl, hz5, HC3, HK3, HR5⟩
                case measure => exact hz6
end Go.Proofs.YtjggdkcfpdhoaaaGreatDoor.Mail
