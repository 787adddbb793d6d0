/- The document's Text of layer 19, walked. -/
import Derived.Test.YtjggdkcfpdhoaaaGreatDoorSTxt
namespace Go.Proofs.YtjggdkcfpdhoaaaGreatDoor.RTxt
open Go.WideMaps
open Go Go.RowKit Go.Proofs.YtjggdkcfpdhoaaaGreatDoorW.PrintWords Go.Proofs.YtjggdkcfpdhoaaaGreatDoor.Dots Go.Proofs.YtjggdkcfpdhoaaaGreatDoor.Take Go.Proofs.YtjggdkcfpdhoaaaGreatDoor.Number Go.Proofs.YtjggdkcfpdhoaaaGreatDoor.Opt Go.Proofs.YtjggdkcfpdhoaaaGreatDoor.Parse Go.Proofs.YtjggdkcfpdhoaaaGreatDoor.RefParse Go.Proofs.YtjggdkcfpdhoaaaGreatDoor.Reply Go.Proofs.YtjggdkcfpdhoaaaGreatDoor.Alive Go.Proofs.YtjggdkcfpdhoaaaGreatDoor.LParses Go.Proofs.YtjggdkcfpdhoaaaGreatDoor.PText Go.Proofs.YtjggdkcfpdhoaaaGreatDoor.QDig Go.Proofs.YtjggdkcfpdhoaaaGreatDoor.STxt
set_option linter.unusedVariables false
set_option linter.unusedSimpArgs false
/-- What the document's Text answers. -/
def refV : Option ByteArray → Value
  | some s => .tuple #[.string s, .bool true]
  | none => .tuple #[.string ⟨#[]⟩, .bool false]
def bareRV : Option ByteArray → Value
  | some b => .tuple #[.string b, .bool true]
  | none => .tuple #[.string ⟨#[]⟩, .bool false]
theorem bare_of (l d : ByteArray) (hl : l.size ≤ 1000000) (hd : d.size ≤ 1000000) (w : World) : Calls Tryz.prog 34 #[.agg #[.string l, .string d]] w fun e w' => e = .returned (bareRV (bareO l d)) ∧ Below w.heap.size w w' := by
  refine (refBare_calls l d hl hd w).mono ?_
  rintro e w' ⟨he, hb⟩
  refine ⟨?_, hb⟩
  rw [he]
  cases bareO l d <;> rfl
theorem data_app (a b : ByteArray) : (a ++ b).data.toList = a.data.toList ++ b.data.toList := by
  have : (a ++ b).data = a.data ++ b.data := ByteArray.data_append
  rw [this, Array.toList_append]
theorem cat_from (v b : ByteArray) : v ++ (((⟨#[32, 70, 82, 79, 77, 58, 60]⟩ : ByteArray) ++ b) ++ (⟨#[62]⟩ : ByteArray)) = v ++ (fromB ++ (((⟨#[60]⟩ : ByteArray) ++ b) ++ (⟨#[62]⟩ : ByteArray))) := by
  apply QRef3.data_inj
  simp only [data_app]
  rfl
theorem cat_to (v b : ByteArray) : v ++ (((⟨#[32, 84, 79, 58, 60]⟩ : ByteArray) ++ b) ++ (⟨#[62]⟩ : ByteArray)) = v ++ (toB ++ (((⟨#[60]⟩ : ByteArray) ++ b) ++ (⟨#[62]⟩ : ByteArray))) := by
  apply QRef3.data_inj
  simp only [data_app]
  rfl
set_option maxRecDepth 100000 in
set_option maxHeartbeats 8000000 in
theorem refText_of (c : CmdR) (hc : Small c) (ev : Value) (w : World) (hA : AW ev w) :
    Calls Tryz.prog 14 #[cmdV c] w fun e w' => e = .returned (refV (textC c)) ∧ Below w.heap.size w w' := by
  have HT := Aside0.mk (fun W => bare_of c.l c.d (by have := hc.l; omega) (by have := hc.d; omega) W)
  have HPZ := Aside0.mk (piece_size c hc)
  obtain ⟨r, hr⟩ : ∃ r, r = textC c := ⟨_, rfl⟩
  rw [← hr]
  have HR := Aside0.mk hr
  clear hr
  have HW := Aside0.mk (LW.newQ (w := w) (W := w) (c := c) hA (Below.refl _ _))
  have hsm := hc
  have v1 := hc.v; have v2 := hc.l; have v3 := hc.d; have v4 := hc.a; have v5 := hc.b
  have HN := Aside0.mk (show c.n ≤ 9223372036854775807 from hc.n1)
  clear hA hc hsm
  unfold cmdV
  go_enter Tryz.func14, Tryz.ntmps14
  go_upto_region 1 with (fail)
  rw [alloc_foldQ]
  obtain ⟨W, hW⟩ : ∃ W, W = w.alloc (cmdQ c) := ⟨_, rfl⟩
  obtain ⟨Q, hQ⟩ : ∃ Q, Q = w.heap.size := ⟨_, rfl⟩
  rw [← hW, ← hQ] at HW ⊢
  clear hW hQ
  have n0 := HW.out.cq.c0; have n1 := HW.out.cq.c1; have n2 := HW.out.cq.c2; have n3 := HW.out.cq.c3; have n4 := HW.out.cq.c4; have n5 := HW.out.cq.c5
  obtain ⟨po, hpo⟩ : ∃ x, x = pieceO c := ⟨_, rfl⟩
  have HPE := Aside0.mk hpo
  unfold pieceO at hpo
  by_cases hv1 : c.v = MAIL
  · rw [if_pos hv1] at hpo
    have hv := hv1
    clear hv1
    have qM : (c.v.toList == [77, 65, 73, 76]) = true := by rw [hv]; decide +kernel
    clear hv
    go_upto_if 18 with (fail)
    go_cut [4] (fun v4 wc => ∃ s, v4 = .string s ∧ Aside0 (pieceO c = some s) ∧ Aside0 (LW w Q c ev wc))
    case first =>
      have hts := bare_size c.l c.d
      unfold textO at hpo
      obtain ⟨tx, htx⟩ : ∃ x, x = bareO c.l c.d := ⟨_, rfl⟩
      rw [← htx] at HT hts hpo
      clear htx
      cases tx with
      | none =>
        simp only [bareRV] at HT
        have HPO : Aside0 (pieceO c = none) := ⟨HPE.out.symm.trans hpo⟩
        have HR3 : Aside0 (r = none) := ⟨by rw [HR.out, textC, HPO.out]⟩
        clear hpo HPE hts
        go_wp2_with (go_at_call 34; refine (HT.out _).mono ?_; rintro e w1 ⟨rfl, hb1⟩; have HW1 := Aside0.mk (HW.out.below hb1); clear hb1)
        go_ret2
        exact ⟨by rw [HR3.out]; rfl, HW1.out.bel⟩
      | some b =>
        simp only [bareRV] at HT
        have hpz := hts b rfl
        have HPO := Aside0.mk (HPE.out.symm.trans hpo)
        clear hts hpo HPE
        have f1 : ¬ 9223372036854775807 < 7 + b.size := by omega
        have f2 : ¬ 9223372036854775807 < 7 + b.size + 1 := by omega
        have f3 : ¬ 9223372036854775807 < c.v.size + (7 + b.size + 1) := by omega
        go_upto_region 9 with (go_at_call 34; refine (HT.out _).mono ?_; rintro e w1 ⟨rfl, hb1⟩; have HW1 := Aside0.mk (HW.out.below hb1); clear hb1; have k0 := HW1.out.cq.c0)
        obtain ⟨s1, hs1⟩ : ∃ x, x = c.v ++ (((⟨#[32, 70, 82, 79, 77, 58, 60]⟩ : ByteArray) ++ b) ++ (⟨#[62]⟩ : ByteArray)) := ⟨_, rfl⟩
        have hz1 : s1.size ≤ 4000 := by rw [hs1, ByteArray.size_append, ByteArray.size_append, ByteArray.size_append]; show c.v.size + (7 + b.size + 1) ≤ _; omega
        rw [← hs1]
        have hs2 := hs1
        rw [cat_from] at hs2
        rw [← hs2] at HPO
        clear hs1 hs2 f1 f2 f3 HW n0 n1 n2 n3 n4 n5
        have k1 := HW1.out.cq.c1; have k2 := HW1.out.cq.c2; have k3 := HW1.out.cq.c3; have k4 := HW1.out.cq.c4; have k5 := HW1.out.cq.c5
        by_cases hn0 : 0 ≤ c.n
        · have HIT := Aside0.mk (fun W => refDigits10_calls c.n hn0 HN.out W)
          have hiz := itoaB_size c.n hn0 HN.out
          have HPB : Aside0 (pieceO c = some (if c.b.toList.isEmpty = true then s1 ++ (sizeB ++ itoaB c.n) else (s1 ++ (sizeB ++ itoaB c.n)) ++ (bodyB ++ c.b))) := ⟨by rw [HPO.out, withSize, if_pos hn0]; rfl⟩
          obtain ⟨it, hit⟩ : ∃ x, x = itoaB c.n := ⟨_, rfl⟩
          rw [← hit] at HIT HPB hiz
          clear hit
          have t0 : decide (0 ≤ c.n) = true := decide_eq_true hn0
          have f5 : ¬ 9223372036854775807 < 6 + it.size := by omega
          have f6 : ¬ 9223372036854775807 < s1.size + (6 + it.size) := by omega
          go_upto_region 11 with (go_at_call 31; refine (HIT.out _).mono ?_; rintro e w4 ⟨rfl, hb4⟩; have HW4 := Aside0.mk (HW1.out.below hb4); clear hb4)
          obtain ⟨s2, hs2⟩ : ∃ x, x = s1 ++ (sizeB ++ it) := ⟨_, rfl⟩
          have hz2 : s2.size ≤ 5000 := by rw [hs2, ByteArray.size_append, ByteArray.size_append]; show s1.size + (6 + it.size) ≤ _; omega
          have hfold : s1 ++ ((⟨#[32, 83, 73, 90, 69, 61]⟩ : ByteArray) ++ it) = s2 := hs2.symm
          rw [← hs2] at HPB
          rw [hfold]
          clear hs2 hfold f5 f6 k0 k1 k2 k3 k4 k5 HW1
          have k0 := HW4.out.cq.c0; have k1 := HW4.out.cq.c1; have k2 := HW4.out.cq.c2; have k3 := HW4.out.cq.c3; have k4 := HW4.out.cq.c4; have k5 := HW4.out.cq.c5
          cases hbe : c.b.toList.isEmpty with
          | true =>
            rw [hbe] at HPB
            have hb2 : c.b.toList = [] := by simpa using hbe
            go_wp2
            go_meet
            case rel => exact ⟨_, rfl, HPB, HW4⟩
          | false =>
            rw [hbe] at HPB
            have hb2 : ¬ c.b.toList = [] := by simpa using hbe
            have f3 : ¬ 9223372036854775807 < 6 + c.b.size := by omega
            have f4 : ¬ 9223372036854775807 < s2.size + (6 + c.b.size) := by omega
            go_wp2
            go_meet
            case rel => exact ⟨_, rfl, HPB, HW4⟩
        · have HPB : Aside0 (pieceO c = some (if c.b.toList.isEmpty = true then s1 else s1 ++ (bodyB ++ c.b))) := ⟨by rw [HPO.out, withSize, if_neg hn0]; rfl⟩
          have t0 : decide (0 ≤ c.n) = false := decide_eq_false hn0
          cases hbe : c.b.toList.isEmpty with
          | true =>
            rw [hbe] at HPB
            have hb2 : c.b.toList = [] := by simpa using hbe
            go_wp2
            go_meet
            case rel => exact ⟨_, rfl, HPB, HW1⟩
          | false =>
            rw [hbe] at HPB
            have hb2 : ¬ c.b.toList = [] := by simpa using hbe
            have f3 : ¬ 9223372036854775807 < 6 + c.b.size := by omega
            have f4 : ¬ 9223372036854775807 < s1.size + (6 + c.b.size) := by omega
            go_wp2
            go_meet
            case rel => exact ⟨_, rfl, HPB, HW1⟩
    case rest =>
      clear hpo HPE
      obtain ⟨s, rfl, HP, HWc⟩ := hcut
      clear n0 n1 n2 n3 n4 n5 HW HT
      have hsz := HPZ.out s HP.out
      have HPA := Aside0.mk (fun W => refParse_calls s (by omega) W)
      have HR2 : Aside0 (r = if (parseC s).2 = 0 ∧ eqC (parseC s).1 c = true then some s else none) := ⟨by rw [HR.out, textC, HP.out]⟩
      clear HR HPZ HP
      obtain ⟨d, hd⟩ : ∃ d, d = (parseC s).1 := ⟨_, rfl⟩
      obtain ⟨n, hn⟩ : ∃ d, d = (parseC s).2 := ⟨_, rfl⟩
      rw [← hd, ← hn] at HPA HR2
      clear hd hn
      unfold cmdV at HPA
      go_upto_region 16 with (go_at_call 8; refine (HPA.out _).mono ?_; rintro e w1 ⟨rfl, hb1⟩; have HW1 := Aside0.mk (HWc.out.below hb1); clear hb1)
      have HD := Aside0.mk (LW.newQ (w := w) (c := d) HW1.out.aw HW1.out.bel)
      have HWD := Aside0.mk (HW1.out.below ((Below.refl _ _).alloc (Nat.le_refl _) (cmdQ d)))
      rw [alloc_foldQ]
      obtain ⟨W2, hW2⟩ : ∃ W, W = w1.alloc (cmdQ d) := ⟨_, rfl⟩
      obtain ⟨Q2, hQ2⟩ : ∃ Q, Q = w1.heap.size := ⟨_, rfl⟩
      rw [← hW2] at HWD
      rw [← hW2, ← hQ2] at HD ⊢
      clear hW2 hQ2 HW1 HWc HPA
      have m0 := HD.out.cq.c0; have m1 := HD.out.cq.c1; have m2 := HD.out.cq.c2; have m3 := HD.out.cq.c3; have m4 := HD.out.cq.c4; have m5 := HD.out.cq.c5
      have k0 := HWD.out.cq.c0; have k1 := HWD.out.cq.c1; have k2 := HWD.out.cq.c2; have k3 := HWD.out.cq.c3; have k4 := HWD.out.cq.c4; have k5 := HWD.out.cq.c5
      by_cases h0 : n = 0
      · subst h0
        by_cases heq : eqC d c = true
        · have HR3 : Aside0 (r = some s) := ⟨by rw [HR2.out, if_pos ⟨rfl, heq⟩]⟩
          have hdc := eqC_eq heq
          subst hdc
          clear heq HR2
          go_wp2
          go_ret2
          exact ⟨by rw [HR3.out]; rfl, HD.out.bel⟩
        · have HR3 : Aside0 (r = none) := ⟨by rw [HR2.out, if_neg (fun h => heq h.2)]⟩
          have HNE := Aside0.mk heq
          clear heq HR2
          go_upto_if 101 with (fail)
          all_goals first
            | (exfalso; exact HNE.out (eqC_mk (by assumption) (by assumption) (by assumption) (by assumption) (by assumption) (by assumption)))
            | skip
          all_goals
            go_wp2
            go_ret2
            exact ⟨by rw [HR3.out]; rfl, HD.out.bel⟩
      · have HR3 : Aside0 (r = none) := ⟨by rw [HR2.out, if_neg (fun h => h0 h.1)]⟩
        clear HR2
        go_wp2
        go_ret2
        exact ⟨by rw [HR3.out]; rfl, HD.out.bel⟩
  · by_cases hv2 : c.v = RCPT
    · rw [if_neg hv1, if_pos hv2] at hpo
      have hv := hv2
      clear hv1 hv2
      have qM : (c.v.toList == [77, 65, 73, 76]) = false := by rw [hv]; decide +kernel
      have qR : (c.v.toList == [82, 67, 80, 84]) = true := by rw [hv]; decide +kernel
      clear hv
      go_upto_if 18 with (fail)
      go_cut [4] (fun v4 wc => ∃ s, v4 = .string s ∧ Aside0 (pieceO c = some s) ∧ Aside0 (LW w Q c ev wc))
      case first =>
        have hts := bare_size c.l c.d
        unfold textO at hpo
        obtain ⟨tx, htx⟩ : ∃ x, x = bareO c.l c.d := ⟨_, rfl⟩
        rw [← htx] at HT hts hpo
        clear htx
        cases tx with
        | none =>
          simp only [bareRV] at HT
          have HPO : Aside0 (pieceO c = none) := ⟨HPE.out.symm.trans hpo⟩
          have HR3 : Aside0 (r = none) := ⟨by rw [HR.out, textC, HPO.out]⟩
          clear hpo HPE hts
          go_wp2_with (go_at_call 34; refine (HT.out _).mono ?_; rintro e w1 ⟨rfl, hb1⟩; have HW1 := Aside0.mk (HW.out.below hb1); clear hb1)
          go_ret2
          exact ⟨by rw [HR3.out]; rfl, HW1.out.bel⟩
        | some b =>
          simp only [bareRV] at HT
          have hpz := hts b rfl
          have HPO := Aside0.mk (HPE.out.symm.trans hpo)
          clear hts hpo HPE
          have f1 : ¬ 9223372036854775807 < 5 + b.size := by omega
          have f2 : ¬ 9223372036854775807 < 5 + b.size + 1 := by omega
          have f3 : ¬ 9223372036854775807 < c.v.size + (5 + b.size + 1) := by omega
          go_upto_region 9 with (go_at_call 34; refine (HT.out _).mono ?_; rintro e w1 ⟨rfl, hb1⟩; have HW1 := Aside0.mk (HW.out.below hb1); clear hb1; have k0 := HW1.out.cq.c0)
          obtain ⟨s1, hs1⟩ : ∃ x, x = c.v ++ (((⟨#[32, 84, 79, 58, 60]⟩ : ByteArray) ++ b) ++ (⟨#[62]⟩ : ByteArray)) := ⟨_, rfl⟩
          have hz1 : s1.size ≤ 4000 := by rw [hs1, ByteArray.size_append, ByteArray.size_append, ByteArray.size_append]; show c.v.size + (5 + b.size + 1) ≤ _; omega
          rw [← hs1]
          have hs2 := hs1
          rw [cat_to] at hs2
          rw [← hs2] at HPO
          clear hs1 hs2 f1 f2 f3 HW n0 n1 n2 n3 n4 n5
          have k1 := HW1.out.cq.c1; have k2 := HW1.out.cq.c2; have k3 := HW1.out.cq.c3; have k4 := HW1.out.cq.c4; have k5 := HW1.out.cq.c5
          have HPB : Aside0 (pieceO c = some (if c.b.toList.isEmpty = true then s1 else s1 ++ (bodyB ++ c.b))) := ⟨by rw [HPO.out]; rfl⟩
          cases hbe : c.b.toList.isEmpty with
          | true =>
            rw [hbe] at HPB
            have hb2 : c.b.toList = [] := by simpa using hbe
            go_wp2
            go_meet
            case rel => exact ⟨_, rfl, HPB, HW1⟩
          | false =>
            rw [hbe] at HPB
            have hb2 : ¬ c.b.toList = [] := by simpa using hbe
            have f3 : ¬ 9223372036854775807 < 6 + c.b.size := by omega
            have f4 : ¬ 9223372036854775807 < s1.size + (6 + c.b.size) := by omega
            go_wp2
            go_meet
            case rel => exact ⟨_, rfl, HPB, HW1⟩
      case rest =>
        clear hpo HPE
        obtain ⟨s, rfl, HP, HWc⟩ := hcut
        clear n0 n1 n2 n3 n4 n5 HW HT
        have hsz := HPZ.out s HP.out
        have HPA := Aside0.mk (fun W => refParse_calls s (by omega) W)
        have HR2 : Aside0 (r = if (parseC s).2 = 0 ∧ eqC (parseC s).1 c = true then some s else none) := ⟨by rw [HR.out, textC, HP.out]⟩
        clear HR HPZ HP
        obtain ⟨d, hd⟩ : ∃ d, d = (parseC s).1 := ⟨_, rfl⟩
        obtain ⟨n, hn⟩ : ∃ d, d = (parseC s).2 := ⟨_, rfl⟩
        rw [← hd, ← hn] at HPA HR2
        clear hd hn
        unfold cmdV at HPA
        go_upto_region 16 with (go_at_call 8; refine (HPA.out _).mono ?_; rintro e w1 ⟨rfl, hb1⟩; have HW1 := Aside0.mk (HWc.out.below hb1); clear hb1)
        have HD := Aside0.mk (LW.newQ (w := w) (c := d) HW1.out.aw HW1.out.bel)
        have HWD := Aside0.mk (HW1.out.below ((Below.refl _ _).alloc (Nat.le_refl _) (cmdQ d)))
        rw [alloc_foldQ]
        obtain ⟨W2, hW2⟩ : ∃ W, W = w1.alloc (cmdQ d) := ⟨_, rfl⟩
        obtain ⟨Q2, hQ2⟩ : ∃ Q, Q = w1.heap.size := ⟨_, rfl⟩
        rw [← hW2] at HWD
        rw [← hW2, ← hQ2] at HD ⊢
        clear hW2 hQ2 HW1 HWc HPA
        have m0 := HD.out.cq.c0; have m1 := HD.out.cq.c1; have m2 := HD.out.cq.c2; have m3 := HD.out.cq.c3; have m4 := HD.out.cq.c4; have m5 := HD.out.cq.c5
        have k0 := HWD.out.cq.c0; have k1 := HWD.out.cq.c1; have k2 := HWD.out.cq.c2; have k3 := HWD.out.cq.c3; have k4 := HWD.out.cq.c4; have k5 := HWD.out.cq.c5
        by_cases h0 : n = 0
        · subst h0
          by_cases heq : eqC d c = true
          · have HR3 : Aside0 (r = some s) := ⟨by rw [HR2.out, if_pos ⟨rfl, heq⟩]⟩
            have hdc := eqC_eq heq
            subst hdc
            clear heq HR2
            go_wp2
            go_ret2
            exact ⟨by rw [HR3.out]; rfl, HD.out.bel⟩
          · have HR3 : Aside0 (r = none) := ⟨by rw [HR2.out, if_neg (fun h => heq h.2)]⟩
            have HNE := Aside0.mk heq
            clear heq HR2
            go_upto_if 101 with (fail)
            all_goals first
              | (exfalso; exact HNE.out (eqC_mk (by assumption) (by assumption) (by assumption) (by assumption) (by assumption) (by assumption)))
              | skip
            all_goals
              go_wp2
              go_ret2
              exact ⟨by rw [HR3.out]; rfl, HD.out.bel⟩
        · have HR3 : Aside0 (r = none) := ⟨by rw [HR2.out, if_neg (fun h => h0 h.1)]⟩
          clear HR2
          go_wp2
          go_ret2
          exact ⟨by rw [HR3.out]; rfl, HD.out.bel⟩
    · rw [if_neg hv1, if_neg hv2] at hpo
      have q1 : (c.v.toList == [77, 65, 73, 76]) = false := by rw [beq_eq_false_iff_ne]; intro h; exact hv1 (toList_inj (h.trans (by decide +kernel)))
      have q2 : (c.v.toList == [82, 67, 80, 84]) = false := by rw [beq_eq_false_iff_ne]; intro h; exact hv2 (toList_inj (h.trans (by decide +kernel)))
      clear hv1 hv2
      go_upto_if 18 with (fail)
      go_cut [4] (fun v4 wc => ∃ s, v4 = .string s ∧ Aside0 (pieceO c = some s) ∧ Aside0 (LW w Q c ev wc))
      case first =>
        clear HT
        have f1 : ¬ 9223372036854775807 < 1 + c.a.size := by omega
        have f2 : ¬ 9223372036854775807 < c.v.size + (1 + c.a.size) := by omega
        by_cases hh : c.v = HELO ∨ c.v = EHLO ∨ c.v = VRFY
        · rw [if_pos hh] at hpo
          have HPO := Aside0.mk (HPE.out.symm.trans hpo)
          clear hpo
          rcases hh with h | h | h
          · have q3 : (c.v.toList == [72, 69, 76, 79]) = true := by rw [h]; decide +kernel
            clear h
            go_wp2
            go_meet
            case rel => exact ⟨_, rfl, HPO, HW⟩
          · have q3 : (c.v.toList == [69, 72, 76, 79]) = true := by rw [h]; decide +kernel
            have qHELO : (c.v.toList == [72, 69, 76, 79]) = false := by rw [h]; decide +kernel
            clear h
            go_wp2
            go_meet
            case rel => exact ⟨_, rfl, HPO, HW⟩
          · have q3 : (c.v.toList == [86, 82, 70, 89]) = true := by rw [h]; decide +kernel
            have qHELO : (c.v.toList == [72, 69, 76, 79]) = false := by rw [h]; decide +kernel
            have qEHLO : (c.v.toList == [69, 72, 76, 79]) = false := by rw [h]; decide +kernel
            clear h
            go_wp2
            go_meet
            case rel => exact ⟨_, rfl, HPO, HW⟩
        · rw [if_neg hh] at hpo
          have qHELO : (c.v.toList == [72, 69, 76, 79]) = false := by rw [beq_eq_false_iff_ne]; intro h; exact hh (.inl (toList_inj (h.trans (by decide +kernel))))
          have qEHLO : (c.v.toList == [69, 72, 76, 79]) = false := by rw [beq_eq_false_iff_ne]; intro h; exact hh (Or.inr <| .inl (toList_inj (h.trans (by decide +kernel))))
          have qVRFY : (c.v.toList == [86, 82, 70, 89]) = false := by rw [beq_eq_false_iff_ne]; intro h; exact hh (Or.inr <| .inr (toList_inj (h.trans (by decide +kernel))))
          clear hh
          by_cases hn : c.v = NOOP
          · rw [if_pos hn] at hpo
            have qN : (c.v.toList == [78, 79, 79, 80]) = true := by rw [hn]; decide +kernel
            clear hn
            cases ha : c.a.toList.isEmpty with
            | true =>
              rw [ha, if_pos rfl] at hpo
              have HPO := Aside0.mk (HPE.out.symm.trans hpo)
              have ha2 : c.a.toList = [] := by simpa using ha
              clear hpo
              go_wp2
              go_meet
              case rel => exact ⟨_, rfl, HPO, HW⟩
            | false =>
              rw [ha, if_neg (by decide)] at hpo
              have HPO := Aside0.mk (HPE.out.symm.trans hpo)
              have ha2 : ¬ c.a.toList = [] := by simpa using ha
              clear hpo
              go_wp2
              go_meet
              case rel => exact ⟨_, rfl, HPO, HW⟩
          · rw [if_neg hn] at hpo
            have HPO := Aside0.mk (HPE.out.symm.trans hpo)
            have qN : (c.v.toList == [78, 79, 79, 80]) = false := by rw [beq_eq_false_iff_ne]; intro h; exact hn (toList_inj (h.trans (by decide +kernel)))
            clear hn hpo
            go_wp2
            go_meet
            case rel => exact ⟨_, rfl, HPO, HW⟩
      case rest =>
        clear hpo HPE
        obtain ⟨s, rfl, HP, HWc⟩ := hcut
        clear n0 n1 n2 n3 n4 n5 HW HT
        have hsz := HPZ.out s HP.out
        have HPA := Aside0.mk (fun W => refParse_calls s (by omega) W)
        have HR2 : Aside0 (r = if (parseC s).2 = 0 ∧ eqC (parseC s).1 c = true then some s else none) := ⟨by rw [HR.out, textC, HP.out]⟩
        clear HR HPZ HP
        obtain ⟨d, hd⟩ : ∃ d, d = (parseC s).1 := ⟨_, rfl⟩
        obtain ⟨n, hn⟩ : ∃ d, d = (parseC s).2 := ⟨_, rfl⟩
        rw [← hd, ← hn] at HPA HR2
        clear hd hn
        unfold cmdV at HPA
        go_upto_region 16 with (go_at_call 8; refine (HPA.out _).mono ?_; rintro e w1 ⟨rfl, hb1⟩; have HW1 := Aside0.mk (HWc.out.below hb1); clear hb1)
        have HD := Aside0.mk (LW.newQ (w := w) (c := d) HW1.out.aw HW1.out.bel)
        have HWD := Aside0.mk (HW1.out.below ((Below.refl _ _).alloc (Nat.le_refl _) (cmdQ d)))
        rw [alloc_foldQ]
        obtain ⟨W2, hW2⟩ : ∃ W, W = w1.alloc (cmdQ d) := ⟨_, rfl⟩
        obtain ⟨Q2, hQ2⟩ : ∃ Q, Q = w1.heap.size := ⟨_, rfl⟩
        rw [← hW2] at HWD
        rw [← hW2, ← hQ2] at HD ⊢
        clear hW2 hQ2 HW1 HWc HPA
        have m0 := HD.out.cq.c0; have m1 := HD.out.cq.c1; have m2 := HD.out.cq.c2; have m3 := HD.out.cq.c3; have m4 := HD.out.cq.c4; have m5 := HD.out.cq.c5
        have k0 := HWD.out.cq.c0; have k1 := HWD.out.cq.c1; have k2 := HWD.out.cq.c2; have k3 := HWD.out.cq.c3; have k4 := HWD.out.cq.c4; have k5 := HWD.out.cq.c5
        by_cases h0 : n = 0
        · subst h0
          by_cases heq : eqC d c = true
          · have HR3 : Aside0 (r = some s) := ⟨by rw [HR2.out, if_pos ⟨rfl, heq⟩]⟩
            have hdc := eqC_eq heq
            subst hdc
            clear heq HR2
            go_wp2
            go_ret2
            exact ⟨by rw [HR3.out]; rfl, HD.out.bel⟩
          · have HR3 : Aside0 (r = none) := ⟨by rw [HR2.out, if_neg (fun h => heq h.2)]⟩
            have HNE := Aside0.mk heq
            clear heq HR2
            go_upto_if 101 with (fail)
            all_goals first
              | (exfalso; exact HNE.out (eqC_mk (by assumption) (by assumption) (by assumption) (by assumption) (by assumption) (by assumption)))
              | skip
            all_goals
              go_wp2
              go_ret2
              exact ⟨by rw [HR3.out]; rfl, HD.out.bel⟩
        · have HR3 : Aside0 (r = none) := ⟨by rw [HR2.out, if_neg (fun h => h0 h.1)]⟩
          clear HR2
          go_wp2
          go_ret2
          exact ⟨by rw [HR3.out]; rfl, HD.out.bel⟩
end Go.Proofs.YtjggdkcfpdhoaaaGreatDoor.RTxt
