/- smtp.Text, walked: a command's text. -/
import Derived.Test.YtjggdkcfpdhoaaaGreatDoorPText
import Derived.Test.YtjggdkcfpdhoaaaGreatDoorQDig
import Derived.Test.YtjggdkcfpdhoaaaGreatDoorLParses
import Derived.Maps.StringElems
namespace Go.Proofs.YtjggdkcfpdhoaaaGreatDoor.STxt
open Go.WideMaps
open Go Go.RowKit Go.Proofs.YtjggdkcfpdhoaaaGreatDoorW.PrintWords Go.Proofs.YtjggdkcfpdhoaaaGreatDoor.Dots Go.Proofs.YtjggdkcfpdhoaaaGreatDoor.Take Go.Proofs.YtjggdkcfpdhoaaaGreatDoor.Number Go.Proofs.YtjggdkcfpdhoaaaGreatDoor.Opt Go.Proofs.YtjggdkcfpdhoaaaGreatDoor.Parse Go.Proofs.YtjggdkcfpdhoaaaGreatDoor.RefParse Go.Proofs.YtjggdkcfpdhoaaaGreatDoor.Reply Go.Proofs.YtjggdkcfpdhoaaaGreatDoor.Alive Go.Proofs.YtjggdkcfpdhoaaaGreatDoor.LParses Go.Proofs.YtjggdkcfpdhoaaaGreatDoor.PText Go.Proofs.YtjggdkcfpdhoaaaGreatDoor.QDig
set_option linter.unusedVariables false
set_option linter.unusedSimpArgs false
def blankB : ByteArray := ⟨#[32]⟩
def fromB : ByteArray := ⟨#[32, 70, 82, 79, 77, 58]⟩
def toB : ByteArray := ⟨#[32, 84, 79, 58]⟩
def sizeB : ByteArray := ⟨#[32, 83, 73, 90, 69, 61]⟩
def bodyB : ByteArray := ⟨#[32, 66, 79, 68, 89, 61]⟩
def withSize (s : ByteArray) (n : Int) : ByteArray := if 0 ≤ n then s ++ (sizeB ++ itoaB n) else s
def withBody (s b : ByteArray) : ByteArray := if b.toList.isEmpty = true then s else s ++ (bodyB ++ b)
/-- A command's text, before it is read back. -/
def pieceO (c : CmdR) : Option ByteArray :=
  if c.v = MAIL then match textO c.l c.d with | none => none | some p => some (withBody (withSize (c.v ++ (fromB ++ p)) c.n) c.b)
  else if c.v = RCPT then match textO c.l c.d with | none => none | some p => some (withBody (c.v ++ (toB ++ p)) c.b)
  else if c.v = HELO ∨ c.v = EHLO ∨ c.v = VRFY then some (c.v ++ (blankB ++ c.a))
  else if c.v = NOOP then some (if c.a.toList.isEmpty = true then c.v else c.v ++ (blankB ++ c.a))
  else some c.v
/-- Are two commands the same? -/
def eqC (a b : CmdR) : Bool := a.v.toList == b.v.toList && (a.l.toList == b.l.toList && (a.d.toList == b.d.toList && (a.a.toList == b.a.toList && (a.n == b.n && a.b.toList == b.b.toList))))
theorem eqC_mk {a b : CmdR} (h0 : a.v.toList = b.v.toList) (h1 : a.l.toList = b.l.toList) (h2 : a.d.toList = b.d.toList) (h3 : a.a.toList = b.a.toList) (h4 : a.n = b.n) (h5 : a.b.toList = b.b.toList) : eqC a b = true := by
  simp only [eqC, Bool.and_eq_true, beq_iff_eq]
  exact ⟨h0, h1, h2, h3, h4, h5⟩
theorem eqC_eq {a b : CmdR} (h : eqC a b = true) : a = b := by
  simp only [eqC, Bool.and_eq_true, beq_iff_eq] at h
  obtain ⟨h0, h1, h2, h3, h4, h5⟩ := h
  cases a; cases b
  simp only at h0 h1 h2 h3 h4 h5
  rw [toList_inj h0, toList_inj h1, toList_inj h2, toList_inj h3, h4, toList_inj h5]
/-- A command's text; none: there is none. -/
def textC (c : CmdR) : Option ByteArray := match pieceO c with
  | none => none
  | some s => if (parseC s).2 = 0 ∧ eqC (parseC s).1 c = true then some s else none
structure Small (c : CmdR) : Prop where
  v : c.v.size ≤ 1000
  l : c.l.size ≤ 1000
  d : c.d.size ≤ 1000
  a : c.a.size ≤ 1000
  b : c.b.size ≤ 1000
  n0 : -9223372036854775808 ≤ c.n
  n1 : c.n ≤ 9223372036854775807
theorem keyed9 : Go.Maps.Keyed Tryz.prog 9 := Go.Maps.string_keyed Tryz.underlying9
/-- The two words, by the map that the text lays: what the map's three steps do. -/
theorem words_map (W : World) (key : ByteArray) (val : ByteArray) (hk : key = MAIL ∧ val = fromB ∨ key = RCPT ∧ val = toB) :
    ∃ W1 W2 : World, (Instr.mapUpdate 69 (.map (some W.heap.size)) (.string ⟨#[77, 65, 73, 76]⟩) (.string ⟨#[32, 70, 82, 79, 77, 58]⟩)).run Tryz.prog (W.alloc (.map #[] 0)) = .ok () W1 ∧
      (Instr.mapUpdate 69 (.map (some W.heap.size)) (.string ⟨#[82, 67, 80, 84]⟩) (.string ⟨#[32, 84, 79, 58]⟩)).run Tryz.prog W1 = .ok () W2 ∧
      (Instr.lookup 69 (.map (some W.heap.size)) (.string key) false).run Tryz.prog W2 = .ok (.string val) W2 ∧ Below W.heap.size W W2 := by
  have h0 := World.ownsMap_made (H := Unit) W Tryz.prog 9 (plainElem Tryz.prog 9)
  obtain ⟨W1, r1, o1, g1⟩ := h0.update (t := 69) (e := 9) keyed9 Tryz.underlying69 (by unfold maxLen; omega) (key := .string ⟨#[77, 65, 73, 76]⟩) (val := .string ⟨#[32, 70, 82, 79, 77, 58]⟩) (keyOf_string_mk Tryz.underlying9 (by unfold maxLen; decide)) (plainElem_string Tryz.underlying9 (by unfold maxLen; decide))
  obtain ⟨W2, r2, o2, g2⟩ := o1.update (t := 69) (e := 9) keyed9 Tryz.underlying69 (by unfold maxLen; omega) (key := .string ⟨#[82, 67, 80, 84]⟩) (val := .string ⟨#[32, 84, 79, 58]⟩) (keyOf_string_mk Tryz.underlying9 (by unfold maxLen; decide)) (plainElem_string Tryz.underlying9 (by unfold maxLen; decide))
  have hkz : key.size ≤ maxLen := by
    unfold maxLen
    rcases hk with ⟨rfl, _⟩ | ⟨rfl, _⟩ <;> decide
  obtain ⟨v, ps, r3, hv⟩ := o2.lookup (t := 69) (e := 9) keyed9 Tryz.underlying69 (z := .string ⟨#[]⟩) (by kernel_rfl) (plainElem_string Tryz.underlying9 (by unfold maxLen; decide)) (keyOf_string_mk (s := key) Tryz.underlying9 hkz)
  obtain ⟨s, rfl, hs, _⟩ := plainElem_string_inv Tryz.underlying9 hv
  refine ⟨W1, W2, r1, r2, ?_, ?_⟩
  · rw [r3]
    have : s = val := by
      have h1 := congrArg Prod.fst hs
      rcases hk with ⟨rfl, rfl⟩ | ⟨rfl, rfl⟩
      · have h2 : (DataW.lit (.string fromB.data.toList) : DataW Unit) = .lit (.string s.data.toList) := h1
        exact QRef3.data_inj (Lit.string.inj (DataW.lit.inj h2)).symm
      · have h2 : (DataW.lit (.string toB.data.toList) : DataW Unit) = .lit (.string s.data.toList) := h1
        exact QRef3.data_inj (Lit.string.inj (DataW.lit.inj h2)).symm
    rw [this]
  · have b0 : Below W.heap.size W (W.alloc (.map #[] 0)) := (Below.refl _ W).alloc (Nat.le_refl _) _
    have b1 := b0.grown g1 (by have := b0.size; omega) (fun k e => by cases e; exact Nat.le_refl _)
    exact b1.grown g2 (by have := b1.size; omega) (fun k e => by cases e; exact Nat.le_refl _)
theorem text_size (l d p : ByteArray) (h : textO l d = some p) : p.size ≤ l.size + d.size + 3 := by
  unfold textO at h
  cases hb : bareO l d with
  | none => rw [hb] at h; cases h
  | some b =>
    rw [hb] at h
    have := bare_size _ _ _ hb
    cases h
    rw [ByteArray.size_append, ByteArray.size_append]
    show 1 + b.size + 1 ≤ _
    omega
theorem itoa_calls (n : Int) (h0 : 0 ≤ n) (h9 : n ≤ 9223372036854775807) (W : World) (hT : TabW W) : Calls Tryz.prog 28 #[.int .i64 n] W fun e w' => e = .returned (.string (itoaB n)) ∧ Below W.heap.size W w' := by
  refine (Tryz.strconv_Itoa n (by omega) h9 W hT).mono ?_
  rintro e w' ⟨he, hg⟩
  exact ⟨he, itoa_below hg⟩
theorem piece_size (c : CmdR) (hc : Small c) (s : ByteArray) (h : pieceO c = some s) : s.size ≤ 10000 := by
  have h1 := hc.v; have h2 := hc.l; have h3 := hc.d; have h4 := hc.a; have h5 := hc.b
  have hp : ∀ p, textO c.l c.d = some p → p.size ≤ 2100 := fun p hp => by
    unfold textO at hp
    cases hb : bareO c.l c.d with
    | none => rw [hb] at hp; cases hp
    | some b =>
      rw [hb] at hp
      have := bare_size _ _ _ hb
      cases hp
      rw [ByteArray.size_append, ByteArray.size_append]
      show 1 + b.size + 1 ≤ _
      omega
  have hb : ∀ x : ByteArray, (withBody x c.b).size ≤ x.size + 1006 := fun x => by
    unfold withBody
    split
    · omega
    · rw [ByteArray.size_append, ByteArray.size_append]
      show x.size + (6 + c.b.size) ≤ _
      omega
  have hs : ∀ x : ByteArray, (withSize x c.n).size ≤ x.size + 30 := fun x => by
    unfold withSize
    split
    · rename_i h0
      have := itoaB_size c.n h0 hc.n1
      rw [ByteArray.size_append, ByteArray.size_append]
      show x.size + (6 + (itoaB c.n).size) ≤ _
      omega
    · omega
  unfold pieceO at h
  split at h
  · cases ht : textO c.l c.d with
    | none => rw [ht] at h; cases h
    | some p =>
      rw [ht] at h
      have := hp p ht
      cases h
      have e1 := hb (withSize (c.v ++ (fromB ++ p)) c.n)
      have e2 := hs (c.v ++ (fromB ++ p))
      rw [ByteArray.size_append, ByteArray.size_append] at e2
      have e3 : fromB.size = 6 := rfl
      omega
  · split at h
    · cases ht : textO c.l c.d with
      | none => rw [ht] at h; cases h
      | some p =>
        rw [ht] at h
        have := hp p ht
        cases h
        have e1 := hb (c.v ++ (toB ++ p))
        rw [ByteArray.size_append, ByteArray.size_append] at e1
        have e3 : toB.size = 4 := rfl
        omega
    · split at h
      · cases h
        rw [ByteArray.size_append, ByteArray.size_append]
        show c.v.size + (1 + c.a.size) ≤ _
        omega
      · split at h
        · cases h
          split
          · omega
          · rw [ByteArray.size_append, ByteArray.size_append]
            show c.v.size + (1 + c.a.size) ≤ _
            omega
        · cases h; omega
set_option maxRecDepth 100000 in
set_option maxHeartbeats 8000000 in
theorem text_of (c : CmdR) (hc : Small c) (t : Nat) (pv : Value) (w : World) (hA : AW (.iface t pv) w) :
    Calls Tryz.prog 13 #[cmdV c] w fun e w' => e = .returned (bareV (.iface t pv) (textC c)) ∧ Below w.heap.size w w' := by
  have HT := Aside0.mk (fun W (h : W.cell? ⟨1, 0, none⟩ = some (.iface t pv)) => text_calls c.l c.d (by have := hc.l; omega) (by have := hc.d; omega) t pv W h)
  have HPZ := Aside0.mk (piece_size c hc)
  obtain ⟨r, hr⟩ : ∃ r, r = textC c := ⟨_, rfl⟩
  rw [← hr]
  have HR := Aside0.mk hr
  clear hr
  have HW := Aside0.mk (LW.new (w := w) (W := w) (c := c) hA (Below.refl _ _))
  have hsm := hc
  have v1 := hc.v; have v2 := hc.l; have v3 := hc.d; have v4 := hc.a; have v5 := hc.b
  have HN := Aside0.mk (show c.n ≤ 9223372036854775807 from hc.n1)
  clear hA hc hsm
  have hmm := @run_makeMap Tryz.prog
  unfold cmdV
  go_enter Tryz.func13, Tryz.ntmps13
  go_upto_region 1 with (fail)
  rw [alloc_fold]
  obtain ⟨W, hW⟩ : ∃ W, W = w.alloc (cmdO c) := ⟨_, rfl⟩
  obtain ⟨Q, hQ⟩ : ∃ Q, Q = w.heap.size := ⟨_, rfl⟩
  rw [← hW, ← hQ] at HW ⊢
  clear hW hQ
  have n0 := HW.out.cq.c0; have n1 := HW.out.cq.c1; have n2 := HW.out.cq.c2; have n3 := HW.out.cq.c3; have n4 := HW.out.cq.c4; have n5 := HW.out.cq.c5
  go_upto_block 0 with (fail)
  go_cut [4] (fun v4 wc => ∃ s, v4 = .string s ∧ Aside0 (pieceO c = some s) ∧ Aside0 (LW w Q c (.iface t pv) wc))
  case first =>
    obtain ⟨po, hpo⟩ : ∃ x, x = pieceO c := ⟨_, rfl⟩
    have HPE := Aside0.mk hpo
    unfold pieceO at hpo
    by_cases hv1 : c.v = MAIL
    · rw [if_pos hv1] at hpo
      have hv := hv1
      clear hv1
      have qM : (c.v.toList == [77, 65, 73, 76]) = true := by rw [hv]; decide +kernel
      have qHELO : (c.v.toList == [72, 69, 76, 79]) = false := by rw [hv]; decide +kernel
      have qEHLO : (c.v.toList == [69, 72, 76, 79]) = false := by rw [hv]; decide +kernel
      have qVRFY : (c.v.toList == [86, 82, 70, 89]) = false := by rw [hv]; decide +kernel
      have qNOOP : (c.v.toList == [78, 79, 79, 80]) = false := by rw [hv]; decide +kernel
      have HWM := Aside0.mk (fun W => words_map W c.v fromB (by rw [hv]; first | exact .inl ⟨rfl, rfl⟩ | exact .inr ⟨rfl, rfl⟩))
      have hvz : c.v.size = 4 := by rw [hv]; rfl
      clear hv
      have hts := text_size c.l c.d
      obtain ⟨tx, hto⟩ : ∃ x, x = textO c.l c.d := ⟨_, rfl⟩
      rw [← hto] at HT hts hpo
      clear hto
      cases tx with
      | none =>
        simp only [bareV] at HT
        have HPO : Aside0 (pieceO c = none) := ⟨HPE.out.symm.trans hpo⟩
        have HR3 : Aside0 (r = none) := ⟨by rw [HR.out, textC, HPO.out]⟩
        clear hpo HPE hts HWM
        go_upto_region 14 with (go_at_call 33; refine (HT.out _ HW.out.aw.e).mono ?_; rintro e w1 ⟨rfl, hb1⟩; have HW1 := Aside0.mk (HW.out.below hb1); clear hb1; have hE := HW1.out.aw.e)
        go_region
        all_goals
          go_wp2
          go_ret2
          exact ⟨by rw [HR3.out]; rfl, HW1.out.bel.drew⟩
      | some p =>
        simp only [bareV] at HT
        have hpz := hts p rfl
        have HPO := Aside0.mk (HPE.out.symm.trans hpo)
        clear hts hpo HPE
        have f1 : ¬ 9223372036854775807 < 6 + p.size := by omega
        have f2 : ¬ 9223372036854775807 < c.v.size + (6 + p.size) := by omega
        have hkz : fromB.size = 6 := rfl
        have g1 : ¬ 9223372036854775807 < fromB.size + p.size := by omega
        have g2 : ¬ 9223372036854775807 < c.v.size + (fromB.size + p.size) := by omega
        clear hvz hkz
        go_upto_region 15 with (go_at_call 33; refine (HT.out _ HW.out.aw.e).mono ?_; rintro e w1 ⟨rfl, hb1⟩; have HW1 := Aside0.mk (HW.out.below hb1); clear hb1)
        obtain ⟨w2, w3, run1, run2, run3, hb3⟩ := HWM.out w1
        have HW3 := Aside0.mk (HW1.out.below hb3)
        have k0 := HW3.out.cq.c0
        clear hb3 HWM
        go_upto_region 16 with (fail)
        obtain ⟨s1, hs1⟩ : ∃ x, x = c.v ++ (fromB ++ p) := ⟨_, rfl⟩
        have hz1 : s1.size ≤ 4000 := by rw [hs1, ByteArray.size_append, ByteArray.size_append]; show c.v.size + (6 + p.size) ≤ _; omega
        have hfold : c.v ++ ((⟨#[32, 70, 82, 79, 77, 58]⟩ : ByteArray) ++ p) = s1 := hs1.symm
        have hfold2 : c.v ++ (fromB ++ p) = s1 := hs1.symm
        first | rw [hfold] | rw [hfold2]
        rw [hfold2] at HPO
        clear hs1 hfold hfold2 f1 f2 g1 g2 run1 run2 run3 HW1 HW
        have k1 := HW3.out.cq.c1; have k2 := HW3.out.cq.c2; have k3 := HW3.out.cq.c3; have k4 := HW3.out.cq.c4; have k5 := HW3.out.cq.c5
        by_cases hn0 : 0 ≤ c.n
        · have HIT := Aside0.mk (fun W (hT : TabW W) => itoa_calls c.n hn0 HN.out W hT)
          have hiz := itoaB_size c.n hn0 HN.out
          have HPB : Aside0 (pieceO c = some (if c.b.toList.isEmpty = true then s1 ++ (sizeB ++ itoaB c.n) else (s1 ++ (sizeB ++ itoaB c.n)) ++ (bodyB ++ c.b))) := ⟨by rw [HPO.out, withSize, if_pos hn0]; rfl⟩
          obtain ⟨it, hit⟩ : ∃ x, x = itoaB c.n := ⟨_, rfl⟩
          rw [← hit] at HIT HPB hiz
          clear hit
          have t0 : decide (0 ≤ c.n) = true := decide_eq_true hn0
          have f5 : ¬ 9223372036854775807 < 6 + it.size := by omega
          have f6 : ¬ 9223372036854775807 < s1.size + (6 + it.size) := by omega
          go_upto_region 18 with (go_at_call 28; refine (HIT.out _ HW3.out.aw.tab).mono ?_; rintro e w4 ⟨rfl, hb4⟩; have HW4 := Aside0.mk (HW3.out.below hb4); clear hb4)
          obtain ⟨s2, hs2⟩ : ∃ x, x = s1 ++ (sizeB ++ it) := ⟨_, rfl⟩
          have hz2 : s2.size ≤ 5000 := by rw [hs2, ByteArray.size_append, ByteArray.size_append]; show s1.size + (6 + it.size) ≤ _; omega
          have hfold : s1 ++ ((⟨#[32, 83, 73, 90, 69, 61]⟩ : ByteArray) ++ it) = s2 := hs2.symm
          rw [← hs2] at HPB
          rw [hfold]
          clear hs2 hfold f5 f6 k0 k1 k2 k3 k4 k5 HW3
          have k0 := HW4.out.cq.c0; have k1 := HW4.out.cq.c1; have k2 := HW4.out.cq.c2; have k3 := HW4.out.cq.c3; have k4 := HW4.out.cq.c4; have k5 := HW4.out.cq.c5
          cases hbe : c.b.toList.isEmpty with
          | true =>
            rw [hbe] at HPB
            have hb2 : c.b.toList = [] := by simpa using hbe
            go_wp2
            go_meet
            case rel => exact ⟨_, rfl, HPB, HW4⟩
          | false =>
            rw [hbe] at HPB
            have hb2 : ¬ c.b.toList = [] := by simpa using hbe
            have f3 : ¬ 9223372036854775807 < 6 + c.b.size := by omega
            have f4 : ¬ 9223372036854775807 < s2.size + (6 + c.b.size) := by omega
            go_wp2
            go_meet
            case rel => exact ⟨_, rfl, HPB, HW4⟩
        · have HPB : Aside0 (pieceO c = some (if c.b.toList.isEmpty = true then s1 else s1 ++ (bodyB ++ c.b))) := ⟨by rw [HPO.out, withSize, if_neg hn0]; rfl⟩
          have t0 : decide (0 ≤ c.n) = false := decide_eq_false hn0
          cases hbe : c.b.toList.isEmpty with
          | true =>
            rw [hbe] at HPB
            have hb2 : c.b.toList = [] := by simpa using hbe
            go_wp2
            go_meet
            case rel => exact ⟨_, rfl, HPB, HW3⟩
          | false =>
            rw [hbe] at HPB
            have hb2 : ¬ c.b.toList = [] := by simpa using hbe
            have f3 : ¬ 9223372036854775807 < 6 + c.b.size := by omega
            have f4 : ¬ 9223372036854775807 < s1.size + (6 + c.b.size) := by omega
            go_wp2
            go_meet
            case rel => exact ⟨_, rfl, HPB, HW3⟩
    · by_cases hv2 : c.v = RCPT
      · rw [if_neg hv1, if_pos hv2] at hpo
        have hv := hv2
        clear hv1 hv2
        have qM : (c.v.toList == [77, 65, 73, 76]) = false := by rw [hv]; decide +kernel
        have qR : (c.v.toList == [82, 67, 80, 84]) = true := by rw [hv]; decide +kernel
        have qHELO : (c.v.toList == [72, 69, 76, 79]) = false := by rw [hv]; decide +kernel
        have qEHLO : (c.v.toList == [69, 72, 76, 79]) = false := by rw [hv]; decide +kernel
        have qVRFY : (c.v.toList == [86, 82, 70, 89]) = false := by rw [hv]; decide +kernel
        have qNOOP : (c.v.toList == [78, 79, 79, 80]) = false := by rw [hv]; decide +kernel
        have HWM := Aside0.mk (fun W => words_map W c.v toB (by rw [hv]; first | exact .inl ⟨rfl, rfl⟩ | exact .inr ⟨rfl, rfl⟩))
        have hvz : c.v.size = 4 := by rw [hv]; rfl
        clear hv
        have hts := text_size c.l c.d
        obtain ⟨tx, hto⟩ : ∃ x, x = textO c.l c.d := ⟨_, rfl⟩
        rw [← hto] at HT hts hpo
        clear hto
        cases tx with
        | none =>
          simp only [bareV] at HT
          have HPO : Aside0 (pieceO c = none) := ⟨HPE.out.symm.trans hpo⟩
          have HR3 : Aside0 (r = none) := ⟨by rw [HR.out, textC, HPO.out]⟩
          clear hpo HPE hts HWM
          go_upto_region 14 with (go_at_call 33; refine (HT.out _ HW.out.aw.e).mono ?_; rintro e w1 ⟨rfl, hb1⟩; have HW1 := Aside0.mk (HW.out.below hb1); clear hb1; have hE := HW1.out.aw.e)
          go_region
          all_goals
            go_wp2
            go_ret2
            exact ⟨by rw [HR3.out]; rfl, HW1.out.bel.drew⟩
        | some p =>
          simp only [bareV] at HT
          have hpz := hts p rfl
          have HPO := Aside0.mk (HPE.out.symm.trans hpo)
          clear hts hpo HPE
          have f1 : ¬ 9223372036854775807 < 4 + p.size := by omega
          have f2 : ¬ 9223372036854775807 < c.v.size + (4 + p.size) := by omega
          have hkz : toB.size = 4 := rfl
          have g1 : ¬ 9223372036854775807 < toB.size + p.size := by omega
          have g2 : ¬ 9223372036854775807 < c.v.size + (toB.size + p.size) := by omega
          clear hvz hkz
          go_upto_region 15 with (go_at_call 33; refine (HT.out _ HW.out.aw.e).mono ?_; rintro e w1 ⟨rfl, hb1⟩; have HW1 := Aside0.mk (HW.out.below hb1); clear hb1)
          obtain ⟨w2, w3, run1, run2, run3, hb3⟩ := HWM.out w1
          have HW3 := Aside0.mk (HW1.out.below hb3)
          have k0 := HW3.out.cq.c0
          clear hb3 HWM
          go_upto_region 16 with (fail)
          obtain ⟨s1, hs1⟩ : ∃ x, x = c.v ++ (toB ++ p) := ⟨_, rfl⟩
          have hz1 : s1.size ≤ 4000 := by rw [hs1, ByteArray.size_append, ByteArray.size_append]; show c.v.size + (4 + p.size) ≤ _; omega
          have hfold : c.v ++ ((⟨#[32, 84, 79, 58]⟩ : ByteArray) ++ p) = s1 := hs1.symm
          have hfold2 : c.v ++ (toB ++ p) = s1 := hs1.symm
          first | rw [hfold] | rw [hfold2]
          rw [hfold2] at HPO
          clear hs1 hfold hfold2 f1 f2 g1 g2 run1 run2 run3 HW1 HW
          have k1 := HW3.out.cq.c1; have k2 := HW3.out.cq.c2; have k3 := HW3.out.cq.c3; have k4 := HW3.out.cq.c4; have k5 := HW3.out.cq.c5
          have HPB : Aside0 (pieceO c = some (if c.b.toList.isEmpty = true then s1 else s1 ++ (bodyB ++ c.b))) := ⟨by rw [HPO.out]; rfl⟩
          cases hbe : c.b.toList.isEmpty with
          | true =>
            rw [hbe] at HPB
            have hb2 : c.b.toList = [] := by simpa using hbe
            go_wp2
            go_meet
            case rel => exact ⟨_, rfl, HPB, HW3⟩
          | false =>
            rw [hbe] at HPB
            have hb2 : ¬ c.b.toList = [] := by simpa using hbe
            have f3 : ¬ 9223372036854775807 < 6 + c.b.size := by omega
            have f4 : ¬ 9223372036854775807 < s1.size + (6 + c.b.size) := by omega
            go_wp2
            go_meet
            case rel => exact ⟨_, rfl, HPB, HW3⟩
      · rw [if_neg hv1, if_neg hv2] at hpo
        have q1 : (c.v.toList == [77, 65, 73, 76]) = false := by rw [beq_eq_false_iff_ne]; intro h; exact hv1 (toList_inj (h.trans (by decide +kernel)))
        have q2 : (c.v.toList == [82, 67, 80, 84]) = false := by rw [beq_eq_false_iff_ne]; intro h; exact hv2 (toList_inj (h.trans (by decide +kernel)))
        clear hv1 hv2 HT
        have f1 : ¬ 9223372036854775807 < 1 + c.a.size := by omega
        have f2 : ¬ 9223372036854775807 < c.v.size + (1 + c.a.size) := by omega
        by_cases hh : c.v = HELO ∨ c.v = EHLO ∨ c.v = VRFY
        · rw [if_pos hh] at hpo
          have HPO := Aside0.mk (HPE.out.symm.trans hpo)
          clear hpo
          rcases hh with h | h | h
          · have q3 : (c.v.toList == [72, 69, 76, 79]) = true := by rw [h]; decide +kernel
            clear h
            go_wp2
            go_meet
            case rel => exact ⟨_, rfl, HPO, HW⟩
          · have q3 : (c.v.toList == [69, 72, 76, 79]) = true := by rw [h]; decide +kernel
            have qHELO : (c.v.toList == [72, 69, 76, 79]) = false := by rw [h]; decide +kernel
            clear h
            go_wp2
            go_meet
            case rel => exact ⟨_, rfl, HPO, HW⟩
          · have q3 : (c.v.toList == [86, 82, 70, 89]) = true := by rw [h]; decide +kernel
            have qHELO : (c.v.toList == [72, 69, 76, 79]) = false := by rw [h]; decide +kernel
            have qEHLO : (c.v.toList == [69, 72, 76, 79]) = false := by rw [h]; decide +kernel
            clear h
            go_wp2
            go_meet
            case rel => exact ⟨_, rfl, HPO, HW⟩
        · rw [if_neg hh] at hpo
          have qHELO : (c.v.toList == [72, 69, 76, 79]) = false := by rw [beq_eq_false_iff_ne]; intro h; exact hh (.inl (toList_inj (h.trans (by decide +kernel))))
          have qEHLO : (c.v.toList == [69, 72, 76, 79]) = false := by rw [beq_eq_false_iff_ne]; intro h; exact hh (Or.inr <| .inl (toList_inj (h.trans (by decide +kernel))))
          have qVRFY : (c.v.toList == [86, 82, 70, 89]) = false := by rw [beq_eq_false_iff_ne]; intro h; exact hh (Or.inr <| .inr (toList_inj (h.trans (by decide +kernel))))
          clear hh
          by_cases hn : c.v = NOOP
          · rw [if_pos hn] at hpo
            have qN : (c.v.toList == [78, 79, 79, 80]) = true := by rw [hn]; decide +kernel
            clear hn
            cases ha : c.a.toList.isEmpty with
            | true =>
              rw [ha, if_pos rfl] at hpo
              have HPO := Aside0.mk (HPE.out.symm.trans hpo)
              have ha2 : c.a.toList = [] := by simpa using ha
              clear hpo
              go_wp2
              go_meet
              case rel => exact ⟨_, rfl, HPO, HW⟩
            | false =>
              rw [ha, if_neg (by decide)] at hpo
              have HPO := Aside0.mk (HPE.out.symm.trans hpo)
              have ha2 : ¬ c.a.toList = [] := by simpa using ha
              clear hpo
              go_wp2
              go_meet
              case rel => exact ⟨_, rfl, HPO, HW⟩
          · rw [if_neg hn] at hpo
            have HPO := Aside0.mk (HPE.out.symm.trans hpo)
            have qN : (c.v.toList == [78, 79, 79, 80]) = false := by rw [beq_eq_false_iff_ne]; intro h; exact hn (toList_inj (h.trans (by decide +kernel)))
            clear hn hpo
            go_wp2
            go_meet
            case rel => exact ⟨_, rfl, HPO, HW⟩
  case rest =>
    obtain ⟨s, rfl, HP, HWc⟩ := hcut
    clear n0 n1 n2 n3 n4 n5 HW HT
    have hsz := HPZ.out s HP.out
    have HPA := Aside0.mk (fun W (hW : W.cell? ⟨1, 0, none⟩ = some (.iface t pv)) => parse_calls s (by omega) t pv W hW)
    have HR2 : Aside0 (r = if (parseC s).2 = 0 ∧ eqC (parseC s).1 c = true then some s else none) := ⟨by rw [HR.out, textC, HP.out]⟩
    clear HR HPZ HP
    obtain ⟨d, hd⟩ : ∃ d, d = (parseC s).1 := ⟨_, rfl⟩
    obtain ⟨n, hn⟩ : ∃ d, d = (parseC s).2 := ⟨_, rfl⟩
    rw [← hd, ← hn] at HPA HR2
    clear hd hn
    unfold cmdV at HPA
    go_upto_region 21 with (go_at_call 7; refine (HPA.out _ HWc.out.aw.e).mono ?_; rintro e w1 ⟨rfl, hb1⟩; have HW1 := Aside0.mk (HWc.out.below hb1); clear hb1)
    have HD := Aside0.mk (LW.new (w := w) (c := d) HW1.out.aw HW1.out.bel)
    have HWD := Aside0.mk (HW1.out.below ((Below.refl _ _).alloc (Nat.le_refl _) (cmdO d)))
    rw [alloc_fold]
    obtain ⟨W2, hW2⟩ : ∃ W, W = w1.alloc (cmdO d) := ⟨_, rfl⟩
    obtain ⟨Q2, hQ2⟩ : ∃ Q, Q = w1.heap.size := ⟨_, rfl⟩
    rw [← hW2] at HWD
    rw [← hW2, ← hQ2] at HD ⊢
    clear hW2 hQ2 HW1 HWc HPA
    have m0 := HD.out.cq.c0; have m1 := HD.out.cq.c1; have m2 := HD.out.cq.c2; have m3 := HD.out.cq.c3; have m4 := HD.out.cq.c4; have m5 := HD.out.cq.c5
    have k0 := HWD.out.cq.c0; have k1 := HWD.out.cq.c1; have k2 := HWD.out.cq.c2; have k3 := HWD.out.cq.c3; have k4 := HWD.out.cq.c4; have k5 := HWD.out.cq.c5
    have hE := HD.out.aw.e
    by_cases h0 : n = 0
    · subst h0
      by_cases heq : eqC d c = true
      · have HR3 : Aside0 (r = some s) := ⟨by rw [HR2.out, if_pos ⟨rfl, heq⟩]⟩
        have hdc := eqC_eq heq
        subst hdc
        clear heq HR2
        go_wp2
        go_ret2
        exact ⟨by rw [HR3.out]; rfl, HD.out.bel⟩
      · have HR3 : Aside0 (r = none) := ⟨by rw [HR2.out, if_neg (fun h => heq h.2)]⟩
        have HNE := Aside0.mk heq
        clear heq HR2
        go_upto_if 86 with (fail)
        all_goals first
          | (exfalso; exact HNE.out (eqC_mk (by assumption) (by assumption) (by assumption) (by assumption) (by assumption) (by assumption)))
          | skip
        all_goals
          go_upto_region 22 with (fail)
          go_region
        all_goals
          go_wp2
          go_ret2
          exact ⟨by rw [HR3.out]; rfl, HD.out.bel.drew⟩
    · have HR3 : Aside0 (r = none) := ⟨by rw [HR2.out, if_neg (fun h => h0 h.1)]⟩
      clear HR2
      go_upto_region 22 with (fail)
      go_region
      all_goals
        go_wp2
        go_ret2
        exact ⟨by rw [HR3.out]; rfl, HD.out.bel.drew⟩
end Go.Proofs.YtjggdkcfpdhoaaaGreatDoor.STxt
