/- The law SmtpTexts: its walk. -/
import Derived.Test.YtjggdkcfpdhoaaaGreatDoorRTxt
import Derived.Test.YtjggdkcfpdhoaaaGreatDoorNum
namespace Go.Proofs.YtjggdkcfpdhoaaaGreatDoor.LTexts
open Go Go.RowKit Go.Proofs.YtjggdkcfpdhoaaaGreatDoorW.PrintWords Go.Proofs.YtjggdkcfpdhoaaaGreatDoor.Dots Go.Proofs.YtjggdkcfpdhoaaaGreatDoor.Take Go.Proofs.YtjggdkcfpdhoaaaGreatDoor.Number Go.Proofs.YtjggdkcfpdhoaaaGreatDoor.Opt Go.Proofs.YtjggdkcfpdhoaaaGreatDoor.Parse Go.Proofs.YtjggdkcfpdhoaaaGreatDoor.RefParse Go.Proofs.YtjggdkcfpdhoaaaGreatDoor.Reply Go.Proofs.YtjggdkcfpdhoaaaGreatDoor.Alive Go.Proofs.YtjggdkcfpdhoaaaGreatDoor.LParses Go.Proofs.YtjggdkcfpdhoaaaGreatDoor.PText Go.Proofs.YtjggdkcfpdhoaaaGreatDoor.STxt Go.Proofs.YtjggdkcfpdhoaaaGreatDoor.RTxt Go.Proofs.YtjggdkcfpdhoaaaGreatDoor.Is
set_option linter.unusedVariables false
set_option linter.unusedSimpArgs false
theorem text_some (c : CmdR) (hc : Small c) (s : ByteArray) (h : textC c = some s) : parseC s = (c, 0) ∧ s.size ≤ 10000 := by
  rw [textC] at h
  cases hp : pieceO c with
  | none => rw [hp] at h; cases h
  | some p =>
    rw [hp] at h
    have hz := piece_size c hc p hp
    replace h : (if (parseC p).2 = 0 ∧ eqC (parseC p).1 c = true then some p else none) = some s := h
    split at h
    · rename_i hh
      obtain rfl := Option.some.inj h
      refine ⟨?_, hz⟩
      have h1 := eqC_eq hh.2
      have h2 : parseC p = ((parseC p).1, (parseC p).2) := rfl
      rw [h2, h1, hh.1]
    · cases h
set_option maxRecDepth 100000 in
set_option maxHeartbeats 4000000 in
theorem small_calls (c : CmdR) (hc : Small c) (E : Int → Addr) (w : World) (hA : AW (errV E (some 2)) w) (hE : Errs Is.All w E) :
    Calls Tryz.prog 5 #[cmdV c] w fun e w' => e = .returned (.bool true) ∧ Below w.heap.size w w' := by
  have HAL := Aside0.mk (alive_calls 151 (.pointer (some (E 2))) w hA)
  have HT1 := Aside0.mk (fun W h => text_of c hc 151 (.pointer (some (E 2))) W h)
  have HT2 := Aside0.mk (fun W (h : AW (errV E (some 2)) W) => refText_of c hc (errV E (some 2)) W h)
  have HTS := Aside0.mk (text_some c hc)
  have HNUM := Aside0.mk (fun W (h : Errs Is.All W E) => num_calls (some 2) 2 E W h rfl)
  rw [errV_some] at HNUM
  obtain ⟨r, hr⟩ : ∃ r, r = textC c := ⟨_, rfl⟩
  rw [← hr] at HT1 HT2 HTS
  clear hr
  have HW := Aside0.mk (LW.new (w := w) (W := w) (c := c) hA (Below.refl _ _))
  have HEW := Aside0.mk (hE.below ((Below.refl _ w).alloc (Nat.le_refl _) (cmdO c)))
  have HA0 := Aside0.mk hA
  have v1 := hc.v; have v2 := hc.l; have v3 := hc.d; have v4 := hc.a; have v5 := hc.b
  have t0 : decide (1000 < (c.v.size : Int)) = false := decide_eq_false (by omega)
  have u0 : decide (1000 < c.v.size) = false := decide_eq_false (by omega)
  have t1 : decide (1000 < (c.l.size : Int)) = false := decide_eq_false (by omega)
  have u1 : decide (1000 < c.l.size) = false := decide_eq_false (by omega)
  have t2 : decide (1000 < (c.d.size : Int)) = false := decide_eq_false (by omega)
  have u2 : decide (1000 < c.d.size) = false := decide_eq_false (by omega)
  have t3 : decide (1000 < (c.a.size : Int)) = false := decide_eq_false (by omega)
  have u3 : decide (1000 < c.a.size) = false := decide_eq_false (by omega)
  have t4 : decide (1000 < (c.b.size : Int)) = false := decide_eq_false (by omega)
  have u4 : decide (1000 < c.b.size) = false := decide_eq_false (by omega)
  clear hA hE hc
  unfold cmdV at HT1 HT2 ⊢
  go_enter Tryz.func5, Tryz.ntmps5
  go_upto_region 1 with (fail)
  rw [alloc_fold]
  obtain ⟨W, hW⟩ : ∃ W, W = w.alloc (cmdO c) := ⟨_, rfl⟩
  obtain ⟨Q, hQ⟩ : ∃ Q, Q = w.heap.size := ⟨_, rfl⟩
  have HAL2 := Aside0.mk (alive_calls 151 (.pointer (some (E 2))) W (by rw [hW]; exact HW.out.aw))
  rw [← hW, ← hQ] at HW ⊢
  rw [← hW] at HEW
  clear hW hQ HAL HA0
  go_upto_region 5 with (go_at_call 6; refine HAL2.out.mono ?_; rintro e w1 ⟨rfl, hb1⟩; have HW1 := Aside0.mk (HW.out.below hb1); have HE1 := Aside0.mk (HEW.out.below hb1); clear hb1; have n0 := HW1.out.cq.c0; have n1 := HW1.out.cq.c1; have n2 := HW1.out.cq.c2; have n3 := HW1.out.cq.c3; have n4 := HW1.out.cq.c4; have n5 := HW1.out.cq.c5)
  clear HW HEW HAL2 t0 t1 t2 t3 t4 u0 u1 u2 u3 u4
  cases r with
  | some s =>
    simp only [bareV] at HT1
    simp only [refV] at HT2
    have hps := HTS.out s rfl
    have HPA := Aside0.mk (fun W (hW : W.cell? ⟨1, 0, none⟩ = some (.iface 151 (.pointer (some (E 2))))) => parse_calls s (by have := hps.2; omega) 151 (.pointer (some (E 2))) W hW)
    rw [hps.1] at HPA
    unfold cmdV at HPA
    clear HTS hps HNUM
    go_upto_region 10 with (first
      | (go_at_call 13; refine (HT1.out _ HW1.out.aw).mono ?_; rintro e w2 ⟨rfl, hb2⟩; have HW2 := Aside0.mk (HW1.out.below hb2); clear hb2 n0 n1 n2 n3 n4 n5; have n0 := HW2.out.cq.c0; have n1 := HW2.out.cq.c1; have n2 := HW2.out.cq.c2; have n3 := HW2.out.cq.c3; have n4 := HW2.out.cq.c4; have n5 := HW2.out.cq.c5)
      | (go_at_call 14; refine (HT2.out _ HW2.out.aw).mono ?_; rintro e w3 ⟨rfl, hb3⟩; have HW3 := Aside0.mk (HW2.out.below hb3); clear hb3)
      | (go_at_call 7; refine (HPA.out _ HW3.out.aw.e).mono ?_; rintro e w4 ⟨rfl, hb4⟩; have HW4 := Aside0.mk (HW3.out.below hb4); clear hb4))
    have HD := Aside0.mk (LW.new (w := w) (c := c) HW4.out.aw HW4.out.bel)
    have HWD := Aside0.mk (HW4.out.below ((Below.refl _ _).alloc (Nat.le_refl _) (cmdO c)))
    rw [alloc_fold]
    obtain ⟨W2, hW2⟩ : ∃ W, W = w4.alloc (cmdO c) := ⟨_, rfl⟩
    obtain ⟨Q2, hQ2⟩ : ∃ Q, Q = w4.heap.size := ⟨_, rfl⟩
    rw [← hW2] at HWD
    rw [← hW2, ← hQ2] at HD ⊢
    clear hW2 hQ2 HW1 HW2 HW3 HW4 HPA HT1 HT2 HE1 n0 n1 n2 n3 n4 n5
    have m0 := HD.out.cq.c0; have m1 := HD.out.cq.c1; have m2 := HD.out.cq.c2; have m3 := HD.out.cq.c3; have m4 := HD.out.cq.c4; have m5 := HD.out.cq.c5
    have k0 := HWD.out.cq.c0; have k1 := HWD.out.cq.c1; have k2 := HWD.out.cq.c2; have k3 := HWD.out.cq.c3; have k4 := HWD.out.cq.c4; have k5 := HWD.out.cq.c5
    go_wp2
    go_ret
    exact ⟨by simp, HD.out.bel⟩
  | none =>
    simp only [bareV] at HT1
    simp only [refV] at HT2
    clear HTS
    go_wp2_with (first
      | (go_at_call 13; refine (HT1.out _ HW1.out.aw).mono ?_; rintro e w2 ⟨rfl, hb2⟩; have HW2 := Aside0.mk (HW1.out.below hb2); have HE2 := Aside0.mk (HE1.out.below hb2); clear hb2 n0 n1 n2 n3 n4 n5; have n0 := HW2.out.cq.c0; have n1 := HW2.out.cq.c1; have n2 := HW2.out.cq.c2; have n3 := HW2.out.cq.c3; have n4 := HW2.out.cq.c4; have n5 := HW2.out.cq.c5)
      | (go_at_call 14; refine (HT2.out _ HW2.out.aw).mono ?_; rintro e w3 ⟨rfl, hb3⟩; have HW3 := Aside0.mk (HW2.out.below hb3); have HE3 := Aside0.mk (HE2.out.below hb3); clear hb3)
      | (go_at_call 10; refine (HNUM.out _ HE3.out).mono ?_; rintro e w4 ⟨rfl, hb4⟩; have HW4 := Aside0.mk (HW3.out.below hb4); clear hb4))
    go_ret
    exact ⟨by simp, HW4.out.bel⟩
set_option maxRecDepth 100000 in
set_option maxHeartbeats 4000000 in
theorem law_calls (c : CmdR) (b0 : -9223372036854775808 ≤ c.n) (b1 : c.n ≤ 9223372036854775807) (E : Int → Addr) (w : World) (hA : AW (errV E (some 2)) w) (hE : Errs Is.All w E) :
    Calls Tryz.prog 5 #[cmdV c] w fun e w' => e = .returned (.bool true) ∧ Below w.heap.size w w' := by
  have big : ∀ (k : Nat), k ≤ 4 → (∀ j, j < k → ([c.v.size, c.l.size, c.d.size, c.a.size, c.b.size].getD j 0) ≤ 1000) → 1000 < ([c.v.size, c.l.size, c.d.size, c.a.size, c.b.size].getD k 0) → Calls Tryz.prog 5 #[cmdV c] w fun e w' => e = .returned (.bool true) ∧ Below w.heap.size w w' := by
    intro k hk hlt hbig
    have HW := Aside0.mk (LW.new (w := w) (W := w) (c := c) hA (Below.refl _ _))
    have HL := Aside0.mk hlt
    have HG := Aside0.mk hbig
    clear hA hE hlt hbig b0 b1
    unfold cmdV
    match k, hk with
    | 0, _ =>
      have s0 : 1000 < c.v.size := HG.out
      have t0 : decide (1000 < (c.v.size : Int)) = true := decide_eq_true (by omega)
      have u0 : decide (1000 < c.v.size) = true := decide_eq_true s0
      clear HL HG
      go_enter Tryz.func5, Tryz.ntmps5
      go_upto_region 1 with (fail)
      rw [alloc_fold]
      obtain ⟨W, hW⟩ : ∃ W, W = w.alloc (cmdO c) := ⟨_, rfl⟩
      obtain ⟨Q, hQ⟩ : ∃ Q, Q = w.heap.size := ⟨_, rfl⟩
      have HAL2 := Aside0.mk (alive_calls 151 (.pointer (some (E 2))) W (by rw [hW]; exact HW.out.aw))
      rw [← hW, ← hQ] at HW ⊢
      clear hW hQ
      go_wp2_with (go_at_call 6; refine HAL2.out.mono ?_; rintro e w1 ⟨rfl, hb1⟩; have HW1 := Aside0.mk (HW.out.below hb1); clear hb1; have n0 := HW1.out.cq.c0; have n1 := HW1.out.cq.c1; have n2 := HW1.out.cq.c2; have n3 := HW1.out.cq.c3; have n4 := HW1.out.cq.c4; have n5 := HW1.out.cq.c5)
      go_ret
      exact ⟨rfl, HW1.out.bel⟩
    | 1, _ =>
      have s0 : c.v.size ≤ 1000 := HL.out 0 (by omega)
      have t0 : decide (1000 < (c.v.size : Int)) = false := decide_eq_false (by omega)
      have u0 : decide (1000 < c.v.size) = false := decide_eq_false (by omega)
      have s1 : 1000 < c.l.size := HG.out
      have t1 : decide (1000 < (c.l.size : Int)) = true := decide_eq_true (by omega)
      have u1 : decide (1000 < c.l.size) = true := decide_eq_true s1
      clear HL HG
      go_enter Tryz.func5, Tryz.ntmps5
      go_upto_region 1 with (fail)
      rw [alloc_fold]
      obtain ⟨W, hW⟩ : ∃ W, W = w.alloc (cmdO c) := ⟨_, rfl⟩
      obtain ⟨Q, hQ⟩ : ∃ Q, Q = w.heap.size := ⟨_, rfl⟩
      have HAL2 := Aside0.mk (alive_calls 151 (.pointer (some (E 2))) W (by rw [hW]; exact HW.out.aw))
      rw [← hW, ← hQ] at HW ⊢
      clear hW hQ
      go_wp2_with (go_at_call 6; refine HAL2.out.mono ?_; rintro e w1 ⟨rfl, hb1⟩; have HW1 := Aside0.mk (HW.out.below hb1); clear hb1; have n0 := HW1.out.cq.c0; have n1 := HW1.out.cq.c1; have n2 := HW1.out.cq.c2; have n3 := HW1.out.cq.c3; have n4 := HW1.out.cq.c4; have n5 := HW1.out.cq.c5)
      go_ret
      exact ⟨rfl, HW1.out.bel⟩
    | 2, _ =>
      have s0 : c.v.size ≤ 1000 := HL.out 0 (by omega)
      have t0 : decide (1000 < (c.v.size : Int)) = false := decide_eq_false (by omega)
      have u0 : decide (1000 < c.v.size) = false := decide_eq_false (by omega)
      have s1 : c.l.size ≤ 1000 := HL.out 1 (by omega)
      have t1 : decide (1000 < (c.l.size : Int)) = false := decide_eq_false (by omega)
      have u1 : decide (1000 < c.l.size) = false := decide_eq_false (by omega)
      have s2 : 1000 < c.d.size := HG.out
      have t2 : decide (1000 < (c.d.size : Int)) = true := decide_eq_true (by omega)
      have u2 : decide (1000 < c.d.size) = true := decide_eq_true s2
      clear HL HG
      go_enter Tryz.func5, Tryz.ntmps5
      go_upto_region 1 with (fail)
      rw [alloc_fold]
      obtain ⟨W, hW⟩ : ∃ W, W = w.alloc (cmdO c) := ⟨_, rfl⟩
      obtain ⟨Q, hQ⟩ : ∃ Q, Q = w.heap.size := ⟨_, rfl⟩
      have HAL2 := Aside0.mk (alive_calls 151 (.pointer (some (E 2))) W (by rw [hW]; exact HW.out.aw))
      rw [← hW, ← hQ] at HW ⊢
      clear hW hQ
      go_wp2_with (go_at_call 6; refine HAL2.out.mono ?_; rintro e w1 ⟨rfl, hb1⟩; have HW1 := Aside0.mk (HW.out.below hb1); clear hb1; have n0 := HW1.out.cq.c0; have n1 := HW1.out.cq.c1; have n2 := HW1.out.cq.c2; have n3 := HW1.out.cq.c3; have n4 := HW1.out.cq.c4; have n5 := HW1.out.cq.c5)
      go_ret
      exact ⟨rfl, HW1.out.bel⟩
    | 3, _ =>
      have s0 : c.v.size ≤ 1000 := HL.out 0 (by omega)
      have t0 : decide (1000 < (c.v.size : Int)) = false := decide_eq_false (by omega)
      have u0 : decide (1000 < c.v.size) = false := decide_eq_false (by omega)
      have s1 : c.l.size ≤ 1000 := HL.out 1 (by omega)
      have t1 : decide (1000 < (c.l.size : Int)) = false := decide_eq_false (by omega)
      have u1 : decide (1000 < c.l.size) = false := decide_eq_false (by omega)
      have s2 : c.d.size ≤ 1000 := HL.out 2 (by omega)
      have t2 : decide (1000 < (c.d.size : Int)) = false := decide_eq_false (by omega)
      have u2 : decide (1000 < c.d.size) = false := decide_eq_false (by omega)
      have s3 : 1000 < c.a.size := HG.out
      have t3 : decide (1000 < (c.a.size : Int)) = true := decide_eq_true (by omega)
      have u3 : decide (1000 < c.a.size) = true := decide_eq_true s3
      clear HL HG
      go_enter Tryz.func5, Tryz.ntmps5
      go_upto_region 1 with (fail)
      rw [alloc_fold]
      obtain ⟨W, hW⟩ : ∃ W, W = w.alloc (cmdO c) := ⟨_, rfl⟩
      obtain ⟨Q, hQ⟩ : ∃ Q, Q = w.heap.size := ⟨_, rfl⟩
      have HAL2 := Aside0.mk (alive_calls 151 (.pointer (some (E 2))) W (by rw [hW]; exact HW.out.aw))
      rw [← hW, ← hQ] at HW ⊢
      clear hW hQ
      go_wp2_with (go_at_call 6; refine HAL2.out.mono ?_; rintro e w1 ⟨rfl, hb1⟩; have HW1 := Aside0.mk (HW.out.below hb1); clear hb1; have n0 := HW1.out.cq.c0; have n1 := HW1.out.cq.c1; have n2 := HW1.out.cq.c2; have n3 := HW1.out.cq.c3; have n4 := HW1.out.cq.c4; have n5 := HW1.out.cq.c5)
      go_ret
      exact ⟨rfl, HW1.out.bel⟩
    | 4, _ =>
      have s0 : c.v.size ≤ 1000 := HL.out 0 (by omega)
      have t0 : decide (1000 < (c.v.size : Int)) = false := decide_eq_false (by omega)
      have u0 : decide (1000 < c.v.size) = false := decide_eq_false (by omega)
      have s1 : c.l.size ≤ 1000 := HL.out 1 (by omega)
      have t1 : decide (1000 < (c.l.size : Int)) = false := decide_eq_false (by omega)
      have u1 : decide (1000 < c.l.size) = false := decide_eq_false (by omega)
      have s2 : c.d.size ≤ 1000 := HL.out 2 (by omega)
      have t2 : decide (1000 < (c.d.size : Int)) = false := decide_eq_false (by omega)
      have u2 : decide (1000 < c.d.size) = false := decide_eq_false (by omega)
      have s3 : c.a.size ≤ 1000 := HL.out 3 (by omega)
      have t3 : decide (1000 < (c.a.size : Int)) = false := decide_eq_false (by omega)
      have u3 : decide (1000 < c.a.size) = false := decide_eq_false (by omega)
      have s4 : 1000 < c.b.size := HG.out
      have t4 : decide (1000 < (c.b.size : Int)) = true := decide_eq_true (by omega)
      have u4 : decide (1000 < c.b.size) = true := decide_eq_true s4
      clear HL HG
      go_enter Tryz.func5, Tryz.ntmps5
      go_upto_region 1 with (fail)
      rw [alloc_fold]
      obtain ⟨W, hW⟩ : ∃ W, W = w.alloc (cmdO c) := ⟨_, rfl⟩
      obtain ⟨Q, hQ⟩ : ∃ Q, Q = w.heap.size := ⟨_, rfl⟩
      have HAL2 := Aside0.mk (alive_calls 151 (.pointer (some (E 2))) W (by rw [hW]; exact HW.out.aw))
      rw [← hW, ← hQ] at HW ⊢
      clear hW hQ
      go_wp2_with (go_at_call 6; refine HAL2.out.mono ?_; rintro e w1 ⟨rfl, hb1⟩; have HW1 := Aside0.mk (HW.out.below hb1); clear hb1; have n0 := HW1.out.cq.c0; have n1 := HW1.out.cq.c1; have n2 := HW1.out.cq.c2; have n3 := HW1.out.cq.c3; have n4 := HW1.out.cq.c4; have n5 := HW1.out.cq.c5)
      go_ret
      exact ⟨rfl, HW1.out.bel⟩
  by_cases h0 : c.v.size ≤ 1000
  · skip
    by_cases h1 : c.l.size ≤ 1000
    · skip
      by_cases h2 : c.d.size ≤ 1000
      · skip
        by_cases h3 : c.a.size ≤ 1000
        · skip
          by_cases h4 : c.b.size ≤ 1000
          · skip
            exact small_calls c ⟨h0, h1, h2, h3, h4, b0, b1⟩ E w hA hE
          · exact big 4 (by omega) (fun j hj => by match j, hj with | 0, _ => exact h0 | 1, _ => exact h1 | 2, _ => exact h2 | 3, _ => exact h3) (by show 1000 < c.b.size; omega)
        · exact big 3 (by omega) (fun j hj => by match j, hj with | 0, _ => exact h0 | 1, _ => exact h1 | 2, _ => exact h2) (by show 1000 < c.a.size; omega)
      · exact big 2 (by omega) (fun j hj => by match j, hj with | 0, _ => exact h0 | 1, _ => exact h1) (by show 1000 < c.d.size; omega)
    · exact big 1 (by omega) (fun j hj => by match j, hj with | 0, _ => exact h0) (by show 1000 < c.l.size; omega)
  · exact big 0 (by omega) (fun j hj => by match j, hj with | j, hj => omega) (by show 1000 < c.v.size; omega)
end Go.Proofs.YtjggdkcfpdhoaaaGreatDoor.LTexts
