/- The law SmtpLetters: its walk. -/
import Derived.Test.YtjggdkcfpdhoaaaDoorLow
import Derived.Test.YtjggdkcfpdhoaaaDoorAlive
namespace Go.Proofs.YtjggdkcfpdhoaaaDoor.LLetters
open Go Go.RowKit Go.Proofs.YtjggdkcfpdhoaaaDoorW.PrintWords Go.Proofs.YtjggdkcfpdhoaaaDoor.Take Go.Proofs.YtjggdkcfpdhoaaaDoor.Number Go.Proofs.YtjggdkcfpdhoaaaDoor.Opt Go.Proofs.YtjggdkcfpdhoaaaDoor.Parse Go.Proofs.YtjggdkcfpdhoaaaDoor.RefSmall Go.Proofs.YtjggdkcfpdhoaaaDoor.Low Go.Proofs.YtjggdkcfpdhoaaaDoor.Alive
set_option linter.unusedVariables false
set_option linter.unusedSimpArgs false
/-- A command in its place, and what the examples meet. -/
structure LW (w : World) (Q : Nat) (c : CmdR) (ev : Value) (W : World) : Prop where
  cq : CmdAt Q c W
  aw : AW ev W
  bel : Below w.heap.size w W
theorem LW.below {w W W2 : World} {Q : Nat} {c : CmdR} {ev : Value} (h : LW w Q c ev W) (hb : Below W.heap.size W W2) : LW w Q c ev W2 := ⟨h.cq.below hb, h.aw.below hb, h.bel.trans (hb.mono h.bel.size)⟩
theorem LW.new {w W : World} {c : CmdR} {ev : Value} (ha : AW ev W) (hb : Below w.heap.size w W) : LW w W.heap.size c ev (W.alloc (cmdO c)) :=
  have h0 : Below W.heap.size W (W.alloc (cmdO c)) := (Below.refl _ W).alloc (Nat.le_refl _) _
  ⟨cmdAt_new W c, ha.below h0, hb.trans (h0.mono hb.size)⟩
theorem alloc_fold (W : World) (c : CmdR) : W.alloc (Obj.cells #[Value.string c.v, Value.string c.l, Value.string c.d, Value.string c.a, Value.int IntKind.i64 c.n, Value.string c.b] 26) = W.alloc (cmdO c) := rfl
set_option maxRecDepth 100000 in
set_option maxHeartbeats 4000000 in
theorem four_calls (s : ByteArray) (h5 : s.size ≤ 500) (h4 : 4 ≤ s.size) (t : Nat) (pv : Value) (w : World) (hA : AW (.iface t pv) w) (c : CmdR) (hc : (parseC s) = (c, 0))
    (q1 : (c.v.toList == [68, 65, 84, 65]) = false) (q2 : (c.v.toList == [82, 83, 69, 84]) = false) (q3 : (c.v.toList == [81, 85, 73, 84]) = false) :
    Calls Tryd.prog 3 #[.string s] w fun e w' => e = .returned (.bool true) ∧ Below w.heap.size w w' := by
  have HAL := Aside0.mk (alive_calls t pv w hA)
  have HP1 := Aside0.mk (fun W (hW : W.cell? ⟨1, 0, none⟩ = some (.iface t pv)) => parse_calls s (by omega) t pv W hW)
  rw [hc] at HP1
  have hz4 : (s.extract 0 4).size = 4 := by rw [ByteArray.size_extract]; omega
  have HP2 := Aside0.mk (fun W (hW : W.cell? ⟨1, 0, none⟩ = some (.iface t pv)) => parse_calls (s.extract 0 4) (by omega) t pv W hW)
  have HS := Aside0.mk (fun W => refSmall_calls (s.extract 0 4) (by omega) W)
  have HP3 := Aside0.mk (fun W (hW : W.cell? ⟨1, 0, none⟩ = some (.iface t pv)) => parse_calls (refSmallB (s.extract 0 4)) (by rw [sm_size]; omega) t pv W hW)
  rw [parse_sm, parse_four _ hz4] at HP3
  obtain ⟨d, hd⟩ : ∃ d, d = (parseC (s.extract 0 4)).1 := ⟨_, rfl⟩
  obtain ⟨m, hm⟩ : ∃ d, d = (parseC (s.extract 0 4)).2 := ⟨_, rfl⟩
  obtain ⟨s4, hs4⟩ : ∃ d, d = s.extract 0 4 := ⟨_, rfl⟩
  rw [← hd, ← hm] at HP2 HP3
  rw [← hs4] at HP2 HP3 HS
  obtain ⟨z, hz⟩ : ∃ d, d = refSmallB s4 := ⟨_, rfl⟩
  rw [← hz] at HP3 HS
  have HA := Aside0.mk hA
  have HS4 := Aside0.mk hs4
  have t1 : decide (500 < (s.size : Int)) = false := decide_eq_false (by omega)
  have t2 : decide (500 < s.size) = false := decide_eq_false (by omega)
  clear hA hd hm hs4 hz hz4 hc
  simp only [cmdV] at HP1 HP2 HP3
  go_enter Tryd.func3, Tryd.ntmps3
  go_upto_region 6 with (first
    | (go_at_call 7; refine HAL.out.mono ?_; rintro e w1 ⟨rfl, hb1⟩; have HA1 := Aside0.mk (HA.out.below hb1); have HB1 := Aside0.mk hb1; clear hb1)
    | (go_at_call 8; refine (HP1.out _ HA1.out.e).mono ?_; rintro e w2 ⟨rfl, hb2⟩; have HA2 := Aside0.mk (HA1.out.below hb2); have HB2 := Aside0.mk (HB1.out.trans (hb2.mono HB1.out.size)); clear hb2))
  have HL := Aside0.mk (LW.new (c := c) HA2.out HB2.out)
  rw [alloc_fold]
  obtain ⟨W, hW⟩ : ∃ W, W = w2.alloc (cmdO c) := ⟨_, rfl⟩
  obtain ⟨Q, hQ⟩ : ∃ Q, Q = w2.heap.size := ⟨_, rfl⟩
  rw [← hW, ← hQ] at HL ⊢
  clear hW hQ HA1 HB1 HA2 HB2 HAL HP1 HA
  have n0 := HL.out.cq.c0
  go_upto_region 9 with (go_at_call 8; (try rw [← HS4.out]); refine (HP2.out _ HL.out.aw.e).mono ?_; rintro e w3 ⟨rfl, hb3⟩; have HL3 := Aside0.mk (HL.out.below hb3); clear hb3)
  have HM := Aside0.mk (LW.new (c := d) HL3.out.aw HL3.out.bel)
  have HLM := Aside0.mk (HL3.out.below ((Below.refl _ _).alloc (Nat.le_refl _) (cmdO d)))
  rw [alloc_fold]
  obtain ⟨W2, hW2⟩ : ∃ W, W = w3.alloc (cmdO d) := ⟨_, rfl⟩
  obtain ⟨Q2, hQ2⟩ : ∃ Q, Q = w3.heap.size := ⟨_, rfl⟩
  rw [← hW2] at HLM
  rw [← hW2, ← hQ2] at HM ⊢
  clear hW2 hQ2 HL HL3 HP2 n0
  go_upto_region 10 with (first
    | (go_at_call 9; refine (HS.out _).mono ?_; rintro e w4 ⟨rfl, hb4⟩; have HM4 := Aside0.mk (HM.out.below hb4); clear hb4)
    | (go_at_call 8; refine (HP3.out _ HM4.out.aw.e).mono ?_; rintro e w5 ⟨rfl, hb5⟩; have HM5 := Aside0.mk (HM4.out.below hb5); clear hb5))
  have HN := Aside0.mk (LW.new (c := d) HM5.out.aw HM5.out.bel)
  have HMN := Aside0.mk (HM5.out.below ((Below.refl _ _).alloc (Nat.le_refl _) (cmdO d)))
  rw [alloc_fold]
  obtain ⟨W3, hW3⟩ : ∃ W, W = w5.alloc (cmdO d) := ⟨_, rfl⟩
  obtain ⟨Q3, hQ3⟩ : ∃ Q, Q = w5.heap.size := ⟨_, rfl⟩
  rw [← hW3] at HMN
  rw [← hW3, ← hQ3] at HN ⊢
  clear hW3 hQ3 HM HM4 HM5 HLM HP3
  have m0 := HN.out.cq.c0; have m1 := HN.out.cq.c1; have m2 := HN.out.cq.c2; have m3 := HN.out.cq.c3; have m4 := HN.out.cq.c4; have m5 := HN.out.cq.c5
  have k0 := HMN.out.cq.c0; have k1 := HMN.out.cq.c1; have k2 := HMN.out.cq.c2; have k3 := HMN.out.cq.c3; have k4 := HMN.out.cq.c4; have k5 := HMN.out.cq.c5
  go_wp2
  go_ret
  exact ⟨by simp, HN.out.bel⟩
set_option maxRecDepth 100000 in
set_option maxHeartbeats 4000000 in
/-- The other ways: what is no command, what has no text behind its verb. -/
theorem else_calls (s : ByteArray) (h5 : s.size ≤ 500) (t : Nat) (pv : Value) (w : World) (hA : AW (.iface t pv) w) (c : CmdR) (n : Int) (hc : (parseC s) = (c, n))
    (b : Bool) (hnt : b = true → n = 0) (hnf : b = false → ¬ n = 0) (hq : b = true → lowC c = c) (q1 : b = true → ((c.v.toList == [68, 65, 84, 65]) || (c.v.toList == [82, 83, 69, 84]) || (c.v.toList == [81, 85, 73, 84])) = true) :
    Calls Tryd.prog 3 #[.string s] w fun e w' => e = .returned (.bool true) ∧ Below w.heap.size w w' := by
  have HAL := Aside0.mk (alive_calls t pv w hA)
  have HP1 := Aside0.mk (fun W (hW : W.cell? ⟨1, 0, none⟩ = some (.iface t pv)) => parse_calls s (by omega) t pv W hW)
  have HS := Aside0.mk (fun W => refSmall_calls s (by omega) W)
  have HP3 := Aside0.mk (fun W (hW : W.cell? ⟨1, 0, none⟩ = some (.iface t pv)) => parse_calls (refSmallB s) (by rw [sm_size]; omega) t pv W hW)
  rw [parse_sm, hc] at HP3
  rw [hc] at HP1
  obtain ⟨z, hz⟩ : ∃ d, d = refSmallB s := ⟨_, rfl⟩
  rw [← hz] at HP3 HS
  have HA := Aside0.mk hA
  have t1 : decide (500 < (s.size : Int)) = false := decide_eq_false (by omega)
  have t2 : decide (500 < s.size) = false := decide_eq_false (by omega)
  have HQ := Aside0.mk hq
  have HQ1 := Aside0.mk q1
  have HNT := Aside0.mk hnt
  have HNF := Aside0.mk hnf
  clear hA hz hc hq q1 hnt hnf
  simp only [cmdV] at HP1 HP3
  obtain ⟨d, hd⟩ : ∃ d, d = lowC c := ⟨_, rfl⟩
  rw [← hd] at HP3 HQ
  clear hd
  go_enter Tryd.func3, Tryd.ntmps3
  go_upto_region 6 with (first
    | (go_at_call 7; refine HAL.out.mono ?_; rintro e w1 ⟨rfl, hb1⟩; have HA1 := Aside0.mk (HA.out.below hb1); have HB1 := Aside0.mk hb1; clear hb1)
    | (go_at_call 8; refine (HP1.out _ HA1.out.e).mono ?_; rintro e w2 ⟨rfl, hb2⟩; have HA2 := Aside0.mk (HA1.out.below hb2); have HB2 := Aside0.mk (HB1.out.trans (hb2.mono HB1.out.size)); clear hb2))
  have HL := Aside0.mk (LW.new (c := c) HA2.out HB2.out)
  rw [alloc_fold]
  obtain ⟨W, hW⟩ : ∃ W, W = w2.alloc (cmdO c) := ⟨_, rfl⟩
  obtain ⟨Q, hQ⟩ : ∃ Q, Q = w2.heap.size := ⟨_, rfl⟩
  rw [← hW, ← hQ] at HL ⊢
  clear hW hQ HA1 HB1 HA2 HB2 HAL HP1 HA
  have hstep : ∀ K : Prop, K → K := fun _ h => h
  cases b with
  | false =>
    have hne := HNF.out rfl
    go_upto_region 12 with (first
      | (go_at_call 9; refine (HS.out _).mono ?_; rintro e w4 ⟨rfl, hb4⟩; have HM4 := Aside0.mk (HL.out.below hb4); clear hb4)
      | (go_at_call 8; refine (HP3.out _ HM4.out.aw.e).mono ?_; rintro e w5 ⟨rfl, hb5⟩; have HM5 := Aside0.mk (HM4.out.below hb5); clear hb5))
    have HN := Aside0.mk (LW.new (c := d) HM5.out.aw HM5.out.bel)
    go_wp2
    go_ret
    exact ⟨rfl, HN.out.bel⟩
  | true =>
    have hne := HNT.out rfl
    subst hne
    have n0 := HL.out.cq.c0
    have hcd := HQ.out rfl
    subst hcd
    have HOR := Aside0.mk (HQ1.out rfl)
    obtain ⟨b1, hb1⟩ : ∃ x, (d.v.toList == [68, 65, 84, 65]) = x := ⟨_, rfl⟩
    obtain ⟨b2, hb2⟩ : ∃ x, (d.v.toList == [82, 83, 69, 84]) = x := ⟨_, rfl⟩
    obtain ⟨b3, hb3⟩ : ∃ x, (d.v.toList == [81, 85, 73, 84]) = x := ⟨_, rfl⟩
    rw [hb1, hb2, hb3] at HOR
    have hway : b1 = true ∨ b1 = false ∧ b2 = true ∨ b1 = false ∧ b2 = false ∧ b3 = true := by
      have := HOR.out
      revert this
      cases b1 <;> cases b2 <;> cases b3 <;> decide
    clear HOR HQ HQ1 hstep
    rcases hway with h1 | ⟨h1, h2⟩ | ⟨h1, h2, h3⟩
    all_goals
      (try subst h1); (try subst h2); (try subst h3)
      go_upto_region 12 with (first
        | (go_at_call 9; refine (HS.out _).mono ?_; rintro e w4 ⟨rfl, hb4⟩; have HM4 := Aside0.mk (HL.out.below hb4); clear hb4)
        | (go_at_call 8; refine (HP3.out _ HM4.out.aw.e).mono ?_; rintro e w5 ⟨rfl, hb5⟩; have HM5 := Aside0.mk (HM4.out.below hb5); clear hb5))
      have HN := Aside0.mk (LW.new (c := d) HM5.out.aw HM5.out.bel)
      have HMN := Aside0.mk (HM5.out.below ((Below.refl _ _).alloc (Nat.le_refl _) (cmdO d)))
      rw [alloc_fold]
      obtain ⟨W3, hW3⟩ : ∃ W, W = w5.alloc (cmdO d) := ⟨_, rfl⟩
      obtain ⟨Q3, hQ3⟩ : ∃ Q, Q = w5.heap.size := ⟨_, rfl⟩
      rw [← hW3] at HMN
      rw [← hW3, ← hQ3] at HN ⊢
      clear hW3 hQ3 HL HM4 HM5 HP3 n0
      have m0 := HN.out.cq.c0; have m1 := HN.out.cq.c1; have m2 := HN.out.cq.c2; have m3 := HN.out.cq.c3; have m4 := HN.out.cq.c4; have m5 := HN.out.cq.c5
      have k0 := HMN.out.cq.c0; have k1 := HMN.out.cq.c1; have k2 := HMN.out.cq.c2; have k3 := HMN.out.cq.c3; have k4 := HMN.out.cq.c4; have k5 := HMN.out.cq.c5
      go_wp2
      go_ret
      exact ⟨by simp, HN.out.bel⟩
/-- The law answers true. -/
theorem law_calls (s : ByteArray) (hs : s.size ≤ 9223372036854775807) (t : Nat) (pv : Value) (w : World) (hA : AW (.iface t pv) w) :
    Calls Tryd.prog 3 #[.string s] w fun e w' => e = .returned (.bool true) ∧ Below w.heap.size w w' := by
  by_cases h5 : s.size ≤ 500
  · cases hc : parseC s with
    | mk c n =>
      by_cases h0 : n = 0
      · subst h0
        have hz : (parseC s).2 = 0 := by rw [hc]
        by_cases hw : ((c.v.toList == [68, 65, 84, 65]) || (c.v.toList == [82, 83, 69, 84]) || (c.v.toList == [81, 85, 73, 84])) = true
        · refine else_calls s h5 t pv w hA c 0 hc true (fun _ => rfl) (fun h => by cases h) (fun _ => ?_) (fun _ => hw)
          have h9 := parse_word s hz (by
            rw [hc]
            simp only [Bool.or_eq_true, beq_iff_eq] at hw
            rcases hw with (h | h) | h
            · exact .inl h
            · exact .inr (.inl h)
            · exact .inr (.inr h))
          rw [hc] at h9
          exact h9
        · have hw2 := Bool.eq_false_iff.2 hw
          simp only [Bool.or_eq_false_iff] at hw2
          exact four_calls s h5 (parse_long s hz) t pv w hA c hc hw2.1.1 hw2.1.2 hw2.2
      · exact else_calls s h5 t pv w hA c n hc false (fun h => by cases h) (fun _ => h0) (fun h => by cases h) (fun h => by cases h)
  · have HAL := Aside0.mk (alive_calls t pv w hA)
    clear hA
    have t1 : decide (500 < (s.size : Int)) = true := decide_eq_true (by omega)
    have t2 : decide (500 < s.size) = true := decide_eq_true (by omega)
    go_enter Tryd.func3, Tryd.ntmps3
    go_wp2_with (go_at_call 7; refine HAL.out.mono ?_; rintro e w1 ⟨rfl, hb1⟩; have HB1 := Aside0.mk hb1; clear hb1)
    go_ret
    exact ⟨rfl, HB1.out⟩
end Go.Proofs.YtjggdkcfpdhoaaaDoor.LLetters
