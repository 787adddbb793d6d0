/- The law SmtpParses: its walk. -/
import Derived.Test.YtjggdkcfpdhoaaaGreatDoorRefParse
import Derived.Test.YtjggdkcfpdhoaaaGreatDoorAlive
namespace Go.Proofs.YtjggdkcfpdhoaaaGreatDoor.LParses
open Go Go.RowKit Go.Proofs.YtjggdkcfpdhoaaaGreatDoorW.PrintWords Go.Proofs.YtjggdkcfpdhoaaaGreatDoor.Take Go.Proofs.YtjggdkcfpdhoaaaGreatDoor.Number Go.Proofs.YtjggdkcfpdhoaaaGreatDoor.Opt Go.Proofs.YtjggdkcfpdhoaaaGreatDoor.Parse Go.Proofs.YtjggdkcfpdhoaaaGreatDoor.RefParse Go.Proofs.YtjggdkcfpdhoaaaGreatDoor.Alive
set_option linter.unusedVariables false
set_option linter.unusedSimpArgs false
/-- A command in its place, and what the examples meet. -/
structure LW (w : World) (Q : Nat) (c : CmdR) (ev : Value) (W : World) : Prop where
  cq : CmdAt Q c W
  aw : AW ev W
  bel : Below w.heap.size w W
theorem LW.below {w W W2 : World} {Q : Nat} {c : CmdR} {ev : Value} (h : LW w Q c ev W) (hb : Below W.heap.size W W2) : LW w Q c ev W2 := ⟨h.cq.below hb, h.aw.below hb, h.bel.trans (hb.mono h.bel.size)⟩
theorem LW.new {w W : World} {c : CmdR} {ev : Value} (ha : AW ev W) (hb : Below w.heap.size w W) : LW w W.heap.size c ev (W.alloc (cmdO c)) :=
  have h0 : Below W.heap.size W (W.alloc (cmdO c)) := (Below.refl _ W).alloc (Nat.le_refl _) _
  ⟨cmdAt_new W c, ha.below h0, hb.trans (h0.mono hb.size)⟩
theorem LW.newQ {w W : World} {c : CmdR} {ev : Value} (ha : AW ev W) (hb : Below w.heap.size w W) : LW w W.heap.size c ev (W.alloc (cmdQ c)) :=
  have h0 : Below W.heap.size W (W.alloc (cmdQ c)) := (Below.refl _ W).alloc (Nat.le_refl _) _
  ⟨cmdAt_newQ W c, ha.below h0, hb.trans (h0.mono hb.size)⟩
theorem alloc_fold (W : World) (c : CmdR) : W.alloc (Obj.cells #[Value.string c.v, Value.string c.l, Value.string c.d, Value.string c.a, Value.int IntKind.i64 c.n, Value.string c.b] 26) = W.alloc (cmdO c) := rfl
theorem alloc_foldQ (W : World) (c : CmdR) : W.alloc (Obj.cells #[Value.string c.v, Value.string c.l, Value.string c.d, Value.string c.a, Value.int IntKind.i64 c.n, Value.string c.b] 29) = W.alloc (cmdQ c) := rfl
set_option maxRecDepth 100000 in
set_option maxHeartbeats 4000000 in
theorem law_calls (s : ByteArray) (hs : s.size ≤ 9223372036854775807) (t : Nat) (pv : Value) (w : World) (hA : AW (.iface t pv) w) :
    Calls Tryz.prog 3 #[.string s] w fun e w' => e = .returned (.bool true) ∧ Below w.heap.size w w' := by
  have HAL := Aside0.mk (alive_calls t pv w hA)
  by_cases h2 : s.size ≤ 2000
  · have HP1 := Aside0.mk (fun W (hW : W.cell? ⟨1, 0, none⟩ = some (.iface t pv)) => parse_calls s (by omega) t pv W hW)
    have HP2 := Aside0.mk (fun W => refParse_calls s (by omega) W)
    obtain ⟨c, hc⟩ : ∃ d, d = (parseC s).1 := ⟨_, rfl⟩
    obtain ⟨n, hn⟩ : ∃ d, d = (parseC s).2 := ⟨_, rfl⟩
    rw [← hc, ← hn] at HP1 HP2
    have HA := Aside0.mk hA
    have t1 : decide (2000 < (s.size : Int)) = false := decide_eq_false (by omega)
    have t2 : decide (2000 < s.size) = false := decide_eq_false (by omega)
    clear hA hc hn
    simp only [cmdV] at HP1 HP2
    go_enter Tryz.func3, Tryz.ntmps3
    go_upto_region 6 with (first
      | (go_at_call 6; refine HAL.out.mono ?_; rintro e w1 ⟨rfl, hb1⟩; have HA1 := Aside0.mk (HA.out.below hb1); have HB1 := Aside0.mk hb1; clear hb1)
      | (go_at_call 7; refine (HP1.out _ HA1.out.e).mono ?_; rintro e w2 ⟨rfl, hb2⟩; have HA2 := Aside0.mk (HA1.out.below hb2); have HB2 := Aside0.mk (HB1.out.trans (hb2.mono HB1.out.size)); clear hb2))
    have HL := Aside0.mk (LW.new (c := c) HA2.out HB2.out)
    rw [alloc_fold]
    obtain ⟨W, hW⟩ : ∃ W, W = w2.alloc (cmdO c) := ⟨_, rfl⟩
    obtain ⟨Q, hQ⟩ : ∃ Q, Q = w2.heap.size := ⟨_, rfl⟩
    rw [← hW, ← hQ] at HL ⊢
    clear hW hQ HA1 HB1 HA2 HB2 HAL HP1 HA
    go_upto_region 7 with (go_at_call 8; refine (HP2.out _).mono ?_; rintro e w3 ⟨rfl, hb3⟩; have HL3 := Aside0.mk (HL.out.below hb3); clear hb3)
    have HM := Aside0.mk (LW.newQ (c := c) HL3.out.aw HL3.out.bel)
    have HLM := Aside0.mk (HL3.out.below ((Below.refl _ _).alloc (Nat.le_refl _) (cmdQ c)))
    rw [alloc_foldQ]
    obtain ⟨W2, hW2⟩ : ∃ W, W = w3.alloc (cmdQ c) := ⟨_, rfl⟩
    obtain ⟨Q2, hQ2⟩ : ∃ Q, Q = w3.heap.size := ⟨_, rfl⟩
    rw [← hW2] at HLM
    rw [← hW2, ← hQ2] at HM ⊢
    clear hW2 hQ2 HL HL3 HP2
    have m0 := HM.out.cq.c0; have m1 := HM.out.cq.c1; have m2 := HM.out.cq.c2; have m3 := HM.out.cq.c3; have m4 := HM.out.cq.c4; have m5 := HM.out.cq.c5
    have k0 := HLM.out.cq.c0; have k1 := HLM.out.cq.c1; have k2 := HLM.out.cq.c2; have k3 := HLM.out.cq.c3; have k4 := HLM.out.cq.c4; have k5 := HLM.out.cq.c5
    go_wp2
    go_ret
    exact ⟨by simp, HM.out.bel⟩
  · clear hA
    have t1 : decide (2000 < (s.size : Int)) = true := decide_eq_true (by omega)
    have t2 : decide (2000 < s.size) = true := decide_eq_true (by omega)
    go_enter Tryz.func3, Tryz.ntmps3
    go_wp2_with (go_at_call 6; refine HAL.out.mono ?_; rintro e w1 ⟨rfl, hb1⟩; have HB1 := Aside0.mk hb1; clear hb1)
    go_ret
    exact ⟨rfl, HB1.out⟩
end Go.Proofs.YtjggdkcfpdhoaaaGreatDoor.LParses
