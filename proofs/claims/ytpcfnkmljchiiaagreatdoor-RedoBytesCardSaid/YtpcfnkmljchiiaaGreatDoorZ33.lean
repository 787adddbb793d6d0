/- Steps towards RBoth: DLst, OStp, OClo, OFmt, OList. -/
import Derived.Test.YtpcfnkmljchiiaaGreatDoorZ32
import Derived.Test.YtpcfnkmljchiiaaGreatDoorZ21
import Derived.Shelf.SlicesE.DeleteFunc
import Derived.Shelf.SlGeneric
import Derived.Sort.OwnSorted
set_option linter.unusedVariables false
set_option linter.unusedSimpArgs false
section
/- Disk.List. -/
namespace Go.Proofs.YtpcfnkmljchiiaaGreatDoor.DLst
open Go Go.RowKit Go.Maps Go.Proofs.YtpcfnkmljchiiaaGreatDoorW.PrintWords Go.Proofs.YtpcfnkmljchiiaaGreatDoorW.PrintLast DPl DAt Go.Proofs.YtpcfnkmljchiiaaGreatDoor.Is DFil DSd DDo DRdp DLay
variable {B : Bx} {p : Nat} {D : Dsk} {E : Int → Addr} {w : World}
set_option maxRecDepth 100000 in
set_option maxHeartbeats 4000000 in
theorem list_calls (h : DiskAt B w p D) (hE : ErrAt B w E) (hk : D.Ok) (hst : D.steps ≤ 1000000000) (ho : D.off = false) (hri : Rising D.now) (hn : D.now.length ≤ 1000000000) :
    Calls Tryz.prog 12 #[.pointer (some ⟨p, 0, none⟩)] w fun e w' => ∃ A c, e = .returned (.tuple #[.slice A D.now.length c, .nilIface]) ∧ D.now.length ≤ c ∧ Kd.R Kd.string 9 w' w.heap.size (fun _ => True) (.slice A D.now.length c) (namesL D.now) ∧ Below w.heap.size w w' := by
  have HA := Aside0.mk (ask_zero B p D E _ h hE)
  rw [if_neg (by rw [ho]; decide), errV_none] at HA
  obtain ⟨L, m1, m2, fv, ov, hl⟩ := h
  have HS := Aside0.mk (sorted_calls m1 D.now w hl.now hn hri)
  have HK := Aside0.mk (keys_calls m1 w)
  have c1 : w.cell? ⟨p, 1, none⟩ = some (.map (some m1)) := (blk_cell hl.obj 1).trans rfl
  clear hl hE
  go_enter Tryz.func12, Tryz.ntmps12
  go_wp2_with (first
    | (go_at_call 59; refine HA.out.mono ?_; rintro e w1 ⟨rfl, rfl⟩)
    | (go_at_call 61; refine HK.out.mono ?_; rintro e w2 ⟨rfl, rfl⟩)
    | (go_at_call 60; refine HS.out.mono ?_; rintro e w3 ⟨A, c, rfl, hc, hC, hb⟩; have HC := Aside0.mk hC; have HCc := Aside0.mk hc; have HB := Aside0.mk hb; clear hC hc hb))
  refine bodyPost_ret (v := .tuple #[.slice A D.now.length c, .nilIface]) (by simp [results, Tryz.results12, go_sem]) rfl ⟨A, c, rfl, HCc.out, HC.out, HB.out⟩
end Go.Proofs.YtpcfnkmljchiiaaGreatDoor.DLst
end
section
/- redo.steps: steps one behind the other, up to the first error. Written by a small program (one text a list of functions). -/
namespace Go.Proofs.YtpcfnkmljchiiaaGreatDoor.OStp
open Go Go.RowKit Go.Maps Go.WideMaps Go.Proofs.YtpcfnkmljchiiaaGreatDoorW.PrintWords Go.Proofs.YtpcfnkmljchiiaaGreatDoorW.PrintLast Go.Proofs.YtpcfnkmljchiiaaGreatDoorW.PrintMore DBase DPl DAt DEnt DNam Go.Proofs.YtpcfnkmljchiiaaGreatDoor.Is DFil DUsd DStp DCh2 DOps DSyn DSd DCr DAk Go.Proofs.YtpcfnkmljchiiaaGreatDoor.OPl Go.Proofs.YtpcfnkmljchiiaaGreatDoor.OSz Go.Proofs.YtpcfnkmljchiiaaGreatDoor.OMade Go.Proofs.YtpcfnkmljchiiaaGreatDoor.ODo Go.Proofs.YtpcfnkmljchiiaaGreatDoor.OAll
/-- Steps, up to the first error. -/
def runs : List (Dsk → Option Int × Dsk) → Dsk → Option Int × Dsk
  | [], D => (none, D)
  | f :: r, D => andThen (f D) (runs r)
structure SW (B : Bx) (w : World) (p : Nat) (E : Int → Addr) (D : Dsk) (R : Option Int × Dsk) (fs : List (Dsk → Option Int × Dsk)) (j : Nat) (D1 : Dsk) (W : World) : Prop where
  turn : Turn B w W
  errs : ErrAt B W E
  disk : DiskAt B W p D1
  ok : D1.Ok
  steps : D1.steps ≤ D.steps + 4000000 * j
  eq : R = runs fs D1
variable {B : Bx} {p l : Nat} {D D1 : Dsk} {E : Int → Addr} {w W V : World}
theorem SW.next {j : Nat} {D2 : Dsk} {R : Option Int × Dsk} {f : Dsk → Option Int × Dsk} {fs : List (Dsk → Option Int × Dsk)} (h : SW B w p E D R (f :: fs) j D1 W) (ht : Turn B W V) (hd : DiskAt B V p D2) (hf : f D1 = (none, D2)) (hq : Kq 4000000 D1 D2) : SW B w p E D R fs (j + 1) D2 V :=
  ⟨h.turn.trans ht, h.errs.turn ht, hd, hq.ok, by have := h.steps; have := hq.steps; omega, h.eq.trans (by show andThen (f D1) _ = _; rw [hf]; rfl)⟩
theorem SW.stop {j : Nat} {D2 : Dsk} {x : Int} {R : Option Int × Dsk} {f : Dsk → Option Int × Dsk} {fs : List (Dsk → Option Int × Dsk)} (h : SW B w p E D R (f :: fs) j D1 W) (hf : f D1 = (some x, D2)) : R = (some x, D2) :=
  h.eq.trans (by show andThen (f D1) _ = _; rw [hf]; rfl)
set_option maxRecDepth 100000 in
set_option maxHeartbeats 8000000 in
theorem steps_fmt (gb bx : Nat) (S0 S1 : Dsk → Option Int × Dsk) (hfs : w.heap[gb]? = some (.cells #[.func (Fn.func 81) #[] #[.pointer (some ⟨bx, 0, none⟩)], .func (Fn.func 35) #[.pointer (some ⟨p, 0, none⟩)] #[]] 81 (0, 0))) (h : DiskAt B w p D) (hE : ErrAt B w E) (hk : D.Ok) (hst : D.steps ≤ 800000000)
    (h0 : ∀ (U : World) (D1 : Dsk), Turn B w U → ErrAt B U E → DiskAt B U p D1 → D1.Ok → D1.steps ≤ D.steps + 16000000 → Calls Tryz.prog 81 #[.pointer (some ⟨bx, 0, none⟩)] U fun e V => e = .returned (errV E (S0 D1).1) ∧ DiskAt B V p (S0 D1).2 ∧ Turn B U V) (q0 : ∀ D1 : Dsk, D1.Ok → Kq 4000000 D1 (S0 D1).2)
    (h1 : ∀ (U : World) (D1 : Dsk), Turn B w U → ErrAt B U E → DiskAt B U p D1 → D1.Ok → D1.steps ≤ D.steps + 16000000 → Calls Tryz.prog 35 #[.pointer (some ⟨p, 0, none⟩)] U fun e V => e = .returned (errV E (S1 D1).1) ∧ DiskAt B V p (S1 D1).2 ∧ Turn B U V) (q1 : ∀ D1 : Dsk, D1.Ok → Kq 4000000 D1 (S1 D1).2) :
    Calls Tryz.prog 80 #[.slice (some ⟨gb, 0, none⟩) 2 2] w fun e w' => e = .returned (errV E (runs [S0, S1] D).1) ∧ DiskAt B w' p (runs [S0, S1] D).2 ∧ Turn B w w' := by
  have HFS := Aside0.mk hfs
  have H0 := Aside0.mk h0
  have Q0 := Aside0.mk q0
  have H1 := Aside0.mk h1
  have Q1 := Aside0.mk q1
  obtain ⟨R, hR⟩ : ∃ R, R = runs [S0, S1] D := ⟨_, rfl⟩
  rw [← hR]
  have HS0 := Aside0.mk (show SW B w p E D R [S0, S1] 0 D w from ⟨Turn.refl _ _, hE, h, hk, by omega, hR⟩)
  clear hfs h hE hk hR h0 q0 h1 q1
  go_enter Tryz.func80, Tryz.ntmps80
  go_wp2
  go_loopw [8] (fun ix wx => ∃ D1 : Dsk, (ix = .int .i64 0 ∧ Aside0 (SW B w p E D R [S0, S1] 0 D1 wx)) ∨ (ix = .int .i64 1 ∧ Aside0 (SW B w p E D R [S1] 1 D1 wx)) ∨ (ix = .int .i64 2 ∧ Aside0 (SW B w p E D R [] 2 D1 wx))) (fun ix _ => 2 - (Go.RowKit.intOf ix).toNat)
  case atStart => exact ⟨D, .inl ⟨rfl, HS0⟩⟩
  case round =>
    clear HS0
    obtain ⟨D1, ⟨rfl, HS⟩ | ⟨rfl, HS⟩ | ⟨rfl, HS⟩⟩ := hrel
    · have x0 := (blk_cell (HS.out.turn.kind _ _ HFS.out rfl) 0).trans (rfl : _ = some (Value.func (Fn.func 81) #[] #[.pointer (some ⟨bx, 0, none⟩)]))
      obtain ⟨m, D2, hm⟩ : ∃ m D2, S0 D1 = (m, D2) := ⟨_, _, rfl⟩
      have HC := Aside0.mk (H0.out wr D1 HS.out.turn HS.out.errs HS.out.disk HS.out.ok (by have := HS.out.steps; omega))
      have HQ := Aside0.mk (Q0.out D1 HS.out.ok)
      rw [hm] at HC HQ
      have HM := Aside0.mk hm
      clear hm
      cases m with
      | some x =>
        rw [errV_some] at HC
        go_wp2_with (go_at_call 81; refine HC.out.mono ?_; rintro e V ⟨rfl, hd, ht⟩; have HR5 := Aside0.mk (And.intro hd (HS.out.turn.trans ht)); clear hd ht)
        go_ret
        rw [HS.out.stop HM.out]
        exact ⟨rfl, HR5.out⟩
      | none =>
        rw [errV_none] at HC
        go_wp2_with (go_at_call 81; refine HC.out.mono ?_; rintro e V ⟨rfl, hd, ht⟩; have HN := Aside0.mk (HS.out.next ht hd HM.out HQ.out); clear hd ht)
        exact ⟨⟨D2, .inr (.inl ⟨rfl, HN⟩)⟩, by simp [Go.RowKit.intOf]⟩
    · have x0 := (blk_cell (HS.out.turn.kind _ _ HFS.out rfl) 1).trans (rfl : _ = some (Value.func (Fn.func 35) #[.pointer (some ⟨p, 0, none⟩)] #[]))
      obtain ⟨m, D2, hm⟩ : ∃ m D2, S1 D1 = (m, D2) := ⟨_, _, rfl⟩
      have HC := Aside0.mk (H1.out wr D1 HS.out.turn HS.out.errs HS.out.disk HS.out.ok (by have := HS.out.steps; omega))
      have HQ := Aside0.mk (Q1.out D1 HS.out.ok)
      rw [hm] at HC HQ
      have HM := Aside0.mk hm
      clear hm
      cases m with
      | some x =>
        rw [errV_some] at HC
        go_wp2_with (go_at_call 35; refine HC.out.mono ?_; rintro e V ⟨rfl, hd, ht⟩; have HR5 := Aside0.mk (And.intro hd (HS.out.turn.trans ht)); clear hd ht)
        go_ret
        rw [HS.out.stop HM.out]
        exact ⟨rfl, HR5.out⟩
      | none =>
        rw [errV_none] at HC
        go_wp2_with (go_at_call 35; refine HC.out.mono ?_; rintro e V ⟨rfl, hd, ht⟩; have HN := Aside0.mk (HS.out.next ht hd HM.out HQ.out); clear hd ht)
        exact ⟨⟨D2, .inr (.inr (⟨rfl, HN⟩))⟩, by simp [Go.RowKit.intOf]⟩
    · go_wp2
      go_ret
      rw [show R = (none, D1) from HS.out.eq]
      exact ⟨rfl, HS.out.disk, HS.out.turn⟩
set_option maxRecDepth 100000 in
set_option maxHeartbeats 8000000 in
theorem steps_emp (gb bx : Nat) (S0 S1 : Dsk → Option Int × Dsk) (hfs : w.heap[gb]? = some (.cells #[.func (Fn.func 125) #[] #[.pointer (some ⟨bx, 0, none⟩)], .func (Fn.func 126) #[] #[.pointer (some ⟨bx, 0, none⟩)]] 81 (0, 0))) (h : DiskAt B w p D) (hE : ErrAt B w E) (hk : D.Ok) (hst : D.steps ≤ 800000000)
    (h0 : ∀ (U : World) (D1 : Dsk), Turn B w U → ErrAt B U E → DiskAt B U p D1 → D1.Ok → D1.steps ≤ D.steps + 16000000 → Calls Tryz.prog 125 #[.pointer (some ⟨bx, 0, none⟩)] U fun e V => e = .returned (errV E (S0 D1).1) ∧ DiskAt B V p (S0 D1).2 ∧ Turn B U V) (q0 : ∀ D1 : Dsk, D1.Ok → Kq 4000000 D1 (S0 D1).2)
    (h1 : ∀ (U : World) (D1 : Dsk), Turn B w U → ErrAt B U E → DiskAt B U p D1 → D1.Ok → D1.steps ≤ D.steps + 16000000 → Calls Tryz.prog 126 #[.pointer (some ⟨bx, 0, none⟩)] U fun e V => e = .returned (errV E (S1 D1).1) ∧ DiskAt B V p (S1 D1).2 ∧ Turn B U V) (q1 : ∀ D1 : Dsk, D1.Ok → Kq 4000000 D1 (S1 D1).2) :
    Calls Tryz.prog 80 #[.slice (some ⟨gb, 0, none⟩) 2 2] w fun e w' => e = .returned (errV E (runs [S0, S1] D).1) ∧ DiskAt B w' p (runs [S0, S1] D).2 ∧ Turn B w w' := by
  have HFS := Aside0.mk hfs
  have H0 := Aside0.mk h0
  have Q0 := Aside0.mk q0
  have H1 := Aside0.mk h1
  have Q1 := Aside0.mk q1
  obtain ⟨R, hR⟩ : ∃ R, R = runs [S0, S1] D := ⟨_, rfl⟩
  rw [← hR]
  have HS0 := Aside0.mk (show SW B w p E D R [S0, S1] 0 D w from ⟨Turn.refl _ _, hE, h, hk, by omega, hR⟩)
  clear hfs h hE hk hR h0 q0 h1 q1
  go_enter Tryz.func80, Tryz.ntmps80
  go_wp2
  go_loopw [8] (fun ix wx => ∃ D1 : Dsk, (ix = .int .i64 0 ∧ Aside0 (SW B w p E D R [S0, S1] 0 D1 wx)) ∨ (ix = .int .i64 1 ∧ Aside0 (SW B w p E D R [S1] 1 D1 wx)) ∨ (ix = .int .i64 2 ∧ Aside0 (SW B w p E D R [] 2 D1 wx))) (fun ix _ => 2 - (Go.RowKit.intOf ix).toNat)
  case atStart => exact ⟨D, .inl ⟨rfl, HS0⟩⟩
  case round =>
    clear HS0
    obtain ⟨D1, ⟨rfl, HS⟩ | ⟨rfl, HS⟩ | ⟨rfl, HS⟩⟩ := hrel
    · have x0 := (blk_cell (HS.out.turn.kind _ _ HFS.out rfl) 0).trans (rfl : _ = some (Value.func (Fn.func 125) #[] #[.pointer (some ⟨bx, 0, none⟩)]))
      obtain ⟨m, D2, hm⟩ : ∃ m D2, S0 D1 = (m, D2) := ⟨_, _, rfl⟩
      have HC := Aside0.mk (H0.out wr D1 HS.out.turn HS.out.errs HS.out.disk HS.out.ok (by have := HS.out.steps; omega))
      have HQ := Aside0.mk (Q0.out D1 HS.out.ok)
      rw [hm] at HC HQ
      have HM := Aside0.mk hm
      clear hm
      cases m with
      | some x =>
        rw [errV_some] at HC
        go_wp2_with (go_at_call 125; refine HC.out.mono ?_; rintro e V ⟨rfl, hd, ht⟩; have HR5 := Aside0.mk (And.intro hd (HS.out.turn.trans ht)); clear hd ht)
        go_ret
        rw [HS.out.stop HM.out]
        exact ⟨rfl, HR5.out⟩
      | none =>
        rw [errV_none] at HC
        go_wp2_with (go_at_call 125; refine HC.out.mono ?_; rintro e V ⟨rfl, hd, ht⟩; have HN := Aside0.mk (HS.out.next ht hd HM.out HQ.out); clear hd ht)
        exact ⟨⟨D2, .inr (.inl ⟨rfl, HN⟩)⟩, by simp [Go.RowKit.intOf]⟩
    · have x0 := (blk_cell (HS.out.turn.kind _ _ HFS.out rfl) 1).trans (rfl : _ = some (Value.func (Fn.func 126) #[] #[.pointer (some ⟨bx, 0, none⟩)]))
      obtain ⟨m, D2, hm⟩ : ∃ m D2, S1 D1 = (m, D2) := ⟨_, _, rfl⟩
      have HC := Aside0.mk (H1.out wr D1 HS.out.turn HS.out.errs HS.out.disk HS.out.ok (by have := HS.out.steps; omega))
      have HQ := Aside0.mk (Q1.out D1 HS.out.ok)
      rw [hm] at HC HQ
      have HM := Aside0.mk hm
      clear hm
      cases m with
      | some x =>
        rw [errV_some] at HC
        go_wp2_with (go_at_call 126; refine HC.out.mono ?_; rintro e V ⟨rfl, hd, ht⟩; have HR5 := Aside0.mk (And.intro hd (HS.out.turn.trans ht)); clear hd ht)
        go_ret
        rw [HS.out.stop HM.out]
        exact ⟨rfl, HR5.out⟩
      | none =>
        rw [errV_none] at HC
        go_wp2_with (go_at_call 126; refine HC.out.mono ?_; rintro e V ⟨rfl, hd, ht⟩; have HN := Aside0.mk (HS.out.next ht hd HM.out HQ.out); clear hd ht)
        exact ⟨⟨D2, .inr (.inr (⟨rfl, HN⟩))⟩, by simp [Go.RowKit.intOf]⟩
    · go_wp2
      go_ret
      rw [show R = (none, D1) from HS.out.eq]
      exact ⟨rfl, HS.out.disk, HS.out.turn⟩
set_option maxRecDepth 100000 in
set_option maxHeartbeats 8000000 in
theorem steps_com (gb l bx br bo : Nat) (S0 S1 S2 S3 : Dsk → Option Int × Dsk) (hfs : w.heap[gb]? = some (.cells #[.func (Fn.func 85) #[] #[.pointer (some ⟨bx, 0, none⟩), .pointer (some ⟨br, 0, none⟩)], .func (Fn.func 86) #[] #[.pointer (some ⟨bx, 0, none⟩)], .func (Fn.func 87) #[] #[.pointer (some ⟨bx, 0, none⟩), .pointer (some ⟨bo, 0, none⟩)], .func (Fn.func 89) #[.pointer (some ⟨l, 0, none⟩)] #[]] 81 (0, 0))) (h : DiskAt B w p D) (hE : ErrAt B w E) (hk : D.Ok) (hst : D.steps ≤ 800000000)
    (h0 : ∀ (U : World) (D1 : Dsk), Turn B w U → ErrAt B U E → DiskAt B U p D1 → D1.Ok → D1.steps ≤ D.steps + 16000000 → Calls Tryz.prog 85 #[.pointer (some ⟨bx, 0, none⟩), .pointer (some ⟨br, 0, none⟩)] U fun e V => e = .returned (errV E (S0 D1).1) ∧ DiskAt B V p (S0 D1).2 ∧ Turn B U V) (q0 : ∀ D1 : Dsk, D1.Ok → Kq 4000000 D1 (S0 D1).2)
    (h1 : ∀ (U : World) (D1 : Dsk), Turn B w U → ErrAt B U E → DiskAt B U p D1 → D1.Ok → D1.steps ≤ D.steps + 16000000 → Calls Tryz.prog 86 #[.pointer (some ⟨bx, 0, none⟩)] U fun e V => e = .returned (errV E (S1 D1).1) ∧ DiskAt B V p (S1 D1).2 ∧ Turn B U V) (q1 : ∀ D1 : Dsk, D1.Ok → Kq 4000000 D1 (S1 D1).2)
    (h2 : ∀ (U : World) (D1 : Dsk), Turn B w U → ErrAt B U E → DiskAt B U p D1 → D1.Ok → D1.steps ≤ D.steps + 16000000 → Calls Tryz.prog 87 #[.pointer (some ⟨bx, 0, none⟩), .pointer (some ⟨bo, 0, none⟩)] U fun e V => e = .returned (errV E (S2 D1).1) ∧ DiskAt B V p (S2 D1).2 ∧ Turn B U V) (q2 : ∀ D1 : Dsk, D1.Ok → Kq 4000000 D1 (S2 D1).2)
    (h3 : ∀ (U : World) (D1 : Dsk), Turn B w U → ErrAt B U E → DiskAt B U p D1 → D1.Ok → D1.steps ≤ D.steps + 16000000 → Calls Tryz.prog 89 #[.pointer (some ⟨l, 0, none⟩)] U fun e V => e = .returned (errV E (S3 D1).1) ∧ DiskAt B V p (S3 D1).2 ∧ Turn B U V) (q3 : ∀ D1 : Dsk, D1.Ok → Kq 4000000 D1 (S3 D1).2) :
    Calls Tryz.prog 80 #[.slice (some ⟨gb, 0, none⟩) 4 4] w fun e w' => e = .returned (errV E (runs [S0, S1, S2, S3] D).1) ∧ DiskAt B w' p (runs [S0, S1, S2, S3] D).2 ∧ Turn B w w' := by
  have HFS := Aside0.mk hfs
  have H0 := Aside0.mk h0
  have Q0 := Aside0.mk q0
  have H1 := Aside0.mk h1
  have Q1 := Aside0.mk q1
  have H2 := Aside0.mk h2
  have Q2 := Aside0.mk q2
  have H3 := Aside0.mk h3
  have Q3 := Aside0.mk q3
  obtain ⟨R, hR⟩ : ∃ R, R = runs [S0, S1, S2, S3] D := ⟨_, rfl⟩
  rw [← hR]
  have HS0 := Aside0.mk (show SW B w p E D R [S0, S1, S2, S3] 0 D w from ⟨Turn.refl _ _, hE, h, hk, by omega, hR⟩)
  clear hfs h hE hk hR h0 q0 h1 q1 h2 q2 h3 q3
  go_enter Tryz.func80, Tryz.ntmps80
  go_wp2
  go_loopw [8] (fun ix wx => ∃ D1 : Dsk, (ix = .int .i64 0 ∧ Aside0 (SW B w p E D R [S0, S1, S2, S3] 0 D1 wx)) ∨ (ix = .int .i64 1 ∧ Aside0 (SW B w p E D R [S1, S2, S3] 1 D1 wx)) ∨ (ix = .int .i64 2 ∧ Aside0 (SW B w p E D R [S2, S3] 2 D1 wx)) ∨ (ix = .int .i64 3 ∧ Aside0 (SW B w p E D R [S3] 3 D1 wx)) ∨ (ix = .int .i64 4 ∧ Aside0 (SW B w p E D R [] 4 D1 wx))) (fun ix _ => 4 - (Go.RowKit.intOf ix).toNat)
  case atStart => exact ⟨D, .inl ⟨rfl, HS0⟩⟩
  case round =>
    clear HS0
    obtain ⟨D1, ⟨rfl, HS⟩ | ⟨rfl, HS⟩ | ⟨rfl, HS⟩ | ⟨rfl, HS⟩ | ⟨rfl, HS⟩⟩ := hrel
    · have x0 := (blk_cell (HS.out.turn.kind _ _ HFS.out rfl) 0).trans (rfl : _ = some (Value.func (Fn.func 85) #[] #[.pointer (some ⟨bx, 0, none⟩), .pointer (some ⟨br, 0, none⟩)]))
      obtain ⟨m, D2, hm⟩ : ∃ m D2, S0 D1 = (m, D2) := ⟨_, _, rfl⟩
      have HC := Aside0.mk (H0.out wr D1 HS.out.turn HS.out.errs HS.out.disk HS.out.ok (by have := HS.out.steps; omega))
      have HQ := Aside0.mk (Q0.out D1 HS.out.ok)
      rw [hm] at HC HQ
      have HM := Aside0.mk hm
      clear hm
      cases m with
      | some x =>
        rw [errV_some] at HC
        go_wp2_with (go_at_call 85; refine HC.out.mono ?_; rintro e V ⟨rfl, hd, ht⟩; have HR5 := Aside0.mk (And.intro hd (HS.out.turn.trans ht)); clear hd ht)
        go_ret
        rw [HS.out.stop HM.out]
        exact ⟨rfl, HR5.out⟩
      | none =>
        rw [errV_none] at HC
        go_wp2_with (go_at_call 85; refine HC.out.mono ?_; rintro e V ⟨rfl, hd, ht⟩; have HN := Aside0.mk (HS.out.next ht hd HM.out HQ.out); clear hd ht)
        exact ⟨⟨D2, .inr (.inl ⟨rfl, HN⟩)⟩, by simp [Go.RowKit.intOf]⟩
    · have x0 := (blk_cell (HS.out.turn.kind _ _ HFS.out rfl) 1).trans (rfl : _ = some (Value.func (Fn.func 86) #[] #[.pointer (some ⟨bx, 0, none⟩)]))
      obtain ⟨m, D2, hm⟩ : ∃ m D2, S1 D1 = (m, D2) := ⟨_, _, rfl⟩
      have HC := Aside0.mk (H1.out wr D1 HS.out.turn HS.out.errs HS.out.disk HS.out.ok (by have := HS.out.steps; omega))
      have HQ := Aside0.mk (Q1.out D1 HS.out.ok)
      rw [hm] at HC HQ
      have HM := Aside0.mk hm
      clear hm
      cases m with
      | some x =>
        rw [errV_some] at HC
        go_wp2_with (go_at_call 86; refine HC.out.mono ?_; rintro e V ⟨rfl, hd, ht⟩; have HR5 := Aside0.mk (And.intro hd (HS.out.turn.trans ht)); clear hd ht)
        go_ret
        rw [HS.out.stop HM.out]
        exact ⟨rfl, HR5.out⟩
      | none =>
        rw [errV_none] at HC
        go_wp2_with (go_at_call 86; refine HC.out.mono ?_; rintro e V ⟨rfl, hd, ht⟩; have HN := Aside0.mk (HS.out.next ht hd HM.out HQ.out); clear hd ht)
        exact ⟨⟨D2, .inr (.inr (.inl ⟨rfl, HN⟩))⟩, by simp [Go.RowKit.intOf]⟩
    · have x0 := (blk_cell (HS.out.turn.kind _ _ HFS.out rfl) 2).trans (rfl : _ = some (Value.func (Fn.func 87) #[] #[.pointer (some ⟨bx, 0, none⟩), .pointer (some ⟨bo, 0, none⟩)]))
      obtain ⟨m, D2, hm⟩ : ∃ m D2, S2 D1 = (m, D2) := ⟨_, _, rfl⟩
      have HC := Aside0.mk (H2.out wr D1 HS.out.turn HS.out.errs HS.out.disk HS.out.ok (by have := HS.out.steps; omega))
      have HQ := Aside0.mk (Q2.out D1 HS.out.ok)
      rw [hm] at HC HQ
      have HM := Aside0.mk hm
      clear hm
      cases m with
      | some x =>
        rw [errV_some] at HC
        go_wp2_with (go_at_call 87; refine HC.out.mono ?_; rintro e V ⟨rfl, hd, ht⟩; have HR5 := Aside0.mk (And.intro hd (HS.out.turn.trans ht)); clear hd ht)
        go_ret
        rw [HS.out.stop HM.out]
        exact ⟨rfl, HR5.out⟩
      | none =>
        rw [errV_none] at HC
        go_wp2_with (go_at_call 87; refine HC.out.mono ?_; rintro e V ⟨rfl, hd, ht⟩; have HN := Aside0.mk (HS.out.next ht hd HM.out HQ.out); clear hd ht)
        exact ⟨⟨D2, .inr (.inr (.inr (.inl ⟨rfl, HN⟩)))⟩, by simp [Go.RowKit.intOf]⟩
    · have x0 := (blk_cell (HS.out.turn.kind _ _ HFS.out rfl) 3).trans (rfl : _ = some (Value.func (Fn.func 89) #[.pointer (some ⟨l, 0, none⟩)] #[]))
      obtain ⟨m, D2, hm⟩ : ∃ m D2, S3 D1 = (m, D2) := ⟨_, _, rfl⟩
      have HC := Aside0.mk (H3.out wr D1 HS.out.turn HS.out.errs HS.out.disk HS.out.ok (by have := HS.out.steps; omega))
      have HQ := Aside0.mk (Q3.out D1 HS.out.ok)
      rw [hm] at HC HQ
      have HM := Aside0.mk hm
      clear hm
      cases m with
      | some x =>
        rw [errV_some] at HC
        go_wp2_with (go_at_call 89; refine HC.out.mono ?_; rintro e V ⟨rfl, hd, ht⟩; have HR5 := Aside0.mk (And.intro hd (HS.out.turn.trans ht)); clear hd ht)
        go_ret
        rw [HS.out.stop HM.out]
        exact ⟨rfl, HR5.out⟩
      | none =>
        rw [errV_none] at HC
        go_wp2_with (go_at_call 89; refine HC.out.mono ?_; rintro e V ⟨rfl, hd, ht⟩; have HN := Aside0.mk (HS.out.next ht hd HM.out HQ.out); clear hd ht)
        exact ⟨⟨D2, .inr (.inr (.inr (.inr (⟨rfl, HN⟩))))⟩, by simp [Go.RowKit.intOf]⟩
    · go_wp2
      go_ret
      rw [show R = (none, D1) from HS.out.eq]
      exact ⟨rfl, HS.out.disk, HS.out.turn⟩
end Go.Proofs.YtpcfnkmljchiiaaGreatDoor.OStp
end
section
/- The functions that redo.steps is given; Log.empty. -/
namespace Go.Proofs.YtpcfnkmljchiiaaGreatDoor.OClo
open Go Go.RowKit Go.Maps Go.WideMaps Go.Proofs.YtpcfnkmljchiiaaGreatDoorW.PrintWords Go.Proofs.YtpcfnkmljchiiaaGreatDoorW.PrintLast Go.Proofs.YtpcfnkmljchiiaaGreatDoorW.PrintMore DBase DPl DAt DEnt DNam Go.Proofs.YtpcfnkmljchiiaaGreatDoor.Is DFil DUsd DStp DCh2 DOps DSyn DSd DCr DAk Go.Proofs.YtpcfnkmljchiiaaGreatDoor.OPl Go.Proofs.YtpcfnkmljchiiaaGreatDoor.OSz Go.Proofs.YtpcfnkmljchiiaaGreatDoor.OMade Go.Proofs.YtpcfnkmljchiiaaGreatDoor.ODo Go.Proofs.YtpcfnkmljchiiaaGreatDoor.OAll Go.Proofs.YtpcfnkmljchiiaaGreatDoor.OStp
variable {B : Bx} {p l : Nat} {dead : Bool} {D : Dsk} {E : Int → Addr} {w : World}
set_option maxRecDepth 100000 in
set_option maxHeartbeats 4000000 in
theorem format1_calls (bx : Nat) (hb : w.cell? ⟨bx, 0, none⟩ = some (.pointer (some ⟨p, 0, none⟩))) (h : DiskAt B w p D) (hE : ErrAt B w E) (hk : D.Ok) (hst : D.steps ≤ 900000000) :
    Calls Tryz.prog 81 #[.pointer (some ⟨bx, 0, none⟩)] w fun e V => e = .returned (errV E (createD D kRedo).1) ∧ DiskAt B V p (createD D kRedo).2 ∧ Turn B w V := by
  have HC := Aside0.mk (create_calls B p D E w (h := h) (hE := hE) (hk := hk) (hst := by omega) (s := kRedo) (hs := by decide))
  clear h hE hk
  go_enter Tryz.func81, Tryz.ntmps81
  go_wp2_with (go_at_call 34; refine HC.out.mono ?_; rintro e V ⟨rfl, hd, ht⟩; have HR := Aside0.mk (And.intro hd ht); clear hd ht)
  go_ret
  exact ⟨rfl, HR.out⟩
set_option maxRecDepth 100000 in
set_option maxHeartbeats 4000000 in
theorem empty1_calls (bx : Nat) (hb : w.cell? ⟨bx, 0, none⟩ = some (.pointer (some ⟨l, 0, none⟩))) (hl : LogAt w l p dead) (h : DiskAt B w p D) (hE : ErrAt B w E) (hk : D.Ok) (hst : D.steps ≤ 900000000) :
    Calls Tryz.prog 125 #[.pointer (some ⟨bx, 0, none⟩)] w fun e V => e = .returned (errV E (truncD D kRedo 0).1) ∧ DiskAt B V p (truncD D kRedo 0).2 ∧ Turn B w V := by
  have HC := Aside0.mk (trunc_calls B p D E w (h := h) (hE := hE) (hk := hk) (hst := by omega) (s := kRedo) (hs := by decide) (n := 0))
  have l0 := hl.disk
  clear h hE hk hl
  go_enter Tryz.func125, Tryz.ntmps125
  go_wp2_with (go_at_call 41; refine HC.out.mono ?_; rintro e V ⟨rfl, hd, ht⟩; have HR := Aside0.mk (And.intro hd ht); clear hd ht)
  go_ret
  exact ⟨rfl, HR.out⟩
set_option maxRecDepth 100000 in
set_option maxHeartbeats 4000000 in
theorem empty2_calls (bx : Nat) (hb : w.cell? ⟨bx, 0, none⟩ = some (.pointer (some ⟨l, 0, none⟩))) (hl : LogAt w l p dead) (h : DiskAt B w p D) (hE : ErrAt B w E) (hk : D.Ok) (hst : D.steps ≤ 900000000) :
    Calls Tryz.prog 126 #[.pointer (some ⟨bx, 0, none⟩)] w fun e V => e = .returned (errV E (syncD D kRedo).1) ∧ DiskAt B V p (syncD D kRedo).2 ∧ Turn B w V := by
  have HC := Aside0.mk (sync_calls B p D E w (h := h) (hE := hE) (hk := hk) (hst := by omega) (s := kRedo) (hs := by decide))
  have l0 := hl.disk
  clear h hE hk hl
  go_enter Tryz.func126, Tryz.ntmps126
  go_wp2_with (go_at_call 46; refine HC.out.mono ?_; rintro e V ⟨rfl, hd, ht⟩; have HR := Aside0.mk (And.intro hd ht); clear hd ht)
  go_ret
  exact ⟨rfl, HR.out⟩
set_option maxRecDepth 100000 in
set_option maxHeartbeats 4000000 in
theorem commit2_calls (bx : Nat) (hb : w.cell? ⟨bx, 0, none⟩ = some (.pointer (some ⟨l, 0, none⟩))) (hl : LogAt w l p dead) (h : DiskAt B w p D) (hE : ErrAt B w E) (hk : D.Ok) (hst : D.steps ≤ 900000000) :
    Calls Tryz.prog 86 #[.pointer (some ⟨bx, 0, none⟩)] w fun e V => e = .returned (errV E (syncD D kRedo).1) ∧ DiskAt B V p (syncD D kRedo).2 ∧ Turn B w V := by
  have HC := Aside0.mk (sync_calls B p D E w (h := h) (hE := hE) (hk := hk) (hst := by omega) (s := kRedo) (hs := by decide))
  have l0 := hl.disk
  clear h hE hk hl
  go_enter Tryz.func86, Tryz.ntmps86
  go_wp2_with (go_at_call 46; refine HC.out.mono ?_; rintro e V ⟨rfl, hd, ht⟩; have HR := Aside0.mk (And.intro hd ht); clear hd ht)
  go_ret
  exact ⟨rfl, HR.out⟩
set_option maxRecDepth 100000 in
set_option maxHeartbeats 4000000 in
theorem commit3_calls (bx bo : Nat) (A : Option Addr) (c : Nat) (L : List Rop) (hb : w.cell? ⟨bx, 0, none⟩ = some (.pointer (some ⟨l, 0, none⟩))) (ho : w.cell? ⟨bo, 0, none⟩ = some (.slice A L.length c)) (hl : LogAt w l p dead) (h : DiskAt B w p D) (hE : ErrAt B w E) (hk : D.Ok) (hst : D.steps ≤ 900000000) (hO : OpsAt B w A L) (hF : OpsFew L) (hc : L.length ≤ c) :
    Calls Tryz.prog 87 #[.pointer (some ⟨bx, 0, none⟩), .pointer (some ⟨bo, 0, none⟩)] w fun e V => e = .returned (errV E (allL L D).1) ∧ DiskAt B V p (allL L D).2 ∧ Turn B w V := by
  have HC := Aside0.mk (all_calls (c := c) hl h hE hk (by omega) hO hF hc)
  clear h hE hk hl hO hF hc
  go_enter Tryz.func87, Tryz.ntmps87
  go_wp2_with (go_at_call 88; refine HC.out.mono ?_; rintro e V ⟨rfl, hd, ht⟩; have HR := Aside0.mk (And.intro hd ht); clear hd ht)
  go_ret
  exact ⟨rfl, HR.out⟩
/-! ### Log.empty -/
theorem runs_empty (D : Dsk) : runs [fun D => truncD D kRedo 0, fun D => syncD D kRedo] D = emptyL D := by
  unfold emptyL runs andThen
  cases h : (truncD D kRedo 0).1 with
  | some x => rfl
  | none =>
    simp only [runs, andThen]
    cases h2 : (syncD (truncD D kRedo 0).2 kRedo).1 with
    | some x => simp only []; rw [← h2]
    | none => simp only []; rw [← h2]
theorem empty_steps {W : World} (bx gb : Nat) (hx : W.heap[bx]? = some (.cells #[.pointer (some ⟨l, 0, none⟩)] 69 (0, 0)))
    (hf : W.heap[gb]? = some (.cells #[.func (Fn.func 125) #[] #[.pointer (some ⟨bx, 0, none⟩)], .func (Fn.func 126) #[] #[.pointer (some ⟨bx, 0, none⟩)]] 81 (0, 0)))
    (hl : LogAt W l p dead) (h : DiskAt B W p D) (hE : ErrAt B W E) (hk : D.Ok) (hst : D.steps ≤ 800000000) :
    Calls Tryz.prog 80 #[.slice (some ⟨gb, 0, none⟩) 2 2] W fun e w' => e = .returned (errV E (emptyL D).1) ∧ DiskAt B w' p (emptyL D).2 ∧ Turn B W w' := by
  have hc := steps_emp (B := B) (p := p) (D := D) (E := E) (w := W) gb bx (fun D => truncD D kRedo 0) (fun D => syncD D kRedo) hf h hE hk hst
    (fun U D1 ht he hd hk1 hs1 => empty1_calls bx ((blk_cell (ht.kind _ _ hx rfl) 0).trans rfl) (hl.turn ht) hd he hk1 (by omega)) (fun D1 hk1 => (Kq.of (kp_trunc hk1 _ _)).up (by omega))
    (fun U D1 ht he hd hk1 hs1 => empty2_calls bx ((blk_cell (ht.kind _ _ hx rfl) 0).trans rfl) (hl.turn ht) hd he hk1 (by omega)) (fun D1 hk1 => (Kq.of (kp_sync hk1 _)).up (by omega))
  rw [runs_empty] at hc
  exact hc
theorem alloc2 (w : World) (a b : Obj) : Below w.heap.size w ((w.alloc a).alloc b) ∧ ((w.alloc a).alloc b).heap[w.heap.size]? = some a ∧ ((w.alloc a).alloc b).heap[w.heap.size + 1]? = some b := by
  have h1 : Below w.heap.size w (w.alloc a) := (Below.refl _ _).alloc (Nat.le_refl _) _
  have hs : (w.alloc a).heap.size = w.heap.size + 1 := by simp
  have h2 : Below (w.alloc a).heap.size (w.alloc a) ((w.alloc a).alloc b) := (Below.refl _ _).alloc (Nat.le_refl _) _
  refine ⟨h1.trans (h2.mono h1.size), (h2.block _ (by omega)).trans (heap_alloc_new w a), ?_⟩
  rw [← hs]
  exact heap_alloc_new _ b
set_option maxRecDepth 100000 in
set_option maxHeartbeats 4000000 in
theorem empty_calls (hl : LogAt w l p dead) (h : DiskAt B w p D) (hE : ErrAt B w E) (hk : D.Ok) (hst : D.steps ≤ 800000000) :
    Calls Tryz.prog 89 #[.pointer (some ⟨l, 0, none⟩)] w fun e w' => e = .returned (errV E (emptyL D).1) ∧ DiskAt B w' p (emptyL D).2 ∧ Turn B w w' := by
  obtain ⟨hb, h1, h2⟩ := alloc2 w (.cells #[.pointer (some ⟨l, 0, none⟩)] 69 (0, 0)) (.cells #[.func (Fn.func 125) #[] #[.pointer (some ⟨w.heap.size, 0, none⟩)], .func (Fn.func 126) #[] #[.pointer (some ⟨w.heap.size, 0, none⟩)]] 81 (0, 0))
  have HC := Aside0.mk (empty_steps w.heap.size (w.heap.size + 1) h1 h2 (hl.below hb) (h.below hb) (hE.turn (Turn.of_below hb)) hk hst)
  have HB := Aside0.mk (Turn.of_below (B := B) hb)
  clear hl h hE hk hb h1 h2
  go_enter Tryz.func89, Tryz.ntmps89
  go_wp2_with (go_at_call 80; refine HC.out.mono ?_; rintro e V ⟨rfl, hd, ht⟩; have HR := Aside0.mk (And.intro hd (HB.out.trans ht)); clear hd ht)
  go_ret
  exact ⟨rfl, HR.out⟩
end Go.Proofs.YtpcfnkmljchiiaaGreatDoor.OClo
end
section
/- redo.Format; Log.Dead; Log.Read. -/
namespace Go.Proofs.YtpcfnkmljchiiaaGreatDoor.OFmt
open Go Go.RowKit Go.Maps Go.WideMaps Go.Proofs.YtpcfnkmljchiiaaGreatDoorW.PrintWords Go.Proofs.YtpcfnkmljchiiaaGreatDoorW.PrintLast Go.Proofs.YtpcfnkmljchiiaaGreatDoorW.PrintMore DBase DPl DAt DEnt DNam Go.Proofs.YtpcfnkmljchiiaaGreatDoor.Is DFil DUsd DStp DCh2 DOps DSyn DSd DCr DAk Go.Proofs.YtpcfnkmljchiiaaGreatDoor.OPl Go.Proofs.YtpcfnkmljchiiaaGreatDoor.OSz Go.Proofs.YtpcfnkmljchiiaaGreatDoor.OMade Go.Proofs.YtpcfnkmljchiiaaGreatDoor.ODo Go.Proofs.YtpcfnkmljchiiaaGreatDoor.OAll Go.Proofs.YtpcfnkmljchiiaaGreatDoor.OStp Go.Proofs.YtpcfnkmljchiiaaGreatDoor.OClo
variable {B : Bx} {p l : Nat} {dead : Bool} {D D1 : Dsk} {E : Int → Addr} {w : World}
theorem runs_format (D : Dsk) : runs [fun D => createD D kRedo, syncDirD] D = formatL D := by
  unfold formatL runs andThen
  cases h : (createD D kRedo).1 with
  | some x => rfl
  | none =>
    simp only [runs, andThen]
    cases h2 : (syncDirD (createD D kRedo).2).1 with
    | some x => simp only []; rw [← h2]
    | none => simp only []; rw [← h2]
theorem format_steps {W : World} (bx gb : Nat) (hx : W.heap[bx]? = some (.cells #[.pointer (some ⟨p, 0, none⟩)] 25 (0, 0)))
    (hf : W.heap[gb]? = some (.cells #[.func (Fn.func 81) #[] #[.pointer (some ⟨bx, 0, none⟩)], .func (Fn.func 35) #[.pointer (some ⟨p, 0, none⟩)] #[]] 81 (0, 0)))
    (h : DiskAt B W p D) (hE : ErrAt B W E) (hk : D.Ok) (hst : D.steps ≤ 100000000) :
    Calls Tryz.prog 80 #[.slice (some ⟨gb, 0, none⟩) 2 2] W fun e w' => e = .returned (errV E (formatL D).1) ∧ DiskAt B w' p (formatL D).2 ∧ Turn B W w' := by
  have hst2 : D.steps ≤ 800000000 := by omega
  have hc := steps_fmt (B := B) (p := p) (D := D) (E := E) (w := W) gb bx (fun D => createD D kRedo) syncDirD hf h hE hk hst2
    (fun U D1 ht he hd hk1 hs1 => format1_calls bx ((blk_cell (ht.kind _ _ hx rfl) 0).trans rfl) hd he hk1 (by omega)) (fun D1 hk1 => (Kq.of (kp_create hk1 _)).up (by omega))
    (fun U D1 ht he hd hk1 hs1 => syncDir_calls (h := hd) (hE := he) (hk := hk1) (hst := by omega)) (fun D1 hk1 => (Kq.of (kp_syncDir hk1)).up (by omega))
  rw [runs_format] at hc
  exact hc
/-! ### Log.Dead, Log.Read -/
set_option maxRecDepth 100000 in
set_option maxHeartbeats 4000000 in
theorem dead_calls (hl : LogAt w l p dead) : Calls Tryz.prog 69 #[.pointer (some ⟨l, 0, none⟩)] w fun e w' => e = .returned (.bool dead) ∧ w' = w := by
  have l1 := hl.dead
  clear hl
  go_enter Tryz.func69, Tryz.ntmps69
  go_wp2
  go_ret
  exact ⟨rfl, rfl⟩
set_option maxRecDepth 100000 in
set_option maxHeartbeats 4000000 in
theorem lread_ok (hl : LogAt w l p dead) (h : DiskAt B w p D) (hE : ErrAt B w E) (hk : D.Ok) (hst : D.steps ≤ 900000000) (s : ByteArray) (hs : s.size < 9223372036854775807) (hq : fileE D s = none) (hn : s.toList ≠ [114, 101, 100, 111]) :
    Calls Tryz.prog 70 #[.pointer (some ⟨l, 0, none⟩), .string s] w fun e w' => ∃ v, e = .returned (.tuple #[v, .bool true]) ∧ Kd.R kb 5 w' w.heap.size (fun _ => True) v (readD D s) ∧ Below w.heap.size w w' := by
  have l0 := hl.disk
  have HR := Aside0.mk (read_ok B p D E w (h := h) (hE := hE) (hk := hk) (hst := by omega) (s := s) (hs := hs) (hq := hq))
  have t1 : (s.toList == [114, 101, 100, 111]) = false := beq_eq_false_iff_ne.2 hn
  clear hl h hE hk
  go_enter Tryz.func70, Tryz.ntmps70
  go_wp2_with (go_at_call 13; refine HR.out.mono ?_; rintro e V ⟨v, rfl, hv, hb⟩; have HV := Aside0.mk (And.intro hv hb); clear hv hb)
  go_ret2
  exact ⟨_, rfl, HV.out.1, HV.out.2⟩
end Go.Proofs.YtpcfnkmljchiiaaGreatDoor.OFmt
end
section
/- The library's slices.DeleteFunc laid at this program (the laying is the kit's print); Log.List. -/
namespace Go.Proofs.YtpcfnkmljchiiaaGreatDoor.OList
open Go Go.RowKit Go.Maps Go.Sort Go.Shelf Go.Proofs Go.Proofs.YtpcfnkmljchiiaaGreatDoorW.PrintWords Go.Proofs.YtpcfnkmljchiiaaGreatDoorW.PrintLast DPl DAt Go.Proofs.YtpcfnkmljchiiaaGreatDoor.Is DFil DSd DDo DRdp DRl DLst Go.Proofs.YtpcfnkmljchiiaaGreatDoor.OPl Go.Proofs.YtpcfnkmljchiiaaGreatDoor.OSz
def delA_ren : Go.Shelf.Ren := ⟨fun | 10 => 120 | 6 => 136 | n => n, fun | 22 => 37 | 23 => 9 | 25 => 120 | 3 => 3 | 4 => 4 | 0 => 0 | n => n, fun | n => n⟩
theorem delA : Go.Proofs.SlLaysH.n10 Tryz.prog delA_ren := {
  mixed := by kernel_rfl
  f6 := ⟨Tryz.f136.name, by decide, Tryz.func136.trans (congrArg some (by kernel_rfl))⟩
  f10 := ⟨Tryz.f120.name, by decide, Tryz.func120.trans (congrArg some (by kernel_rfl))⟩
  t0 := Tryz.underlying0
  a0 := Tryz.isAgg0
  z0 := Tryz.sizeOf0
  v0 := Tryz.zeroValue0
  t3 := Tryz.underlying3
  a3 := Tryz.isAgg3
  z3 := Tryz.sizeOf3
  v3 := Tryz.zeroValue3
  t4 := Tryz.underlying4
  a4 := Tryz.isAgg4
  z4 := Tryz.sizeOf4
  v4 := Tryz.zeroValue4
  t22 := Tryz.underlying37
  a22 := Tryz.isAgg37
  z22 := Tryz.sizeOf37
  v22 := Tryz.zeroValue37
  a23 := Tryz.isAgg9
  z23 := Tryz.sizeOf9
  t25 := Tryz.underlying120
  a25 := Tryz.isAgg120
  z25 := Tryz.sizeOf120
  v25 := Tryz.zeroValue120 }
def isRedo (x : List UInt8) : Bool := x == [114, 101, 100, 111]
/-- The names that are not the log's. -/
def keepN (N : Nms) : Nms := N.filter fun p => !isRedo p.1
set_option maxRecDepth 100000 in
theorem pred_calls (x : ByteArray) (w : World) : Calls Tryz.prog 121 #[.string x] w fun e w' => e = .returned (.bool (x.toList == [114, 101, 100, 111])) ∧ w' = w := by
  cases hx : (x.toList == ([114, 101, 100, 111] : List UInt8)) with
  | true =>
    go_enter Tryz.func121, Tryz.ntmps121
    go_wp2
    go_ret
    exact ⟨rfl, rfl⟩
  | false =>
    go_enter Tryz.func121, Tryz.ntmps121
    go_wp2
    go_ret
    exact ⟨rfl, rfl⟩
theorem pred_gives (W : World) (x : List UInt8) : FnGives Tryz.prog 121 #[] #[encStr x] (.bool (isRedo x)) W := by
  have h := pred_calls ⟨x.toArray⟩ W
  refine h.mono ?_
  rintro e w' ⟨rfl, rfl⟩
  refine ⟨?_, 0, rfl⟩
  rw [ByteArray.toList_eq]
  rfl
theorem encStr_one : OneCell encStr := fun x => rfl
set_option maxRecDepth 100000 in
theorem delete_calls (g cap : Nat) (ss : List (List UInt8)) (w : World) (hH : Holds encStr w g 0 ss.toArray) (hl : ss.length ≤ 1000000000) (hc : ss.length ≤ cap) :
    Calls Tryz.prog 120 #[.slice (some ⟨g, 0, none⟩) ss.length cap, .func (.func 121) #[] #[]] w fun e w' => e = .returned (.slice (some ⟨g, 0, none⟩) (ss.filter fun x => !isRedo x).length cap) ∧ ∃ q, w' = putRow encStr (Sort.ahead w q) g 0 ((ss.filter fun x => !isRedo x) ++ List.replicate (ss.length - (ss.filter fun x => !isRedo x).length) ([] : List UInt8)).toArray := by
  have h := AnyE.slices_DeleteFunc delA encStr encStr_one isRedo 121 #[] (enters_of Tryz.func121 (by kernel_rfl) rfl) ([] : List UInt8) (fun w => by kernel_rfl) g 0 cap ss.toArray w (fun W x _ => pred_gives W x) (fun _ _ _ x _ => pred_gives _ x) hH (by simp; omega) (by simpa using hc)
  simp only [List.size_toArray] at h
  exact h
theorem names_keys (N : Nms) : encs Value.string (namesL N) = (N.map Prod.fst).map encStr := by
  unfold namesL encs
  rw [List.map_map, List.map_map]
  rfl
theorem keep_keys (N : Nms) : (N.map Prod.fst).filter (fun x => !isRedo x) = (keepN N).map Prod.fst := by
  unfold keepN
  rw [List.filter_map]
  rfl
set_option maxRecDepth 100000 in
set_option maxHeartbeats 8000000 in
theorem llist_calls {B : Bx} {p l : Nat} {dead : Bool} {D : Dsk} {E : Int → Addr} {w : World} (hlg : LogAt w l p dead) (h : DiskAt B w p D) (hE : ErrAt B w E) (hk : D.Ok) (hst : D.steps ≤ 900000000) (ho : D.off = false) (hri : Rising D.now) (hn : D.now.length ≤ 1000000000) (hp : 0 < D.now.length) :
    Calls Tryz.prog 83 #[.pointer (some ⟨l, 0, none⟩)] w fun e w' => ∃ A c, e = .returned (.slice A (keepN D.now).length c) ∧ (keepN D.now).length ≤ c ∧ Kd.C Kd.string w' A (keepN D.now).length (namesL (keepN D.now)) ∧ Below w.heap.size w w' := by
  have HL := Aside0.mk (list_calls (h := h) (hE := hE) (hk := hk) (hst := by omega) (ho := ho) (hri := hri) (hn := hn))
  have l0 := hlg.disk
  obtain ⟨N, hN⟩ : ∃ N, N = D.now := ⟨_, rfl⟩
  rw [← hN] at HL hn hp ⊢
  clear h hE hk hlg hN ho hri
  go_enter Tryz.func83, Tryz.ntmps83
  go_upto_region 4 with (go_at_call 12; refine HL.out.mono ?_; rintro e w1 ⟨A, c, rfl, hc, hR, hb⟩; have HB1 := Aside0.mk hb; have HC1 := Aside0.mk hc; have HR1 := Aside0.mk hR; clear hb hc hR)
  have hro := Kd.own_of_R (enc := Value.string) (h1 := fun _ => rfl) (xs := namesL N) HR1.out
  rw [names_keys, names_len] at hro
  obtain ⟨g, cap, cur, e1, hg0, hgb, q1, q2, q3, q4⟩ : ∃ g cap cur, (Value.slice A N.length c) = .slice (some ⟨g, 0, none⟩) N.length cap ∧ w.heap.size ≤ g ∧ w1.heap[g]? = some (.cells cur 9 (0, 0)) ∧ N.length ≤ cap ∧ True ∧ True ∧ cur.toList.take (N.map Prod.fst).length = (N.map Prod.fst).map encStr := by
    rcases hro.2 with ⟨e, hz⟩ | ⟨g, cap, cur, e, hbase, hgb, r1, r2, r3, r4⟩
    · omega
    · exact ⟨g, cap, cur, e, hbase, hgb, by omega, trivial, trivial, by simpa using r4⟩
  simp only [Value.slice.injEq] at e1
  obtain ⟨rfl, _, rfl⟩ := e1
  have hH : Holds encStr w1 g 0 (N.map Prod.fst).toArray := holds_of_block hgb q4
  have hd := delete_calls g c (N.map Prod.fst) w1 hH (by rw [List.length_map]; omega) (by rw [List.length_map]; exact q1)
  rw [keep_keys, List.length_map, List.length_map] at hd
  have HD := Aside0.mk hd
  have HH := Aside0.mk hH
  have HG := Aside0.mk hg0
  clear hH hd hro hgb q1 q2 q3 q4 hg0
  go_wp2_with (go_at_call 120; refine HD.out.mono ?_; rintro e w2 ⟨rfl, q, hw⟩; have HW := Aside0.mk hw; clear hw)
  go_ret
  have hlen : (keepN N).length ≤ N.length := List.length_filter_le _ _
  have hg : w1.grownBy w2 (some g) := by
    rw [HW.out]
    have h9 := grownBy_sorted (w := w1) (g := g) (n := q) (os := #[]) ((keepN N).map Prod.fst ++ List.replicate (N.length - (keepN N).length) ([] : List UInt8)).toArray
    rwa [grow_empty] at h9
  refine ⟨some ⟨g, 0, none⟩, c, rfl, Nat.le_trans hlen HC1.out, ?_, HB1.out.grown hg HB1.out.size (fun k hk => by have := Option.some.inj hk; have := HG.out; omega)⟩
  refine Kd.C_of_reads (d := ByteArray.empty) (h1 := fun _ => rfl) ⟨names_len _, by omega, fun hpos => ⟨_, rfl, fun j hj => ?_⟩⟩
  rw [HW.out]
  obtain ⟨x, hx⟩ : ∃ x, (keepN N)[j]? = some x := ⟨_, List.getElem?_eq_getElem hj⟩
  have h9 := cell?_putRow encStr (Sort.ahead w1 q) g 0 (N.map Prod.fst).toArray ((keepN N).map Prod.fst ++ List.replicate (N.length - (keepN N).length) ([] : List UInt8)).toArray (holds_ahead encStr w1 q g 0 _ HH.out) (by simp; omega) j (by simp; omega)
  rw [Nat.zero_add] at h9
  rw [add_plain, h9]
  have e1 : (((keepN N).map Prod.fst ++ List.replicate (N.length - (keepN N).length) ([] : List UInt8)).toArray)[j]! = x.1 := by
    have e2 : (((keepN N).map Prod.fst ++ List.replicate (N.length - (keepN N).length) ([] : List UInt8)).toArray)[j]? = some x.1 := by
      rw [List.getElem?_toArray, List.getElem?_append_left (by rw [List.length_map]; exact hj), List.getElem?_map, hx]
      rfl
    rw [Array.getElem!_eq_getD, Array.getD_eq_getD_getElem?, e2]
    rfl
  rw [e1, List.getD_eq_getElem?_getD, show (namesL (keepN N))[j]? = some (nmS x.1) by unfold namesL; rw [List.getElem?_map, hx]; rfl]
  rfl
end Go.Proofs.YtpcfnkmljchiiaaGreatDoor.OList
end
