/- Disk.step: the power; a step that is taken. Written by a small program (one text a closure). -/
import Derived.Test.YtpcfnkmljchiiaaDoorDCg
namespace Go.Proofs.YtpcfnkmljchiiaaDoor.DStp
open Go Go.RowKit Go.Maps Go.WideMaps Go.Proofs.YtpcfnkmljchiiaaDoorW.PrintWords Go.Proofs.YtpcfnkmljchiiaaDoorW.PrintLast Go.Proofs.YtpcfnkmljchiiaaDoor.DBase Go.Proofs.YtpcfnkmljchiiaaDoor.DPl Go.Proofs.YtpcfnkmljchiiaaDoor.DAt Go.Proofs.YtpcfnkmljchiiaaDoor.DEnt Go.Proofs.YtpcfnkmljchiiaaDoor.DNam Go.Proofs.YtpcfnkmljchiiaaDoor.Is
set_option linter.unusedVariables false
set_option linter.unusedSimpArgs false
variable (B p : Nat) (D : Dsk) (L : List (Nat × Value)) (m1 m2 : Nat) (fv ov : Value)
set_option maxRecDepth 100000 in
set_option maxHeartbeats 4000000 in
theorem step_off (E : Int → Addr) (fn : Value) (w : World) (h : Lies B w p D L m1 m2 fv ov) (hE : ErrAt B w E) (h0 : D.armed = 0) :
    Calls Tryd.prog 36 #[.pointer (some ⟨p, 0, none⟩), fn] w fun en w' => en = .returned (errV E (some 8)) ∧ Lies B w' p (offD D) L m1 m2 fv ov ∧ But w w' (some p) ∧ Turn B w w' := by
  obtain ⟨files, now, sure, opn, quota, armed, off, steps⟩ := D
  simp only at h0
  subst h0
  have c5 : w.cell? ⟨p, 5, none⟩ = some (.int .i64 0) := (blk_cell h.obj 5).trans rfl
  have c6 : w.cell? ⟨p, 6, none⟩ = some (.bool off) := (blk_cell h.obj 6).trans rfl
  have c8 : w.cell? ⟨8, 0, none⟩ = some (.iface 135 (.pointer (some (E 8)))) := by have := hE.errs.var 8 (by simp [dErr]); rwa [gPower] at this
  have ne8 : 8 ≠ p := fun e => by
    have := (hE.lo 8 (by simp [dErr])).1
    rw [gPower] at this
    have := h.lop
    omega
  have c8b : ∀ u, (w.setCell ⟨p, 6, none⟩ u).cell? ⟨8, 0, none⟩ = some (.iface 135 (.pointer (some (E 8)))) := fun u => cell_far2 c8 (show 8 ≠ p from ne8) u
  have f6 : w.frozen? ⟨p, 6, none⟩ = false := blk_frozen h.obj 6
  have HO := Aside0.mk h
  clear h hE
  go_enter Tryd.func36, Tryd.ntmps36
  go_wp2
  go_ret
  exact ⟨rfl, HO.out.reobj (w' := w.setCell ⟨p, 6, none⟩ (.bool true)) quota 0 true steps (blk_put HO.out.obj 6 _ rfl) (But.setCell w ⟨p, 6, none⟩ _), But.setCell w ⟨p, 6, none⟩ _, (Turn.refl B w).setCell HO.out.obj rfl HO.out.lop 6 _⟩
set_option maxRecDepth 100000 in
set_option maxHeartbeats 4000000 in
theorem step_changed (a0 a1 a2 : Nat) (R : World → Prop) (w : World) (h : Lies B w p D L m1 m2 fv ov) (h0 : D.armed ≠ 0) (ha : D.armed ≤ 9223372036854775807) (ha0 : -1 ≤ D.armed) (hs0 : 0 ≤ D.steps) (hs : D.steps ≤ 1099511627776)
    (hdo : ∀ w1, Lies B w1 p (stepD D) L m1 m2 fv ov → But w w1 (some p) → Turn B w w1 → Calls Tryd.prog 70 #[.pointer (some ⟨a0, 0, none⟩), .pointer (some ⟨a1, 0, none⟩), .pointer (some ⟨a2, 0, none⟩)] w1 fun e w2 => e = .returned (.tuple #[]) ∧ R w2) :
    Calls Tryd.prog 36 #[.pointer (some ⟨p, 0, none⟩), .func (Fn.func 70) #[] #[.pointer (some ⟨a0, 0, none⟩), .pointer (some ⟨a1, 0, none⟩), .pointer (some ⟨a2, 0, none⟩)]] w fun en w' => en = .returned .nilIface ∧ R w' := by
  obtain ⟨files, now, sure, opn, quota, armed, off, steps⟩ := D
  simp only at h0 ha ha0 hs0 hs
  have c5 : w.cell? ⟨p, 5, none⟩ = some (.int .i64 armed) := (blk_cell h.obj 5).trans rfl
  have c7 : w.cell? ⟨p, 7, none⟩ = some (.int .i64 steps) := (blk_cell h.obj 7).trans rfl
  have f5 : w.frozen? ⟨p, 5, none⟩ = false := blk_frozen h.obj 5
  have f7 : w.frozen? ⟨p, 7, none⟩ = false := blk_frozen h.obj 7
  have HO := Aside0.mk h
  clear h
  have t0 : (armed == 0) = false := by simpa using h0
  have HDO := Aside0.mk hdo
  clear hdo
  by_cases hpos : 0 < armed
  · have t1 : decide (0 < armed) = true := decide_eq_true hpos
    have HD : stepD ⟨files, now, sure, opn, quota, armed, off, steps⟩ = ⟨files, now, sure, opn, quota, armed - 1, off, steps + 1⟩ := by simp only [stepD]; rw [if_pos hpos]
    have HC := Aside0.mk (HDO.out ((w.setCell ⟨p, 5, none⟩ (.int .i64 (armed - 1))).setCell ⟨p, 7, none⟩ (.int .i64 (steps + 1))) (by rw [HD]; exact HO.out.reobj _ _ _ _ (blk_put (blk_put HO.out.obj 5 _ rfl) 7 _ rfl) ((But.setCell w ⟨p, 5, none⟩ _).trans (But.setCell _ ⟨p, 7, none⟩ _))) ((But.setCell w ⟨p, 5, none⟩ _).trans (But.setCell _ ⟨p, 7, none⟩ _)) (((Turn.refl B w).setCell HO.out.obj rfl HO.out.lop 5 _).setCell (blk_put HO.out.obj 5 _ rfl) rfl HO.out.lop 7 _))
    clear HD HDO
    go_enter Tryd.func36, Tryd.ntmps36
    go_wp2_with (go_at_call 70; refine HC.out.mono ?_; rintro e w1 ⟨rfl, hr⟩; have HR := Aside0.mk hr; clear hr)
    go_ret
    exact ⟨rfl, HR.out⟩
  · have t1 : decide (0 < armed) = false := decide_eq_false hpos
    have HD : stepD ⟨files, now, sure, opn, quota, armed, off, steps⟩ = ⟨files, now, sure, opn, quota, armed, off, steps + 1⟩ := by simp only [stepD]; rw [if_neg hpos]
    have HC := Aside0.mk (HDO.out (w.setCell ⟨p, 7, none⟩ (.int .i64 (steps + 1))) (by rw [HD]; exact HO.out.reobj _ _ _ _ (blk_put HO.out.obj 7 _ rfl) (But.setCell w ⟨p, 7, none⟩ _)) (But.setCell w ⟨p, 7, none⟩ _) ((Turn.refl B w).setCell HO.out.obj rfl HO.out.lop 7 _))
    clear HD HDO
    go_enter Tryd.func36, Tryd.ntmps36
    go_wp2_with (go_at_call 70; refine HC.out.mono ?_; rintro e w1 ⟨rfl, hr⟩; have HR := Aside0.mk hr; clear hr)
    go_ret
    exact ⟨rfl, HR.out⟩
set_option maxRecDepth 100000 in
set_option maxHeartbeats 4000000 in
theorem step_sync (a0 : Nat) (R : World → Prop) (w : World) (h : Lies B w p D L m1 m2 fv ov) (h0 : D.armed ≠ 0) (ha : D.armed ≤ 9223372036854775807) (ha0 : -1 ≤ D.armed) (hs0 : 0 ≤ D.steps) (hs : D.steps ≤ 1099511627776)
    (hdo : ∀ w1, Lies B w1 p (stepD D) L m1 m2 fv ov → But w w1 (some p) → Turn B w w1 → Calls Tryd.prog 37 #[.pointer (some ⟨a0, 0, none⟩)] w1 fun e w2 => e = .returned (.tuple #[]) ∧ R w2) :
    Calls Tryd.prog 36 #[.pointer (some ⟨p, 0, none⟩), .func (Fn.func 37) #[] #[.pointer (some ⟨a0, 0, none⟩)]] w fun en w' => en = .returned .nilIface ∧ R w' := by
  obtain ⟨files, now, sure, opn, quota, armed, off, steps⟩ := D
  simp only at h0 ha ha0 hs0 hs
  have c5 : w.cell? ⟨p, 5, none⟩ = some (.int .i64 armed) := (blk_cell h.obj 5).trans rfl
  have c7 : w.cell? ⟨p, 7, none⟩ = some (.int .i64 steps) := (blk_cell h.obj 7).trans rfl
  have f5 : w.frozen? ⟨p, 5, none⟩ = false := blk_frozen h.obj 5
  have f7 : w.frozen? ⟨p, 7, none⟩ = false := blk_frozen h.obj 7
  have HO := Aside0.mk h
  clear h
  have t0 : (armed == 0) = false := by simpa using h0
  have HDO := Aside0.mk hdo
  clear hdo
  by_cases hpos : 0 < armed
  · have t1 : decide (0 < armed) = true := decide_eq_true hpos
    have HD : stepD ⟨files, now, sure, opn, quota, armed, off, steps⟩ = ⟨files, now, sure, opn, quota, armed - 1, off, steps + 1⟩ := by simp only [stepD]; rw [if_pos hpos]
    have HC := Aside0.mk (HDO.out ((w.setCell ⟨p, 5, none⟩ (.int .i64 (armed - 1))).setCell ⟨p, 7, none⟩ (.int .i64 (steps + 1))) (by rw [HD]; exact HO.out.reobj _ _ _ _ (blk_put (blk_put HO.out.obj 5 _ rfl) 7 _ rfl) ((But.setCell w ⟨p, 5, none⟩ _).trans (But.setCell _ ⟨p, 7, none⟩ _))) ((But.setCell w ⟨p, 5, none⟩ _).trans (But.setCell _ ⟨p, 7, none⟩ _)) (((Turn.refl B w).setCell HO.out.obj rfl HO.out.lop 5 _).setCell (blk_put HO.out.obj 5 _ rfl) rfl HO.out.lop 7 _))
    clear HD HDO
    go_enter Tryd.func36, Tryd.ntmps36
    go_wp2_with (go_at_call 37; refine HC.out.mono ?_; rintro e w1 ⟨rfl, hr⟩; have HR := Aside0.mk hr; clear hr)
    go_ret
    exact ⟨rfl, HR.out⟩
  · have t1 : decide (0 < armed) = false := decide_eq_false hpos
    have HD : stepD ⟨files, now, sure, opn, quota, armed, off, steps⟩ = ⟨files, now, sure, opn, quota, armed, off, steps + 1⟩ := by simp only [stepD]; rw [if_neg hpos]
    have HC := Aside0.mk (HDO.out (w.setCell ⟨p, 7, none⟩ (.int .i64 (steps + 1))) (by rw [HD]; exact HO.out.reobj _ _ _ _ (blk_put HO.out.obj 7 _ rfl) (But.setCell w ⟨p, 7, none⟩ _)) (But.setCell w ⟨p, 7, none⟩ _) ((Turn.refl B w).setCell HO.out.obj rfl HO.out.lop 7 _))
    clear HD HDO
    go_enter Tryd.func36, Tryd.ntmps36
    go_wp2_with (go_at_call 37; refine HC.out.mono ?_; rintro e w1 ⟨rfl, hr⟩; have HR := Aside0.mk hr; clear hr)
    go_ret
    exact ⟨rfl, HR.out⟩
set_option maxRecDepth 100000 in
set_option maxHeartbeats 4000000 in
theorem step_syncdir (a0 : Nat) (R : World → Prop) (w : World) (h : Lies B w p D L m1 m2 fv ov) (h0 : D.armed ≠ 0) (ha : D.armed ≤ 9223372036854775807) (ha0 : -1 ≤ D.armed) (hs0 : 0 ≤ D.steps) (hs : D.steps ≤ 1099511627776)
    (hdo : ∀ w1, Lies B w1 p (stepD D) L m1 m2 fv ov → But w w1 (some p) → Turn B w w1 → Calls Tryd.prog 38 #[.pointer (some ⟨a0, 0, none⟩)] w1 fun e w2 => e = .returned (.tuple #[]) ∧ R w2) :
    Calls Tryd.prog 36 #[.pointer (some ⟨p, 0, none⟩), .func (Fn.func 38) #[] #[.pointer (some ⟨a0, 0, none⟩)]] w fun en w' => en = .returned .nilIface ∧ R w' := by
  obtain ⟨files, now, sure, opn, quota, armed, off, steps⟩ := D
  simp only at h0 ha ha0 hs0 hs
  have c5 : w.cell? ⟨p, 5, none⟩ = some (.int .i64 armed) := (blk_cell h.obj 5).trans rfl
  have c7 : w.cell? ⟨p, 7, none⟩ = some (.int .i64 steps) := (blk_cell h.obj 7).trans rfl
  have f5 : w.frozen? ⟨p, 5, none⟩ = false := blk_frozen h.obj 5
  have f7 : w.frozen? ⟨p, 7, none⟩ = false := blk_frozen h.obj 7
  have HO := Aside0.mk h
  clear h
  have t0 : (armed == 0) = false := by simpa using h0
  have HDO := Aside0.mk hdo
  clear hdo
  by_cases hpos : 0 < armed
  · have t1 : decide (0 < armed) = true := decide_eq_true hpos
    have HD : stepD ⟨files, now, sure, opn, quota, armed, off, steps⟩ = ⟨files, now, sure, opn, quota, armed - 1, off, steps + 1⟩ := by simp only [stepD]; rw [if_pos hpos]
    have HC := Aside0.mk (HDO.out ((w.setCell ⟨p, 5, none⟩ (.int .i64 (armed - 1))).setCell ⟨p, 7, none⟩ (.int .i64 (steps + 1))) (by rw [HD]; exact HO.out.reobj _ _ _ _ (blk_put (blk_put HO.out.obj 5 _ rfl) 7 _ rfl) ((But.setCell w ⟨p, 5, none⟩ _).trans (But.setCell _ ⟨p, 7, none⟩ _))) ((But.setCell w ⟨p, 5, none⟩ _).trans (But.setCell _ ⟨p, 7, none⟩ _)) (((Turn.refl B w).setCell HO.out.obj rfl HO.out.lop 5 _).setCell (blk_put HO.out.obj 5 _ rfl) rfl HO.out.lop 7 _))
    clear HD HDO
    go_enter Tryd.func36, Tryd.ntmps36
    go_wp2_with (go_at_call 38; refine HC.out.mono ?_; rintro e w1 ⟨rfl, hr⟩; have HR := Aside0.mk hr; clear hr)
    go_ret
    exact ⟨rfl, HR.out⟩
  · have t1 : decide (0 < armed) = false := decide_eq_false hpos
    have HD : stepD ⟨files, now, sure, opn, quota, armed, off, steps⟩ = ⟨files, now, sure, opn, quota, armed, off, steps + 1⟩ := by simp only [stepD]; rw [if_neg hpos]
    have HC := Aside0.mk (HDO.out (w.setCell ⟨p, 7, none⟩ (.int .i64 (steps + 1))) (by rw [HD]; exact HO.out.reobj _ _ _ _ (blk_put HO.out.obj 7 _ rfl) (But.setCell w ⟨p, 7, none⟩ _)) (But.setCell w ⟨p, 7, none⟩ _) ((Turn.refl B w).setCell HO.out.obj rfl HO.out.lop 7 _))
    clear HD HDO
    go_enter Tryd.func36, Tryd.ntmps36
    go_wp2_with (go_at_call 38; refine HC.out.mono ?_; rintro e w1 ⟨rfl, hr⟩; have HR := Aside0.mk hr; clear hr)
    go_ret
    exact ⟨rfl, HR.out⟩
end Go.Proofs.YtpcfnkmljchiiaaDoor.DStp
