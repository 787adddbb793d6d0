/- Disk.file: the file of a name. -/
import Derived.Test.YtpcfnkmljchiiaaDoorDNam
import Derived.Test.YtpcfnkmljchiiaaDoorDAsk
namespace Go.Proofs.YtpcfnkmljchiiaaDoor.DFil
open Go Go.RowKit Go.Maps Go.WideMaps Go.Proofs.YtpcfnkmljchiiaaDoorW.PrintWords Go.Proofs.YtpcfnkmljchiiaaDoorW.PrintLast Go.Proofs.YtpcfnkmljchiiaaDoor.DBase Go.Proofs.YtpcfnkmljchiiaaDoor.DPl Go.Proofs.YtpcfnkmljchiiaaDoor.DAt Go.Proofs.YtpcfnkmljchiiaaDoor.DEnt Go.Proofs.YtpcfnkmljchiiaaDoor.DNam Go.Proofs.YtpcfnkmljchiiaaDoor.Is Go.Proofs.YtpcfnkmljchiiaaDoor.DAsk Go.Proofs.YtpcfnkmljchiiaaDoor.Right
set_option linter.unusedVariables false
set_option linter.unusedSimpArgs false
theorem gName : gOf 4 = 5 := by decide
theorem gNone : gOf 5 = 6 := by decide
/-- What asking for a name answers. -/
def askD (D : Dsk) (s : ByteArray) : Option Int := if D.off = true then some 8 else if rightB s = true then none else some 4
theorem askV_eq (E : Int → Addr) (D : Dsk) (s : ByteArray) : askV (errV E (some 8)) (errV E (some 4)) D.off s = errV E (askD D s) := by
  unfold askV askD
  by_cases h : D.off = true
  · rw [if_pos h, if_pos h]
  · rw [if_neg h, if_neg h]
    by_cases h2 : rightB s = true
    · rw [if_pos h2, if_pos h2, errV_none]
    · rw [if_neg h2, if_neg h2]
theorem ask_calls (p b cp : Nat) (D : Dsk) {B : Nat} {L : List (Nat × Value)} {m1 m2 : Nat} {fv ov : Value} (s : ByteArray) (hs : s.size < 9223372036854775807) (E : Int → Addr) (w : World) (h : Lies B w p D L m1 m2 fv ov) (hE : ErrAt B w E) (hc : w.cell? ⟨b, 0, none⟩ = some (.string s)) :
    Calls Tryd.prog 30 #[.pointer (some ⟨p, 0, none⟩), .slice (some ⟨b, 0, none⟩) 1 cp] w fun e w' => e = .returned (errV E (askD D s)) ∧ Below w.heap.size w w' := by
  have c6 : w.cell? ⟨p, 6, none⟩ = some (.bool D.off) := (blk_cell h.obj 6).trans rfl
  have h8 := hE.errs.var 8 (by simp [dErr])
  have h4 := hE.errs.var 4 (by simp [dErr])
  rw [gPower] at h8
  rw [gName] at h4
  have := ask_one p b 0 cp D.off s hs _ _ w c6 hc h8 h4
  rw [← errV_some, ← errV_some, askV_eq] at this
  exact this
/-- What the file of a name answers but a file. -/
def fileE (D : Dsk) (s : ByteArray) : Option Int := match askD D s with | some c => some c | none => if hasN D.now s.data.toList = true then none else some 5
theorem askD_in (D : Dsk) (s : ByteArray) : ∀ c, askD D s = some c → dErr c := fun c h => by
  unfold askD at h
  split at h
  · cases h; simp [dErr]
  · split at h
    · cases h
    · cases h; simp [dErr]
theorem right_size {s : ByteArray} (h : rightB s = true) : s.size ≤ 24 := by
  unfold rightB at h
  simp only [Bool.and_eq_true, decide_eq_true_eq] at h
  exact h.2.2
theorem askD_none {D : Dsk} {s : ByteArray} (h : askD D s = none) : s.size ≤ 24 ∧ rightB s = true ∧ D.off = false := by
  unfold askD at h
  split at h
  · cases h
  · split at h
    · rename_i h1 h2
      exact ⟨right_size h2, h2, by simpa using h1⟩
    · cases h
set_option maxRecDepth 100000 in
set_option maxHeartbeats 4000000 in
theorem file_no (p : Nat) (D : Dsk) {B : Nat} {L : List (Nat × Value)} {m1 m2 : Nat} {fv ov : Value} (s : ByteArray) (hs : s.size < 9223372036854775807) (E : Int → Addr) (w : World) (h : Lies B w p D L m1 m2 fv ov) (hE : ErrAt B w E) (c : Int) (hc : fileE D s = some c) :
    Calls Tryd.prog 33 #[.pointer (some ⟨p, 0, none⟩), .string s] w fun e w' => e = .returned (.tuple #[.pointer none, errV E (some c)]) ∧ Below w.heap.size w w' := by
  have HB0 := Aside0.mk (show Below w.heap.size w (w.alloc (.cells #[.string s] 9)) from (Below.refl _ _).alloc (Nat.le_refl _) _)
  have hT0 : Turn B w (w.alloc (.cells #[.string s] 9)) := (Turn.refl B w).alloc _
  have HA := Aside0.mk (ask_calls p w.heap.size 1 D s hs E (w.alloc (.cells #[.string s] 9)) (h.below HB0.out) (hE.turn hT0) ((World.cell?_alloc_new _ _ _ _).trans rfl))
  cases hq : askD D s with
  | some c0 =>
    have e : c0 = c := by unfold fileE at hc; rw [hq] at hc; exact Option.some.inj hc
    subst e
    rw [hq] at HA
    clear hc hq h hE hT0
    rw [errV_some] at HA ⊢
    go_enter Tryd.func33, Tryd.ntmps33
    go_wp2_with (go_at_call 30; refine HA.out.mono ?_; rintro e w1 ⟨rfl, hb⟩; have HB1 := Aside0.mk hb; clear hb)
    go_ret2
    exact ⟨rfl, HB0.out.trans (HB1.out.mono (by simp))⟩
  | none =>
    rw [hq] at HA
    have hn : hasN D.now s.data.toList = false := by
      unfold fileE at hc
      rw [hq] at hc
      simp only at hc
      split at hc
      · cases hc
      · rename_i h1; simpa using h1
    have e : c = 5 := by
      unfold fileE at hc
      rw [hq] at hc
      simp only [hn] at hc
      exact (Option.some.inj hc).symm
    subst e
    have K1 := keyS s (askD_none hq).1
    have c1 : w.cell? ⟨p, 1, none⟩ = some (.map (some m1)) := (blk_cell h.obj 1).trans rfl
    have hp := blk_lt h.obj
    have HC := Aside0.mk (fun W (hb : Below w.heap.size w W) => (hb.cell (p := ⟨p, 1, none⟩) hp).trans c1)
    have HM := Aside0.mk (fun W (hb : Below w.heap.size w W) => (show W.ownsMap (H := Unit) Tryd.prog 9 (plainElem Tryd.prog 3) m1 D.now.length (nmData D.now) from h.now.below hb))
    have c6 := hE.errs.var 5 (by simp [dErr])
    rw [gNone] at c6
    have HN5 := Aside0.mk (fun W (hb : Below w.heap.size w W) => (hb.cell (p := ⟨6, 0, none⟩) (World.block_lt_of_cell? w _ c6)).trans c6)
    have hhas := nmData_has D.now s.data.toList
    rw [hn] at hhas
    have HH := Aside0.mk hhas
    clear hc hq h hE hT0 hn c1 hhas c6
    rw [errV_some]
    rw [errV_none] at HA
    go_enter Tryd.func33, Tryd.ntmps33
    go_wp2_with (first
      | (go_at_call 30; refine HA.out.mono ?_; rintro e w1 ⟨rfl, hb⟩; have HB1 := Aside0.mk (HB0.out.trans (hb.mono (by simp))); clear hb; have c1 := HC.out _ HB1.out; have c6 := HN5.out _ HB1.out)
      | (at_lookup; refine wpList_lookup_own_ok_int _ rfl _ _ 55 rfl 9 3 .i64 law Tryd.underlying55 Tryd.underlying3 (zeroE _) m1 D.now.length (nmData D.now) rfl (HM.out _ HB1.out) _ _ rfl K1 ?_; rw [HH.out]; intro c hat hwc; clear hat hwc))
    go_region
    all_goals
      go_wp2
      go_ret2
      exact ⟨rfl, HB1.out.drew⟩
theorem ptr_at {B : Nat} {W : World} {fv : Value} {l : List Nat} (h : PtrsAt B W fv l) (i : Nat) (x : Nat) (hi : l[i]? = some x) : ∃ g cp, fv = .slice (some ⟨g, 0, none⟩) l.length cp ∧ l.length ≤ cp ∧ W.cell? ⟨g, i, none⟩ = some (.pointer (some ⟨x, 0, none⟩)) := by
  obtain ⟨hl, hx⟩ := List.getElem?_eq_some_iff.1 hi
  obtain ⟨inner, ho⟩ := Kd.R_own h
  obtain ⟨A, cp, e, hcp, hC⟩ := Kd.R_reads h
  obtain ⟨g, cp2, e2, _, _⟩ := World.ownsRow.form ho (by omega)
  rw [e] at e2
  obtain ⟨ad, c, ea, hlen, hK, hcell⟩ := Kd.C_get hC x (i : Int) (by omega) (by omega)
  simp only [Value.slice.injEq, Option.some.injEq] at e2
  obtain ⟨rfl, _, rfl⟩ := e2
  obtain rfl := Option.some.inj ea
  refine ⟨g, cp, e, hcp, ?_⟩
  have hc : c = [.pointer (some ⟨x, 0, none⟩)] := by
    have : c = [.pointer (some ⟨l.getD i x, 0, none⟩)] := hK
    rw [this, List.getD_eq_getElem?_getD, hi]
    rfl
  have := hcell 0 _ (by rw [hc]; rfl)
  have e3 : ((i : Int).toNat * kPtr.sz + 0) = i := by show ((i : Int).toNat * 1 + 0) = i; omega
  rw [e3, add_plain] at this
  exact this
theorem atN_lt {D : Dsk} (h : D.Ok) {k : List UInt8} (hh : hasN D.now k = true) : ∃ i : Nat, atN D.now k = i ∧ i < D.files.length := by
  unfold hasN at hh
  unfold atN
  obtain ⟨q, hq1, hq2⟩ := List.any_eq_true.1 hh
  cases hf : D.now.find? (fun p => p.1 == k) with
  | none => exact absurd hq2 (by simpa using List.find?_eq_none.1 hf q hq1)
  | some p =>
    have hm := List.mem_of_find?_eq_some hf
    have := h.nowF p hm
    exact ⟨p.2.toNat, by simp only; omega, by omega⟩
theorem fileE_none {D : Dsk} {s : ByteArray} (h : fileE D s = none) : askD D s = none ∧ hasN D.now s.data.toList = true := by
  unfold fileE at h
  cases hq : askD D s with
  | some c => rw [hq] at h; cases h
  | none =>
    rw [hq] at h
    simp only at h
    split at h
    · rename_i h1; exact ⟨rfl, h1⟩
    · cases h
set_option maxRecDepth 100000 in
set_option maxHeartbeats 4000000 in
theorem file_ok (p : Nat) (D : Dsk) {B : Nat} {L : List (Nat × Value)} {m1 m2 : Nat} {fv ov : Value} (s : ByteArray) (hs : s.size < 9223372036854775807) (E : Int → Addr) (w : World) (h : Lies B w p D L m1 m2 fv ov) (hE : ErrAt B w E) (hc : fileE D s = none) (i : Nat) (hi : atN D.now s.data.toList = i) (x : Nat × Value) (hx : L[i]? = some x) (hLl : L.length ≤ 1000000000000) :
    Calls Tryd.prog 33 #[.pointer (some ⟨p, 0, none⟩), .string s] w fun e w' => e = .returned (.tuple #[.pointer (some ⟨x.1, 0, none⟩), .nilIface]) ∧ Below w.heap.size w w' := by
  have HB0 := Aside0.mk (show Below w.heap.size w (w.alloc (.cells #[.string s] 9)) from (Below.refl _ _).alloc (Nat.le_refl _) _)
  have hT0 : Turn B w (w.alloc (.cells #[.string s] 9)) := (Turn.refl B w).alloc _
  have HA := Aside0.mk (ask_calls p w.heap.size 1 D s hs E (w.alloc (.cells #[.string s] 9)) (h.below HB0.out) (hE.turn hT0) ((World.cell?_alloc_new _ _ _ _).trans rfl))
  obtain ⟨hq, hn⟩ := fileE_none hc
  rw [hq] at HA
  have K1 := keyS s (askD_none hq).1
  have c1 : w.cell? ⟨p, 1, none⟩ = some (.map (some m1)) := (blk_cell h.obj 1).trans rfl
  have c0 : w.cell? ⟨p, 0, none⟩ = some fv := (blk_cell h.obj 0).trans rfl
  obtain ⟨g, cp, rfl, hcp, hg⟩ := ptr_at h.ptrs i x.1 (by rw [List.getElem?_map, hx]; rfl)
  have hp := blk_lt h.obj
  have HC := Aside0.mk (fun W (hb : Below w.heap.size w W) => (hb.cell (p := ⟨p, 1, none⟩) hp).trans c1)
  have HC0 := Aside0.mk (fun W (hb : Below w.heap.size w W) => (hb.cell (p := ⟨p, 0, none⟩) hp).trans c0)
  have HCg := Aside0.mk (fun W (hb : Below w.heap.size w W) => (hb.cell (p := ⟨g, i, none⟩) (World.block_lt_of_cell? w _ hg)).trans hg)
  have HM := Aside0.mk (fun W (hb : Below w.heap.size w W) => (show W.ownsMap (H := Unit) Tryd.prog 9 (plainElem Tryd.prog 3) m1 D.now.length (nmData D.now) from h.now.below hb))
  have hhas := nmData_has D.now s.data.toList
  rw [hn] at hhas
  have HH := Aside0.mk hhas
  have hat := nmData_at D.now s.data.toList
  rw [hi] at hat
  have HAt := Aside0.mk hat
  obtain ⟨n, hnl⟩ : ∃ n, n = (L.map Prod.fst).length := ⟨_, rfl⟩
  have hil : i < n := by rw [hnl, List.length_map]; exact (List.getElem?_eq_some_iff.1 hx).1
  have hnb : n ≤ 1000000000000 := by rw [hnl, List.length_map]; exact hLl
  rw [← hnl] at HC0
  have u0 : (0 : Int) ≤ (i : Int) := by omega
  have u1 : (i : Int) < (n : Int) := by omega
  clear hc hq h hE hT0 hn c1 c0 hhas hat hi hx hnl hcp hg hp hLl
  rw [errV_none] at HA
  go_enter Tryd.func33, Tryd.ntmps33
  go_wp2_with (first
    | (go_at_call 30; refine HA.out.mono ?_; rintro e w1 ⟨rfl, hb⟩; have HB1 := Aside0.mk (HB0.out.trans (hb.mono (by simp))); clear hb; have c1 := HC.out _ HB1.out; have c0 := HC0.out _ HB1.out; have cg := HCg.out _ HB1.out)
    | (at_lookup; refine wpList_lookup_own_ok_int _ rfl _ _ 55 rfl 9 3 .i64 law Tryd.underlying55 Tryd.underlying3 (zeroE _) m1 D.now.length (nmData D.now) rfl (HM.out _ HB1.out) _ _ rfl K1 ?_; rw [HH.out]; intro c hat hwc; have ec : c = (i : Int) := (by have := hat.symm.trans HAt.out; simpa using this); subst ec; clear hat hwc))
  go_ret2
  exact ⟨rfl, HB1.out⟩
end Go.Proofs.YtpcfnkmljchiiaaDoor.DFil
