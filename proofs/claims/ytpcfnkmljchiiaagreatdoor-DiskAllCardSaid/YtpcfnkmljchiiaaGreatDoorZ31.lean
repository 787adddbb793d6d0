/- Steps towards RDiskAll: DRak. -/
import Derived.Test.YtpcfnkmljchiiaaGreatDoorZ30
import Derived.Test.YtpcfnkmljchiiaaGreatDoorZ12
set_option linter.unusedVariables false
set_option linter.unusedSimpArgs false
/- What the document's disk answers on a name; how many bytes named files have. -/
namespace Go.Proofs.YtpcfnkmljchiiaaGreatDoor.DRak
open Go Go.RowKit Go.Maps Go.Proofs.YtpcfnkmljchiiaaGreatDoorW.PrintWords Go.Proofs.YtpcfnkmljchiiaaGreatDoorW.PrintLast DPl DAt DRn DRd DRl DRt DDo DRdp DRdo DRnf DRnw DFil GRef Right DUsd
theorem _root_.Go.Proofs.YtpcfnkmljchiiaaGreatDoor.DRl.RDiskAt.turnN {B C p : Nat} {D : Dsk} {w w' : World} (h : RDiskAt B w p D) (ht : Turn C w w') : RDiskAt B w' p D := by
  obtain ⟨L, fv, nv, iv, ov, hl⟩ := h
  refine ⟨L, fv, nv, iv, ov, ⟨ht.kind _ _ hl.obj rfl, hl.lop, R_turn hl.names ht.kind (by decide), R_turn hl.nums ht.kind (by decide), R_turn hl.ptrs ht.kind (by decide), R_turn hl.opn ht.kind (by decide), ⟨hl.files.len, fun i x f hx hf => ?_, hl.files.lo, hl.files.far⟩⟩⟩
  have h1 := hl.files.each i x f hx hf
  exact ⟨ht.kind _ _ h1.obj rfl, R_turn h1.opn ht.kind (by decide)⟩
theorem _root_.Go.Proofs.YtpcfnkmljchiiaaGreatDoor.DRl.RDiskAt.keep {B p : Nat} {D : Dsk} {w w' : World} (h : RDiskAt B w p D) (hb : Below w.heap.size w w') : RDiskAt B w' p D := h.turnN (Turn.of_below (B := 0) hb)
/-- An error's number; 0: none. -/
def numE : Option Int → Int | none => 0 | some c => c
theorem now_len {D : Dsk} (hk : D.Ok) (hs : D.steps ≤ 1000000000) : D.now.length ≤ 1000000000 := by
  have h1 := goAll_len hk hs D.opn.length
  rw [List.take_length, ← hk.nowE] at h1
  exact h1
set_option maxRecDepth 100000 in
set_option maxHeartbeats 8000000 in
theorem ask0_calls (B p : Nat) (D : Dsk) (s : ByteArray) (hs : s.size < 9223372036854775807) (w : World) (h : RDiskAt B w p D) :
    Calls Tryz.prog 95 #[.pointer (some ⟨p, 0, none⟩), .string s, .bool false] w fun e w' => e = .returned (.int .i64 (numE (askD D s))) ∧ Below w.heap.size w w' := by
  obtain ⟨L, fv, nv, iv, ov, hl⟩ := h
  have c6 : w.cell? ⟨p, 6, none⟩ = some (.bool D.off) := (blk_cell hl.obj 6).trans rfl
  have HR := Aside0.mk (refRight_calls s hs)
  obtain ⟨of, hof⟩ : ∃ of, of = D.off := ⟨_, rfl⟩
  rw [← hof] at c6
  have HA := Aside0.mk (show askD D s = (if of = true then some 8 else if rightB s = true then none else some 4) by rw [hof]; rfl)
  clear hl hof
  cases of with
  | true =>
    go_enter Tryz.func95, Tryz.ntmps95
    go_wp2
    go_ret
    rw [HA.out]
    exact ⟨rfl, Below.refl _ _⟩
  | false =>
    obtain ⟨r, hr⟩ : ∃ r, r = rightB s := ⟨_, rfl⟩
    rw [← hr] at HA HR
    clear hr
    cases r with
    | true =>
      go_enter Tryz.func95, Tryz.ntmps95
      go_wp2_with (go_at_call 74; refine (HR.out _).mono ?_; rintro e w1 ⟨rfl, hb1⟩; have HB := Aside0.mk hb1; clear hb1)
      go_ret
      rw [HA.out]
      exact ⟨rfl, HB.out⟩
    | false =>
      go_enter Tryz.func95, Tryz.ntmps95
      go_wp2_with (go_at_call 74; refine (HR.out _).mono ?_; rintro e w1 ⟨rfl, hb1⟩; have HB := Aside0.mk hb1; clear hb1)
      go_ret
      rw [HA.out]
      exact ⟨rfl, HB.out⟩
/-- The look-up of a name, behind Now. -/
theorem look_calls {B : Nat} {U : World} {nv iv : Value} {N : Nms} (h : NmsAt B U nv iv N) (hN : N.length ≤ 1000000000) (s : ByteArray) : ∃ r, DRnf.Found N N s.data.toList r ∧ Calls Tryz.prog 97 #[.agg #[nv, iv], .string s] U fun e w' => e = .returned (.int .i64 r) ∧ Below U.heap.size U w' := by
  obtain ⟨A1, c1, A2, c2, rfl, rfl, l1, l2, C1, C2⟩ := h.reads
  obtain ⟨r, h1, h2⟩ := find_f N s (Nat.le_trans hN (by decide))
  refine ⟨r, h2, ?_⟩
  have h3 := postbagref05_Names_Find.calls (N.length + 1) A1 c1 (namesL N) A2 c2 (numsL N) s r U C1 (by rw [names_len]; exact l1) C2 (by rw [nums_len]; exact l2) h1
  rw [names_len, nums_len] at h3
  exact h3
theorem file_calls {B : Nat} {U : World} {nv iv : Value} {N : Nms} (h : NmsAt B U nv iv N) (hN : N.length ≤ 1000000000) (s : ByteArray) : Calls Tryz.prog 99 #[.agg #[nv, iv], .string s] U fun e w' => e = .returned (.int .i64 (fileI N s.data.toList)) ∧ Below U.heap.size U w' := by
  obtain ⟨A1, c1, A2, c2, rfl, rfl, l1, l2, C1, C2⟩ := h.reads
  have h3 := postbagref05_Names_File.calls (N.length + 1) A1 c1 (namesL N) A2 c2 (numsL N) s _ U C1 (by rw [names_len]; exact l1) C2 (by rw [nums_len]; exact l2) (file_f N s (Nat.le_trans hN (by decide)))
  rw [names_len, nums_len] at h3
  exact h3
set_option maxRecDepth 100000 in
set_option maxHeartbeats 8000000 in
theorem ask1_calls (B p : Nat) (D : Dsk) (s : ByteArray) (hs : s.size < 9223372036854775807) (w : World) (h : RDiskAt B w p D) (hk : D.Ok) (hst : D.steps ≤ 1000000000) (hri : Rising D.sure) :
    Calls Tryz.prog 95 #[.pointer (some ⟨p, 0, none⟩), .string s, .bool true] w fun e w' => e = .returned (.int .i64 (numE (fileE D s))) ∧ Below w.heap.size w w' := by
  have HD := Aside0.mk h
  obtain ⟨L, fv, nv, iv, ov, hl⟩ := h
  have c6 : w.cell? ⟨p, 6, none⟩ = some (.bool D.off) := (blk_cell hl.obj 6).trans rfl
  have HR := Aside0.mk (refRight_calls s hs)
  have HL := Aside0.mk (now_len hk hst)
  have HN := Aside0.mk (fun (U : World) (hb : Below w.heap.size w U) => names_calls B p D U (HD.out.keep hb) hk hst hri)
  obtain ⟨of, hof⟩ : ∃ of, of = D.off := ⟨_, rfl⟩
  rw [← hof] at c6
  have HA := Aside0.mk (show fileE D s = (if of = true then some 8 else if rightB s = true then (if hasN D.now s.data.toList = true then none else some 5) else some 4) by
    unfold fileE askD
    rw [← hof]
    cases of with
    | true => rfl
    | false => cases rightB s <;> rfl)
  clear hl hof hk hri hst
  cases of with
  | true =>
    go_enter Tryz.func95, Tryz.ntmps95
    go_wp2
    go_ret
    rw [HA.out]
    exact ⟨rfl, Below.refl _ _⟩
  | false =>
    obtain ⟨r, hr⟩ : ∃ r, r = rightB s := ⟨_, rfl⟩
    rw [← hr] at HA HR
    clear hr
    cases r with
    | true =>
      go_enter Tryz.func95, Tryz.ntmps95
      go_upto_region 5 with (go_at_call 74; refine (HR.out _).mono ?_; rintro e w1 ⟨rfl, hb1⟩; have HB := Aside0.mk hb1; clear hb1)
      go_wp2_with (first
        | (go_at_call 96; refine (HN.out _ HB.out).mono ?_; rintro e w2 ⟨nv2, iv2, rfl, hn2, hb2⟩; have HB2 := Aside0.mk (HB.out.trans (hb2.mono HB.out.size)); obtain ⟨r, hf, hlook⟩ := look_calls hn2 HL.out s; have HLk := Aside0.mk hlook; have HF := Aside0.mk hf; clear hn2 hb2 hlook hf)
        | (go_at_call 97; refine HLk.out.mono ?_; rintro e w3 ⟨rfl, hb3⟩; have HB3 := Aside0.mk (HB2.out.trans (hb3.mono HB2.out.size)); clear hb3; by_cases hneg : r < 0))
      · go_ret
        rw [HA.out]
        rcases HF.out with ⟨h1, h2⟩ | ⟨h1, i, h2, _⟩
        · rw [h1]
          exact ⟨rfl, HB3.out⟩
        · omega
      · go_ret
        rw [HA.out]
        rcases HF.out with ⟨h1, h2⟩ | ⟨h1, i, h2, _⟩
        · omega
        · rw [h1]
          exact ⟨rfl, HB3.out⟩
    | false =>
      go_enter Tryz.func95, Tryz.ntmps95
      go_wp2_with (go_at_call 74; refine (HR.out _).mono ?_; rintro e w1 ⟨rfl, hb1⟩; have HB := Aside0.mk hb1; clear hb1)
      go_ret
      rw [HA.out]
      exact ⟨rfl, HB.out⟩
end Go.Proofs.YtpcfnkmljchiiaaGreatDoor.DRak
