/- Steps towards RDiskAll: DRn. -/
import Derived.Test.YtpcfnkmljchiiaaGreatDoorZ12
import Derived.Test.YtpcfnkmljchiiaaGreatDoorZ14
set_option linter.unusedVariables false
set_option linter.unusedSimpArgs false
/- The document's files: their bytes now. -/
namespace Go.Proofs.YtpcfnkmljchiiaaGreatDoor.DRn
open Go Go.RowKit Go.Maps Go.Proofs.YtpcfnkmljchiiaaGreatDoorW.PrintWords Go.Proofs.YtpcfnkmljchiiaaGreatDoorW.PrintLast DPl DAt GRef DRf DCrc
def kStp : Kd Chg := Kd.iso (Kd.pair (Kd.int .i64) (Kd.pair Kd.string Kd.bool)) (fun c => ((c.pos : Int), (strOfNums c.b, c.cut)))
def StpsAt (B : Nat) (W : World) (v : Value) (l : List Chg) : Prop := Kd.R kStp 147 W B (fun _ => True) v l
/-- A file of the document's disk. -/
structure RFileAt (B : Nat) (W : World) (k : Nat) (ov : Value) (f : Fil) : Prop where
  obj : W.heap[k]? = some (.cells #[.string (strOfNums f.sure), ov] 51 (0, 0))
  opn : StpsAt B W ov f.opn
theorem stp_at {B : Nat} {W : World} {v : Value} {l : List Chg} (h : StpsAt B W v l) (i : Nat) (e : Chg) (hi : l[i]? = some e) :
    ∃ g cp, v = .slice (some ⟨g, 0, none⟩) l.length cp ∧ l.length ≤ cp ∧ W.cell? ⟨g, i * 3, none⟩ = some (.int .i64 (e.pos : Int)) ∧ W.cell? ⟨g, i * 3 + 1, none⟩ = some (.string (strOfNums e.b)) ∧ W.cell? ⟨g, i * 3 + 2, none⟩ = some (.bool e.cut) := by
  obtain ⟨hl, hx⟩ := List.getElem?_eq_some_iff.1 hi
  obtain ⟨inner, ho⟩ := Kd.R_own h
  obtain ⟨A, cp, e0, hcp, hC⟩ := Kd.R_reads h
  obtain ⟨g, cp2, e2, _, _⟩ := World.ownsRow.form ho (by omega)
  rw [e0] at e2
  obtain ⟨ad, c, ea, hlen, hK, hcell⟩ := Kd.C_get hC e (i : Int) (by omega) (by omega)
  simp only [Value.slice.injEq, Option.some.injEq] at e2
  obtain ⟨rfl, _, rfl⟩ := e2
  obtain rfl := Option.some.inj ea
  obtain ⟨c0, c1, rfl, h0, d0, d1, rfl, h1, h2⟩ := hK
  have eg : l.getD i e = e := by rw [List.getD_eq_getElem?_getD, hi]; rfl
  simp only [Int.toNat_natCast, eg] at h0 h1 h2
  have k0 : c0 = [.int .i64 (e.pos : Int)] := h0
  have k1 : d0 = [.string (strOfNums e.b)] := h1
  have k2 : d1 = [.bool e.cut] := h2
  subst k0
  subst k1
  subst k2
  have q0 := hcell 0 _ rfl
  have q1 := hcell 1 _ rfl
  have q2 := hcell 2 _ rfl
  have es : kStp.sz = 3 := rfl
  rw [es, Int.toNat_natCast, add_plain] at q0 q1 q2
  exact ⟨g, cp, e0, hcp, by simpa using q0, q1, q2⟩
set_option maxRecDepth 100000 in
set_option maxHeartbeats 8000000 in
theorem rnow_calls (B k : Nat) (ov : Value) (f : Fil) (n : Int) (w : World) (h : RFileAt B w k ov f) (hk : f.Ok n) (hn : n ≤ 1000000000) :
    Calls Tryz.prog 100 #[.pointer (some ⟨k, 0, none⟩)] w fun e w' => e = .returned (.string (strOfNums f.now)) ∧ Below w.heap.size w w' := by
  have HF := Aside0.mk h
  have HK := Aside0.mk hk
  have c0 : w.cell? ⟨k, 0, none⟩ = some (.string (strOfNums f.sure)) := (blk_cell h.obj 0).trans rfl
  obtain ⟨A, cp, eo⟩ := Kd.R_slice h.opn
  have c1 : w.cell? ⟨k, 1, none⟩ = some (.slice A f.opn.length cp) := by rw [← eo]; exact (blk_cell h.obj 1).trans rfl
  obtain ⟨no, hno⟩ : ∃ no, no = f.opn.length := ⟨_, rfl⟩
  have HNo := Aside0.mk hno
  have HEo := Aside0.mk eo
  have hb : no ≤ 1000000000 := by have := hk.cnt; omega
  rw [← hno] at c1
  clear h hk eo hno
  go_enter Tryz.func100, Tryz.ntmps100
  go_wp2
  go_loopw [3, 15] (fun s i wr => ∃ j : Nat, j ≤ no ∧ i = .int .i64 j ∧ s = .string (strOfNums (chgAll f.sure (f.opn.take j))) ∧ Aside0 (Below w.heap.size w wr)) (fun _ i _ => no - (Go.RowKit.intOf i).toNat)
  case atStart => exact ⟨0, by omega, rfl, by simp [chgAll], ⟨Below.refl _ _⟩⟩
  case round =>
    obtain ⟨j, hj, rfl, rfl, HB⟩ := hrel
    by_cases hlt : j < no
    · have t1 : decide (j < no) = true := decide_eq_true hlt
      obtain ⟨c, hc⟩ : ∃ c, f.opn[j]? = some c := ⟨_, List.getElem?_eq_getElem (by rw [← HNo.out]; exact hlt)⟩
      obtain ⟨g, cp3, ef, _, q0, q1, q2⟩ := stp_at HF.out.opn j c hc
      rw [HEo.out] at ef
      simp only [Value.slice.injEq] at ef
      obtain ⟨rfl, _, rfl⟩ := ef
      have u0 : (0 : Int) ≤ (j : Int) := by omega
      have u1 : (j : Int) < (no : Int) := by omega
      have kp := fun (p : Addr) (v : Value) (hv : w.cell? p = some v) => (HB.out.cell (p := p) (World.block_lt_of_cell? w _ hv)).trans hv
      have r0 := kp _ _ q0
      have r1 := kp _ _ q1
      have r2 := kp _ _ q2
      have hpos := fits_take f.opn f.sure HK.out.fits j c hc
      have hlen := len_take f.opn f.sure HK.out.sureL HK.out.opnL j
      have hcl := HK.out.opnL c (List.mem_of_getElem? hc)
      have HS := Aside0.mk (take_step f.opn f.sure j c hc)
      obtain ⟨l, hl⟩ : ∃ l, l = chgAll f.sure (f.opn.take j) := ⟨_, rfl⟩
      rw [← hl] at hpos hlen HS ⊢
      have HD := Aside0.mk (fun (U : World) => postbagref05_Step_Do.calls _ _ _ _ _ U (do_f c l hpos (by omega) (by omega)))
      clear hc q0 q1 q2 kp hpos hlen hcl hl
      go_wp2_with (go_at_call 101; refine (HD.out _).mono ?_; rintro e w2 ⟨rfl, hb2⟩; have HB2 := Aside0.mk ((HB.out.alloc HB.out.size _).trans (hb2.mono (by have := HB.out.size; simp; omega))); clear hb2)
      go_roundw
      case rel => exact ⟨j + 1, by omega, by go_num, by rw [HS.out], HB2⟩
      case measure => simp [Go.RowKit.intOf]; omega
    · have t1 : decide (j < no) = false := decide_eq_false hlt
      have HE := Aside0.mk (show chgAll f.sure (f.opn.take j) = f.now by rw [HK.out.now, show j = f.opn.length by have := HNo.out; omega, List.take_length])
      go_wp2
      go_ret
      exact ⟨by rw [HE.out]; rfl, HB.out⟩
end Go.Proofs.YtpcfnkmljchiiaaGreatDoor.DRn
