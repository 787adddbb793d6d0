/- Steps towards RDiskAll: DRl. -/
import Derived.Test.YtpcfnkmljchiiaaGreatDoorZ17
set_option linter.unusedVariables false
set_option linter.unusedSimpArgs false
/- The document's disk lies in a world; its count of open steps. -/
namespace Go.Proofs.YtpcfnkmljchiiaaGreatDoor.DRl
open Go Go.RowKit Go.Maps Go.WideMaps Go.Proofs.YtpcfnkmljchiiaaGreatDoorW.PrintWords Go.Proofs.YtpcfnkmljchiiaaGreatDoorW.PrintLast DBase DPl DAt Go.Proofs.YtpcfnkmljchiiaaGreatDoor.Is DFil DRn DRd DOpn
def RPtrsAt (B : Nat) (W : World) (v : Value) (l : List Nat) : Prop := Kd.R kPtr 48 W B (fun _ => True) v l
def REntsAt (B : Nat) (W : World) (v : Value) (l : List Ent) : Prop := Kd.R kEnt 144 W B (fun _ => True) v l
/-- A name as a text. -/
def nmS (q : List UInt8) : ByteArray := ⟨q.toArray⟩
structure RFilesAt (B : Nat) (W : World) (L : List (Nat × Value)) (fs : List Fil) : Prop where
  len : L.length = fs.length
  each : ∀ (i : Nat) (x : Nat × Value) (f : Fil), L[i]? = some x → fs[i]? = some f → RFileAt B W x.1 x.2 f
  lo : ∀ x ∈ L, B ≤ x.1
  far : ∀ (i j : Nat) (x y : Nat × Value), L[i]? = some x → L[j]? = some y → i ≠ j → Far x y
structure RLies (B : Nat) (W : World) (p : Nat) (D : Dsk) (L : List (Nat × Value)) (fv nv iv ov : Value) : Prop where
  obj : W.heap[p]? = some (rdO fv nv iv ov D.quota D.armed D.off D.steps)
  lop : B ≤ p
  names : Kd.R Kd.string 9 W B (fun _ => True) nv (D.sure.map fun q => nmS q.1)
  nums : Kd.R (Kd.int .i64) 3 W B (fun _ => True) iv (D.sure.map Prod.snd)
  ptrs : RPtrsAt B W fv (L.map Prod.fst)
  opn : REntsAt B W ov D.opn
  files : RFilesAt B W L D.files
def RDiskAt (B : Nat) (W : World) (p : Nat) (D : Dsk) : Prop := ∃ L fv nv iv ov, RLies B W p D L fv nv iv ov
theorem rptr_at {B : Nat} {W : World} {fv : Value} {l : List Nat} (h : RPtrsAt B W fv l) (i : Nat) (x : Nat) (hi : l[i]? = some x) : ∃ g cp, fv = .slice (some ⟨g, 0, none⟩) l.length cp ∧ l.length ≤ cp ∧ W.cell? ⟨g, i, none⟩ = some (.pointer (some ⟨x, 0, none⟩)) := by
  obtain ⟨hl, hx⟩ := List.getElem?_eq_some_iff.1 hi
  obtain ⟨inner, ho⟩ := Kd.R_own h
  obtain ⟨A, cp, e, hcp, hC⟩ := Kd.R_reads h
  obtain ⟨g, cp2, e2, _, _⟩ := World.ownsRow.form ho (by omega)
  rw [e] at e2
  obtain ⟨ad, c, ea, hlen, hK, hcell⟩ := Kd.C_get hC x (i : Int) (by omega) (by omega)
  simp only [Value.slice.injEq, Option.some.injEq] at e2
  obtain ⟨rfl, _, rfl⟩ := e2
  obtain rfl := Option.some.inj ea
  refine ⟨g, cp, e, hcp, ?_⟩
  have hc : c = [.pointer (some ⟨x, 0, none⟩)] := by
    have : c = [.pointer (some ⟨l.getD i x, 0, none⟩)] := hK
    rw [this, List.getD_eq_getElem?_getD, hi]
    rfl
  have := hcell 0 _ (by rw [hc]; rfl)
  have e3 : ((i : Int).toNat * kPtr.sz + 0) = i := by show ((i : Int).toNat * 1 + 0) = i; omega
  rw [e3, add_plain] at this
  exact this
set_option maxRecDepth 100000 in
set_option maxHeartbeats 8000000 in
theorem ropens_calls (B p : Nat) (D : Dsk) (w : World) (h : RDiskAt B w p D) (hk : D.Ok) (hst : D.steps ≤ 1000000000) :
    Calls Tryz.prog 58 #[.pointer (some ⟨p, 0, none⟩)] w fun e w' => e = .returned (.int .i64 (opensD D : Nat)) ∧ w' = w := by
  obtain ⟨L, fv, nv, iv, ov, hl⟩ := h
  have HL := Aside0.mk hl
  have HK := Aside0.mk hk
  obtain ⟨Ao, co, eo⟩ := Kd.R_slice hl.opn
  have c3 : w.cell? ⟨p, 3, none⟩ = some (.slice Ao D.opn.length co) := by rw [← eo]; exact (blk_cell hl.obj 3).trans rfl
  obtain ⟨Af, cf, ef⟩ := Kd.R_slice hl.ptrs
  have HLL := Aside0.mk (show L.length = D.files.length from hl.files.len)
  obtain ⟨nF, hnF⟩ : ∃ nF, nF = (L.map Prod.fst).length := ⟨_, rfl⟩
  have HNF := Aside0.mk (show nF = D.files.length by rw [hnF, List.length_map]; exact hl.files.len)
  have c0 : w.cell? ⟨p, 0, none⟩ = some (.slice Af nF cf) := by rw [hnF, ← ef]; exact (blk_cell hl.obj 0).trans rfl
  obtain ⟨no, hno⟩ : ∃ no, no = D.opn.length := ⟨_, rfl⟩
  rw [← hno] at c3
  have HNo := Aside0.mk hno
  have hnob : no ≤ 1000000000 := by have := hk.cntN; omega
  have hnFb : nF ≤ 1000000000 := by have := hk.cntF; have := HNF.out; omega
  have HOp := Aside0.mk (fun k => opens_le D.files 1000000000 (fun f hf => by have := (hk.fil f hf).cnt; omega) k)
  obtain ⟨r, hr⟩ : ∃ r, r = opensD D := ⟨_, rfl⟩
  rw [← hr]
  have HR := Aside0.mk hr
  clear hl hk eo ef hnF hno hr hst
  go_enter Tryz.func58, Tryz.ntmps58
  go_wp2
  go_loopw [16, 3] (fun i n wr => ∃ k s : Nat, k ≤ nF ∧ i = .int .i64 k ∧ n = .int .i64 s ∧ Aside0 (s = no + opensL (D.files.take k)) ∧ wr = w) (fun i _ _ => nF - (Go.RowKit.intOf i).toNat)
  case atStart => exact ⟨0, no, by omega, rfl, rfl, ⟨by simp [opensL]⟩, rfl⟩
  case round =>
    obtain ⟨k, s, hk, rfl, rfl, HS, rfl⟩ := hrel
    by_cases hlt : k < nF
    · have t1 : decide (k < nF) = true := decide_eq_true hlt
      obtain ⟨f, hf⟩ : ∃ f, D.files[k]? = some f := ⟨_, List.getElem?_eq_getElem (by rw [← HNF.out]; exact hlt)⟩
      obtain ⟨x, hx⟩ : ∃ x, L[k]? = some x := ⟨_, List.getElem?_eq_getElem (by rw [HLL.out, ← HNF.out]; exact hlt)⟩
      obtain ⟨g, cp3, ef, _, hg⟩ := rptr_at HL.out.ptrs k x.1 (by rw [List.getElem?_map, hx]; rfl)
      have c00 := c0
      rw [(blk_cell HL.out.obj 0).trans (rfl : _ = some fv), ef] at c00
      simp only [Option.some.injEq, Value.slice.injEq] at c00
      obtain ⟨rfl, _, rfl⟩ := c00
      obtain ⟨ho, hop⟩ := HL.out.files.each k x f hx hf
      obtain ⟨Ar, cr, er⟩ := Kd.R_slice hop
      have q2 : wr.cell? ⟨x.1, 1, none⟩ = some (.slice Ar f.opn.length cr) := by rw [← er]; exact (blk_cell ho 1).trans rfl
      have u0 : (0 : Int) ≤ (k : Int) := by omega
      have u1 : (k : Int) < (nF : Int) := by omega
      have hb1 := HOp.out (k + 1)
      have hst := opens_step D.files k f hf
      have HSN := Aside0.mk (show s + f.opn.length = no + opensL (D.files.take (k + 1)) by have := HS.out; omega)
      have hsb : s + f.opn.length ≤ 1000000000 + 1000000001 * 1000000000 := by have := HS.out; omega
      clear hf hx ef ho hop er hb1 hst
      go_wp2
      go_roundw
      case rel => exact ⟨k + 1, s + f.opn.length, by omega, by go_num, by go_num, HSN, trivial⟩
      case measure => simp [Go.RowKit.intOf]; omega
    · have t1 : decide (k < nF) = false := decide_eq_false hlt
      have e : s = r := by rw [HS.out, HR.out, opensD, ← HNo.out, show k = D.files.length by have := HNF.out; omega, List.take_length]
      subst e
      go_wp2
      go_ret
      exact ⟨rfl, rfl⟩
end Go.Proofs.YtpcfnkmljchiiaaGreatDoor.DRl
