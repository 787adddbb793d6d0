/- Disk.Crash: what it makes of the disk, told plainly; its closure. -/
import Derived.Test.YtpcfnkmljchiiaaDoorDCr
namespace Go.Proofs.YtpcfnkmljchiiaaDoor.DCra
open Go Go.RowKit Go.Maps Go.WideMaps Go.Proofs.YtpcfnkmljchiiaaDoorW.PrintWords Go.Proofs.YtpcfnkmljchiiaaDoorW.PrintLast Go.Proofs.YtpcfnkmljchiiaaDoorW.PrintMore Go.Proofs.YtpcfnkmljchiiaaDoor.DBase Go.Proofs.YtpcfnkmljchiiaaDoor.DPl Go.Proofs.YtpcfnkmljchiiaaDoor.DAt Go.Proofs.YtpcfnkmljchiiaaDoor.DEnt Go.Proofs.YtpcfnkmljchiiaaDoor.DNam Go.Proofs.YtpcfnkmljchiiaaDoor.Is Go.Proofs.YtpcfnkmljchiiaaDoor.DFil Go.Proofs.YtpcfnkmljchiiaaDoor.DUsd Go.Proofs.YtpcfnkmljchiiaaDoor.DChg Go.Proofs.YtpcfnkmljchiiaaDoor.DCg Go.Proofs.YtpcfnkmljchiiaaDoor.DStp Go.Proofs.YtpcfnkmljchiiaaDoor.DCh2 Go.Proofs.YtpcfnkmljchiiaaDoor.DOps
attribute [local go_sem] max2_int min2_int max_two min_two max_three min_three max_four min_four
set_option linter.unusedVariables false
set_option linter.unusedSimpArgs false
/-! ### told plainly -/
/-- How many of n stay, by the next number. -/
def ofK (keep : List Int) (n : Nat) : Nat := match keep with | [] => 0 | k :: _ => ((max k 0) % ((n : Int) + 1)).toNat
theorem ofK_le (keep : List Int) (n : Nat) : ofK keep n ≤ n := by
  unfold ofK
  cases keep with
  | nil => simp
  | cons k r =>
    have h := Int.emod_lt_of_pos (max k 0) (show (0 : Int) < (n : Int) + 1 by omega)
    simp only
    omega
/-- A step of which a part alone stays. -/
def partC (c : Chg) (j : Nat) : Chg := ⟨c.pos, c.b.take j, c.cut⟩
/-- A file's bytes behind the loss, and what is left of the numbers. -/
def crashF (f : Fil) (keep : List Int) : List Int × List Int :=
  let k := ofK keep f.opn.length
  let s := chgAll f.sure (f.opn.take k)
  match f.opn[k]? with
  | some c => if c.cut = true then (s, keep.tail) else ((partC c (ofK keep.tail c.b.length)).go s, keep.tail.tail)
  | none => (s, keep.tail)
def crashFs : List Fil → List Int → List Fil
  | [], _ => []
  | f :: r, keep => if f.opn = [] then f :: crashFs r keep else ⟨(crashF f keep).1, (crashF f keep).1, []⟩ :: crashFs r (crashF f keep).2
/-- Only files that have a name keep their bytes. -/
def sweepFs (fs : List Fil) (N : Nms) : List Fil := fs.mapIdx fun i f => if N.any (fun p => p.2 == (i : Int)) then f else ⟨[], [], f.opn⟩
def crashD (D : Dsk) (keep : List Int) : Dsk :=
  let k := ofK keep D.opn.length
  let N := goAll D.sure (D.opn.take k)
  ⟨sweepFs (crashFs D.files keep.tail) N, N, N, [], D.quota, -1, false, D.steps⟩
/-! ### the numbers that are left, where they lie -/
theorem _root_.Go.Proofs.YtpcfnkmljchiiaaDoor.DAt.Turn.setNew {B : Nat} {a w : World} (h : Turn B a w) {g : Nat} (hg : a.heap.size ≤ g) (i : Nat) (u : Value) : Turn B a (w.setCell ⟨g, i, none⟩ u) := by
  have hk : ∀ k, k ≠ g → (w.setCell ⟨g, i, none⟩ u).heap[k]? = w.heap[k]? := fun k hk => Below.heap_setCell w ⟨g, i, none⟩ u k hk
  refine ⟨h.os, h.tape, h.output, by simpa [World.setCell] using h.size, fun k h1 h2 => (hk k (by omega)).trans (h.low k h1 h2), fun k o ho hd => ?_⟩
  have := blk_lt ho
  exact (hk k (by omega)).trans (h.kind k o ho hd)
abbrev tI : Nat := 32
/-- The box of the numbers that are left. -/
structure KeepAt (B : Nat) (w : World) (kb : Nat) (W : World) (l : List Int) : Prop where
  ex : ∃ A c, W.heap[kb]? = some (.cells #[.slice A l.length c] tI (0, 0)) ∧ l.length ≤ c ∧ ∀ V, Turn B w V → ReadsInt V .i64 A l.length l
  nb : w.heap.size ≤ kb
theorem KeepAt.but {B : Nat} {w : World} {kb : Nat} {W V : World} {l : List Int} {row : Option Nat} (h : KeepAt B w kb W l) (hk : But W V row) (hne : some kb ≠ row) : KeepAt B w kb V l := by
  obtain ⟨A, c, ho, r⟩ := h.ex
  exact ⟨⟨A, c, hk.obj ho hne, r⟩, h.nb⟩
theorem infoI : (Tryd.prog.info? 3).map (fun i => (i.zero, i.size, i.bytes)) = some (some (.int .i64 0), 1, 8) := by kernel_rfl
theorem cell_eq {w : World} {g i : Nat} {u v : Value} (h : w.cell? ⟨g, i, none⟩ = some u) (e : u = v) : w.cell? ⟨g, i, none⟩ = some v := e ▸ h
set_option maxRecDepth 100000 in
set_option maxHeartbeats 4000000 in
theorem of_calls (B : Nat) (w : World) (kb n : Nat) (l : List Int) (W : World) (h : KeepAt B w kb W l) (ht : Turn B w W) (hn : n ≤ 1100000000000) :
    Calls Tryd.prog 62 #[.int .i64 (n : Int), .pointer (some ⟨kb, 0, none⟩)] W fun e w' => e = .returned (.int .i64 (ofK l n : Nat)) ∧ KeepAt B w kb w' l.tail ∧ But W w' (some kb) ∧ Turn B w w' := by
  obtain ⟨A, c, ho, hc, hR⟩ := h.ex
  have hnb := h.nb
  have c0 : W.cell? ⟨kb, 0, none⟩ = some (.slice A l.length c) := (blk_cell ho 0).trans rfl
  have f0 : W.frozen? ⟨kb, 0, none⟩ = false := blk_frozen ho 0
  cases l with
  | nil =>
    have HH := Aside0.mk h
    have HT := Aside0.mk ht
    clear h ht hR ho
    simp only [List.length_nil] at c0
    go_enter Tryd.func62, Tryd.ntmps62
    go_wp2
    go_ret
    exact ⟨rfl, HH.out, ⟨Nat.le_refl _, fun _ _ _ => rfl⟩, HT.out⟩
  | cons k r =>
    obtain ⟨ad, ea, hcell⟩ := (hR W ht).at_ 0 (by omega) (by simp)
    subst ea
    have hrd : Go.Proofs.YtpcfnkmljchiiaaDoorW.PrintWords.rd (k :: r) 0 = k := rfl
    rw [hrd] at hcell
    have hcell0 : W.cell? (ad.add 0) = some (.int .i64 k) := hcell
    have ead : ad.add 0 = ad := by unfold Addr.add; split <;> simp_all
    rw [ead] at hcell0
    obtain ⟨A', hcut, hred⟩ := print_cut (P := Tryd.prog) 32 3 .i64 Tryd.underlying32 (by exact (info_parts infoI).choose_spec.1) (by exact (info_parts infoI).choose_spec.2.2.1) (some ad) (k :: r).length c 1 (by simp)
    have HRd := Aside0.mk (fun V (hV : Turn B w V) => hred V .i64 (k :: r) hc (hR V hV))
    have e1 : (k :: r).length - 1 = r.length := by simp
    rw [e1] at hcut
    have hlen : (k :: r).length = r.length + 1 := rfl
    rw [hlen] at c0 hcut
    have hcut1 : ∀ V : World, (Instr.slice 32 (.slice (some ad) (r.length + 1) c) (some (.int .i64 1)) none none).run Tryd.prog V = .ok (.slice A' r.length (c - 1)) V := hcut
    clear hcut
    have hll : r.length + 1 ≤ c := hc
    have hll2 := (hR W ht).2.1
    simp only [List.length_cons] at hll2
    have HKB := Aside0.mk (fun V (A2 : Option Addr) (c2 : Nat) (hV : V.heap[kb]? = some (.cells #[.slice A2 r.length c2] tI (0, 0))) (h2 : r.length ≤ c2) (h3 : ∀ V, Turn B w V → ReadsInt V .i64 A2 r.length r) => (⟨⟨A2, c2, hV, h2, h3⟩, hnb⟩ : KeepAt B w kb V r))
    have HO := Aside0.mk ho
    have HT := Aside0.mk ht
    have HLc := Aside0.mk (show r.length ≤ c - 1 by omega)
    have HRd2 := Aside0.mk (fun V (hV : Turn B w V) => (by have := HRd.out V hV; rw [e1] at this; exact this : ReadsInt V .i64 A' r.length r))
    have b0 : (0 : Int) ≤ (n : Int) := by omega
    have b1 : (n : Int) ≤ 1100000000000 := by omega
    have w1 : IntKind.i64.wrap ((n : Int) + 1) = (n : Int) + 1 := IntWalk.i64_in _ ⟨by omega, by omega⟩
    have z0 : (((n : Int) + 1) == 0) = false := by simpa using (by omega : (n : Int) + 1 ≠ 0)
    have z1 : ¬ (n : Int) + 1 = 0 := by omega
    have u1 : (0 : Int) < ((r.length + 1 : Nat) : Int) := by omega
    by_cases hk : k < 0
    · have t1 : decide (k < 0) = true := decide_eq_true hk
      have hres : ofK (k :: r) n = 0 := by
        unfold ofK
        simp only
        rw [show max k 0 = 0 by omega]
        simp
      rw [hres]
      have hmod : Int.tmod 0 ((n : Int) + 1) = 0 := Int.zero_tmod _
      clear h ht hR ho hred HRd e1 hc hcell hrd hres hlen t1
      go_enter Tryd.func62, Tryd.ntmps62
      go_wp2
      go_ret
      have o2 := blk_put HO.out 0 (.slice A' r.length (c - 1)) rfl
      exact ⟨rfl, HKB.out _ A' (c - 1) o2 HLc.out HRd2.out, But.setCell W ⟨kb, 0, none⟩ _, HT.out.setNew hnb 0 _⟩
    · have t1 : decide (k < 0) = false := decide_eq_false hk
      have hk0 : 0 ≤ k := by omega
      have HRES := Aside0.mk (show ((ofK (k :: r) n : Nat) : Int) = k % ((n : Int) + 1) by
        unfold ofK
        simp only
        rw [show max k 0 = k by omega]
        have := Int.emod_nonneg k (show (n : Int) + 1 ≠ 0 by omega)
        omega)
      obtain ⟨rs, hrs⟩ : ∃ rs, rs = ofK (k :: r) n := ⟨_, rfl⟩
      rw [← hrs] at HRES ⊢
      clear h ht hR ho hred HRd e1 hc hcell hrd hlen hk hrs
      go_enter Tryd.func62, Tryd.ntmps62
      go_wp2
      go_ret
      have o2 := blk_put HO.out 0 (.slice A' r.length (c - 1)) rfl
      exact ⟨by rw [HRES.out]; rfl, HKB.out _ A' (c - 1) o2 HLc.out HRd2.out, But.setCell W ⟨kb, 0, none⟩ _, HT.out.setNew hnb 0 _⟩
end Go.Proofs.YtpcfnkmljchiiaaDoor.DCra
