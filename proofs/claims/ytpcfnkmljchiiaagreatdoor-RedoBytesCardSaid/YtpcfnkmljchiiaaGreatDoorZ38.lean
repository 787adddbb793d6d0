/- Steps towards RBoth: OAlv, DRow. -/
import Derived.Test.YtpcfnkmljchiiaaGreatDoorZ36
import Derived.Test.YtpcfnkmljchiiaaGreatDoorZ02
import Derived.WalkKit
import Derived.ProofKit
import Derived.OpenShut
import Derived.ShutString
import Derived.SliceStrings
import Derived.ChangeOld
import Derived.Below
import Derived.SizedLaws
set_option linter.unusedVariables false
set_option linter.unusedSimpArgs false
section
/- The example of chapter 06. -/
namespace Go.Proofs.YtpcfnkmljchiiaaGreatDoor.OAlp
open Go Go.RowKit DPl DOk DOk2 DCra DSyn DFil DAk DDo Go.Proofs.YtpcfnkmljchiiaaGreatDoor.OPl Go.Proofs.YtpcfnkmljchiiaaGreatDoor.OCom Go.Proofs.YtpcfnkmljchiiaaGreatDoor.OOpn Go.Proofs.YtpcfnkmljchiiaaGreatDoor.OStp Go.Proofs.YtpcfnkmljchiiaaGreatDoor.OChk Go.Proofs.YtpcfnkmljchiiaaGreatDoor.OEnc
def nB : ByteArray := ⟨#[98]⟩
def aOps : List Rop := [⟨2, nA, 0, [120]⟩, ⟨2, nB, 0, [121]⟩]
def kRd : List UInt8 := [114, 101, 100, 111]
def rec1 : List Int := [0, 0, 0, 25, 19, 128, 1, 191, 2, 2, 1, 97, 0, 0, 0, 0, 0, 0, 0, 1, 120, 2, 1, 98, 0, 0, 0, 0, 0, 0, 0, 1, 121]
def f1 : Dsk := ⟨[⟨[], [], []⟩], [(kRd, 0)], [(kRd, 0)], [], 1000, -1, false, 2⟩
def f2 : Dsk := ⟨[⟨[], [], []⟩], [(kRd, 0)], [(kRd, 0)], [], 1000, 2, false, 2⟩
def c1 : Dsk := ⟨[⟨rec1, rec1, []⟩], [(kRd, 0)], [(kRd, 0)], [], 1000, 0, true, 4⟩
def c2 : Dsk := ⟨[⟨rec1, rec1, []⟩], [(kRd, 0)], [(kRd, 0)], [], 1000, -1, false, 4⟩
def o1 : Dsk := ⟨[⟨[], [], []⟩, ⟨[120], [120], []⟩, ⟨[121], [121], []⟩], [([97], 1), ([98], 2), (kRd, 0)], [([97], 1), ([98], 2), (kRd, 0)], [], 1000, -1, false, 13⟩
theorem ae1 : formatL (newD 1000) = (none, f1) := by kernel_rfl
theorem ae3 : commitL false f2 aOps = (some 8, true, c1) := by kernel_rfl
theorem ae4 : crashD c1 [] = c2 := by kernel_rfl
theorem ae5 : openL c2 = (none, o1) := by kernel_rfl
theorem ae6 : fileE o1 nA = none := by kernel_rfl
theorem ae7 : readD o1 nA = [120] := by kernel_rfl
theorem ae8 : fileE o1 nB = none := by kernel_rfl
theorem ae9 : readD o1 nB = [121] := by kernel_rfl
theorem oe1 : f1.Ok := by
  have h := (kq_format (newD_ok 1000 (by decide) (by decide))).ok
  rw [ae1] at h
  exact h
theorem arm_ok {D : Dsk} (h : D.Ok) (n : Int) (h0 : -1 ≤ n) (h1 : n ≤ 9223372036854775807) : ({ D with armed := n } : Dsk).Ok :=
  ⟨h.nowF, h.sureF, h.opnF, h.nowE, h.fil, h.quota0, h.quota1, h0, h1, h.steps0, h.cntF, h.cntN⟩
theorem oe2 : f2.Ok := arm_ok oe1 2 (by decide) (by decide)
theorem kq_runs : ∀ (fs : List (Dsk → Option Int × Dsk)) (n : Nat) (D : Dsk), D.Ok → (∀ f ∈ fs, ∀ D : Dsk, D.Ok → Kq n D (f D).2) → Kq (n * fs.length) D (runs fs D).2
  | [], n, D, hk, _ => (Kq.refl hk).up (by omega)
  | f :: r, n, D, hk, h => by
    have h1 := kq_then (f := runs r) (h f List.mem_cons_self D hk) (fun hk1 => kq_runs r n _ hk1 (fun g hg => h g (List.mem_cons_of_mem _ hg)))
    exact h1.up (by rw [List.length_cons, Nat.mul_succ]; omega)
/-- A change keeps the disk sound. -/
theorem kq_steps {D : Dsk} (hk : D.Ok) (L : List Rop) (hL : L.length ≤ 16) : Kq 200 D (stepsL L D).2 := by
  refine (kq_runs _ 50 D hk (fun f hf D1 hk1 => ?_)).up (by simp)
  simp only [List.mem_cons, List.not_mem_nil, or_false] at hf
  rcases hf with rfl | rfl | rfl | rfl
  · exact (Kq.of (kp_append hk1 _ _)).up (by omega)
  · exact (Kq.of (kp_sync hk1 _)).up (by omega)
  · exact (kq_all L D1 hk1).up (by omega)
  · exact (kq_empty hk1).up (by omega)
theorem kq_commit {D : Dsk} (hk : D.Ok) (dead : Bool) (L : List Rop) : Kq 200 D (commitL dead D L).2.2 := by
  have h0 : Kq 200 D D := (Kq.refl hk).up (by omega)
  unfold commitL
  split
  · exact h0
  · split
    · exact h0
    · rename_i hc
      split
      · exact h0
      · split
        · exact h0
        · split
          · exact h0
          · split
            · exact h0
            · exact kq_steps hk L (check_ok (by simpa using hc)).1
theorem oe3 : c1.Ok := by
  have h := (kq_commit oe2 false aOps).ok
  rw [ae3] at h
  exact h
theorem oe4 : c2.Ok := by
  have h := crashD_ok oe3 []
  rw [ae4] at h
  exact h
theorem oe5 : o1.Ok := by
  have h := (kq_open oe4).ok
  rw [ae5] at h
  exact h
theorem ris2 : Rising f2.now := List.pairwise_singleton _ _
theorem isB1 : Lib04.isB (readD c2 kRedo) := by
  have e : readD c2 kRedo = rec1 := by kernel_rfl
  rw [e]
  unfold rec1 Lib04.isB
  decide
end Go.Proofs.YtpcfnkmljchiiaaGreatDoor.OAlp
namespace Go.Proofs.YtpcfnkmljchiiaaGreatDoor.OAlv
open DRt DNam Go Go.RowKit Go.Maps Go.WideMaps Go.Proofs.YtpcfnkmljchiiaaGreatDoorW.PrintWords Go.Proofs.YtpcfnkmljchiiaaGreatDoorW.PrintLast Go.Proofs.YtpcfnkmljchiiaaGreatDoorW.PrintMore DBase DPl DAt DNw DOk Go.Proofs.YtpcfnkmljchiiaaGreatDoor.Is DFil DUsd DOps DSyn DSd DCr DCra DCrc DDo DAk Go.Proofs.YtpcfnkmljchiiaaGreatDoor.OPl Go.Proofs.YtpcfnkmljchiiaaGreatDoor.OSz Go.Proofs.YtpcfnkmljchiiaaGreatDoor.OAll Go.Proofs.YtpcfnkmljchiiaaGreatDoor.OStp Go.Proofs.YtpcfnkmljchiiaaGreatDoor.OClo Go.Proofs.YtpcfnkmljchiiaaGreatDoor.OFmt Go.Proofs.YtpcfnkmljchiiaaGreatDoor.OChk Go.Proofs.YtpcfnkmljchiiaaGreatDoor.OEnc Go.Proofs.YtpcfnkmljchiiaaGreatDoor.OByt Go.Proofs.YtpcfnkmljchiiaaGreatDoor.ONeed Go.Proofs.YtpcfnkmljchiiaaGreatDoor.OList Go.Proofs.YtpcfnkmljchiiaaGreatDoor.OCom Go.Proofs.YtpcfnkmljchiiaaGreatDoor.OOpn Go.Proofs.YtpcfnkmljchiiaaGreatDoor.OAlp
/-- One byte as a text. -/
theorem one_str {B : Nat} {w : World} {v : Value} {x : Int} (h : Kd.R kb 5 w B (fun _ => True) v [x]) : ∃ g c, v = .slice (some ⟨g, 0, none⟩) 1 c ∧ (convert 32 9 (.slice (some ⟨g, 0, none⟩) 1 c)).run Tryz.prog w = .ok (.string (strOfNums [x])) w := by
  obtain ⟨inner, ho⟩ := Kd.R_own h
  obtain ⟨A, cp, e, hcp, hC⟩ := Kd.R_reads h
  obtain ⟨g, cp2, e2, _, _⟩ := World.ownsRow.form ho (by simp)
  rw [e] at e2
  simp only [Value.slice.injEq, Option.some.injEq] at e2
  obtain ⟨rfl, _, rfl⟩ := e2
  refine ⟨g, cp, e, ?_⟩
  have c0 := Kd.at_int hC 0 (by omega) (by simp)
  obtain ⟨ad, ea, h0⟩ := c0
  obtain rfl := Option.some.inj ea
  refine run_convert_bytes_arg (P := Tryz.prog) w 32 5 Tryz.underlying32 Tryz.underlying5 g 0 1 cp [x] rfl (fun i hi => ?_) 9 Tryz.underlying9
  match i, hi with
  | 0, _ => exact h0
/-- The two operations, where the example lays them. -/
def opsO (n : Nat) : Obj := .cells #[.int .i64 2, .string nA, .int .i64 0, .slice (some ⟨n, 0, none⟩) 1 1, .int .i64 2, .string nB, .int .i64 0, .slice (some ⟨n + 1, 0, none⟩) 1 1] 62 (0, 0)
theorem op_k {V : World} {o : Rop} {A3 : Option Addr} (hl : o.f3.length = 1) (hC : Kd.C kb V A3 1 o.f3) : GSix.k62.K V o [.int .i64 o.f0, .string o.f1, .int .i64 o.f2, .slice A3 1 1] := by
  have h9 := GSix.k62_mk V o (A3 := A3) (c3 := 1) (by omega) (by rw [hl]; exact hC)
  rw [hl] at h9
  exact h9
theorem two_ops (B : Bx) (w : World) :
    Below w.heap.size w (((w.alloc (.cells #[.int .u8 120] 5 (1, 2))).alloc (.cells #[.int .u8 121] 5 (1, 2))).alloc (opsO w.heap.size)) ∧
    OpsIn B (((w.alloc (.cells #[.int .u8 120] 5 (1, 2))).alloc (.cells #[.int .u8 121] 5 (1, 2))).alloc (opsO w.heap.size)) (some ⟨w.heap.size + 1 + 1, 0, none⟩) 2 aOps := by
  obtain ⟨hb, h1, h2⟩ := alloc2 w (.cells #[.int .u8 120] 5 (1, 2)) (.cells #[.int .u8 121] 5 (1, 2))
  obtain ⟨U, hU⟩ : ∃ U, U = (w.alloc (.cells #[.int .u8 120] 5 (1, 2))).alloc (.cells #[.int .u8 121] 5 (1, 2)) := ⟨_, rfl⟩
  have hs : U.heap.size = w.heap.size + 2 := by rw [hU]; simp
  rw [← hU] at hb h1 h2 ⊢
  have hb2 : Below U.heap.size U (U.alloc (opsO w.heap.size)) := (Below.refl _ _).alloc (Nat.le_refl _) _
  have g3 := heap_alloc_new U (opsO w.heap.size)
  rw [hs] at g3
  have g1 := (hb2.block _ (blk_lt h1)).trans h1
  have g2 := (hb2.block _ (blk_lt h2)).trans h2
  have hall : ∀ V, Turn B (U.alloc (opsO w.heap.size)) V → (V.heap[w.heap.size + 2]? = some (opsO w.heap.size)) ∧ Kd.C kb V (some ⟨w.heap.size, 0, none⟩) 1 [120] ∧ Kd.C kb V (some ⟨w.heap.size + 1, 0, none⟩) 1 [121] := fun V hV => by
    have v1 : V.heap[w.heap.size]? = some (.cells #[.int .u8 120] 5 (1, 2)) := hV.kind _ _ g1 rfl
    have v2 : V.heap[w.heap.size + 1]? = some (.cells #[.int .u8 121] 5 (1, 2)) := hV.kind _ _ g2 rfl
    have v3 := hV.kind _ _ g3 rfl
    refine ⟨v3, Kd.C_of_reads (d := (0 : Int)) (h1 := fun _ => rfl) ⟨rfl, by simp, fun _ => ⟨_, rfl, fun j hj => ?_⟩⟩, Kd.C_of_reads (d := (0 : Int)) (h1 := fun _ => rfl) ⟨rfl, by simp, fun _ => ⟨_, rfl, fun j hj => ?_⟩⟩⟩
    · match j, hj with
      | 0, _ => exact (cell_of_row V _ 0 _ _ _ v1).trans rfl
    · match j, hj with
      | 0, _ => exact (cell_of_row V _ 0 _ _ _ v2).trans rfl
  refine ⟨hb.trans (hb2.mono hb.size), ⟨fun j o hj => ?_, fun V hV => ?_, by decide, by decide, fun o ho => ?_, fun o ho => ?_⟩⟩
  · match j, hj with
    | 0, hj =>
      obtain rfl : (⟨2, nA, 0, [120]⟩ : Rop) = o := Option.some.inj hj
      refine ⟨_, some ⟨w.heap.size, 0, none⟩, 1, rfl, by decide, fun V hV => ?_⟩
      obtain ⟨v3, c1, c2⟩ := hall V hV
      refine ⟨⟨?_, ?_, ?_, ?_⟩, c1⟩
      · rw [add_plain]; exact (blk_cell v3 _).trans rfl
      · rw [add_plain]; exact (blk_cell v3 _).trans rfl
      · rw [add_plain]; exact (blk_cell v3 _).trans rfl
      · rw [add_plain]; exact (blk_cell v3 _).trans rfl
    | 1, hj =>
      obtain rfl : (⟨2, nB, 0, [121]⟩ : Rop) = o := Option.some.inj hj
      refine ⟨_, some ⟨w.heap.size + 1, 0, none⟩, 1, rfl, by decide, fun V hV => ?_⟩
      obtain ⟨v3, c1, c2⟩ := hall V hV
      refine ⟨⟨?_, ?_, ?_, ?_⟩, c2⟩
      · rw [add_plain]; exact (blk_cell v3 _).trans rfl
      · rw [add_plain]; exact (blk_cell v3 _).trans rfl
      · rw [add_plain]; exact (blk_cell v3 _).trans rfl
      · rw [add_plain]; exact (blk_cell v3 _).trans rfl
    | j + 2, hj => cases hj
  · obtain ⟨v3, c1, c2⟩ := hall V hV
    refine ⟨rfl, by decide, fun _ => ⟨_, rfl, fun j p hj => ?_⟩⟩
    match j, hj with
    | 0, hj =>
      obtain rfl : (⟨2, nA, 0, [120]⟩ : Rop) = p := Option.some.inj hj
      refine ⟨_, rfl, op_k (A3 := some ⟨w.heap.size, 0, none⟩) rfl c1, fun i u hi => ?_⟩
      rw [add_plain]
      match i, hi with
      | 0, hi => obtain rfl := Option.some.inj hi; exact (blk_cell v3 _).trans rfl
      | 1, hi => obtain rfl := Option.some.inj hi; exact (blk_cell v3 _).trans rfl
      | 2, hi => obtain rfl := Option.some.inj hi; exact (blk_cell v3 _).trans rfl
      | 3, hi => obtain rfl := Option.some.inj hi; exact (blk_cell v3 _).trans rfl
      | i + 4, hi => cases hi
    | 1, hj =>
      obtain rfl : (⟨2, nB, 0, [121]⟩ : Rop) = p := Option.some.inj hj
      refine ⟨_, rfl, op_k (A3 := some ⟨w.heap.size + 1, 0, none⟩) rfl c2, fun i u hi => ?_⟩
      rw [add_plain]
      match i, hi with
      | 0, hi => obtain rfl := Option.some.inj hi; exact (blk_cell v3 _).trans rfl
      | 1, hi => obtain rfl := Option.some.inj hi; exact (blk_cell v3 _).trans rfl
      | 2, hi => obtain rfl := Option.some.inj hi; exact (blk_cell v3 _).trans rfl
      | 3, hi => obtain rfl := Option.some.inj hi; exact (blk_cell v3 _).trans rfl
      | i + 4, hi => cases hi
    | j + 2, hj => cases hj
  · simp only [aOps, List.mem_cons, List.not_mem_nil, or_false] at ho
    rcases ho with rfl | rfl <;> exact ⟨by decide, by decide⟩
  · simp only [aOps, List.mem_cons, List.not_mem_nil, or_false] at ho
    rcases ho with rfl | rfl <;> (unfold Lib04.isB; decide)
set_option maxRecDepth 100000 in
set_option maxHeartbeats 4000000 in
theorem format_ok2 {B : Bx} {p : Nat} {D D1 : Dsk} {E : Int → Addr} {w : World} (h : DiskAt B w p D) (hE : ErrAt B w E) (hk : D.Ok) (hst : D.steps ≤ 100000000) (hF : formatL D = (none, D1)) :
    Calls Tryz.prog 27 #[.pointer (some ⟨p, 0, none⟩)] w fun e w' => ∃ l, w.heap.size ≤ l ∧ e = .returned (.tuple #[.pointer (some ⟨l, 0, none⟩), .nilIface]) ∧ LogAt w' l p false ∧ DiskAt B w' p D1 ∧ Turn B w w' := by
  obtain ⟨hb, h1, h2⟩ := alloc2 w (.cells #[.pointer (some ⟨p, 0, none⟩)] 25 (0, 0)) (.cells #[.func (Fn.func 81) #[] #[.pointer (some ⟨w.heap.size, 0, none⟩)], .func (Fn.func 35) #[.pointer (some ⟨p, 0, none⟩)] #[]] 81 (0, 0))
  have hc := format_steps w.heap.size (w.heap.size + 1) h1 h2 (h.below hb) (hE.turn (Turn.of_below hb)) hk hst
  rw [hF, errV_none] at hc
  have HC := Aside0.mk hc
  have HX := Aside0.mk h1
  have HB := Aside0.mk (Turn.of_below (B := B) hb)
  clear h hE hk hb h1 h2 hc
  go_enter Tryz.func27, Tryz.ntmps27
  go_wp2_with (go_at_call 80; refine HC.out.mono ?_; rintro e V ⟨rfl, hd, ht⟩; have HD := Aside0.mk hd; have HT := Aside0.mk (HB.out.trans ht); have x0 : V.cell? ⟨w.heap.size, 0, none⟩ = some (.pointer (some ⟨p, 0, none⟩)) := (blk_cell (ht.kind _ _ HX.out rfl) 0).trans rfl; clear hd ht)
  have hbV : Below V.heap.size V (V.alloc (.cells #[.pointer (some ⟨p, 0, none⟩), .bool false] 129)) := (Below.refl _ _).alloc (Nat.le_refl _) _
  go_ret2
  exact ⟨V.heap.size, HT.out.size, rfl, heap_alloc_new V _, HD.out.below hbV, HT.out.trans (Turn.of_below hbV)⟩
theorem arm2_calls {B : Bx} {p : Nat} {w : World} (h : DiskAt B w p f1) : Calls Tryz.prog 32 #[.pointer (some ⟨p, 0, none⟩), .int .i64 2] w fun e w' => e = .returned (.tuple #[]) ∧ DiskAt B w' p f2 ∧ Turn B w w' := by
  have h9 := arm_calls (h := h) (n := 2)
  exact h9
set_option maxRecDepth 100000 in
set_option maxHeartbeats 8000000 in
theorem alive_calls (B : Nat) (E : Int → Addr) (w : World) (hB : B ≤ w.heap.size) (hE : AllAt B w E) : Calls Tryz.prog 16 #[] w fun e w' => e = .returned (.bool true) ∧ Below B w w' := by
  have kc := fun (w : World) (C : Array Value) (n c : Nat) => Lib.run_convert_bytes_const (P := Tryz.prog) w 32 5 C n c Tryz.underlying32 Tryz.underlying5
  have kc2 : ∀ (w : World) (C0 C : Array Value) (fr : Nat × Nat) (n c : Nat), (convert 32 32 (.slice (some ⟨w.heap.size + 1, 0, none⟩) n c)).run Tryz.prog ((w.alloc (.cells C0 5 fr)).alloc (.cells C 5)) = .ok (.slice (some ⟨w.heap.size + 1, 0, none⟩) n c) ((w.alloc (.cells C0 5 fr)).alloc (.cells C 5 (C.size, C.size + 1))) := fun w C0 C fr n c => by
    have h9 := kc (w.alloc (.cells C0 5 fr)) C n c
    have h8 : (w.alloc (.cells C0 5 fr)).heap.size = w.heap.size + 1 := by simp
    rw [h8] at h9
    exact h9
  have HB := Aside0.mk hB
  have HE := Aside0.mk hE
  have HQ := Aside0.mk (show 0 < w.heap.size by have := World.block_lt_of_cell? w _ (hE.errs.var 8 (by simp [All])); omega)
  clear hE hB
  go_enter Tryz.func16, Tryz.ntmps16
  go_upto_region 8 with (first
    | (go_at_call 9; refine (newD_calls 1000 (by decide) (by decide) ⟨B, 0⟩ w HB.out HQ.out).mono ?_; rintro e w1 ⟨p, rfl, hd, ht⟩; have HD1 := Aside0.mk hd; have HT1 := Aside0.mk ht; clear hd ht)
    | (go_at_call 27; refine (format_ok2 (B := ⟨B, 0⟩) (p := p) (D1 := f1) HD1.out (HE.out.turn HT1.out).disk (newD_ok 1000 (by decide) (by decide)) (by decide) ae1).mono ?_; rintro e w2 ⟨l, hlo, rfl, hl, hd, ht⟩; have HLo := Aside0.mk (show B ≤ l from Nat.le_trans (Nat.le_trans HB.out HT1.out.size) hlo); have HL2 := Aside0.mk hl; have HD2 := Aside0.mk hd; have HT2 := Aside0.mk (HT1.out.trans ht); clear hd ht hl hlo)
    | (go_at_call 32; refine (arm2_calls HD2.out).mono ?_; rintro e w3 ⟨rfl, hd, ht⟩; have HL3 := Aside0.mk (HL2.out.turn ht); have HD3 := Aside0.mk hd; have HT3 := Aside0.mk (HT2.out.trans ht); clear hd ht))
  obtain ⟨hb5, hin5⟩ := two_ops ⟨B, 0⟩ w3
  have HB5 := Aside0.mk hb5
  have HIn := Aside0.mk hin5
  clear hb5 hin5
  have HCm := Aside0.mk (commit_calls (B := ⟨B, 0⟩) (p := p) (l := l) (dead := false) (D := f2) (E := E) (L := aOps) (HL3.out.below HB5.out) (HD3.out.below HB5.out) ((HE.out.turn HT3.out).turn (Turn.of_below HB5.out)) oe2 (by decide) ris2 (by decide) (by decide) HIn.out HLo.out)
  rw [ae3, errV_some] at HCm
  go_upto_region 9 with (first
    | (go_at_call 28; refine HCm.out.mono ?_; rintro e w6 ⟨rfl, hl, hd, ht⟩; have HL6 := Aside0.mk hl; have HD6 := Aside0.mk hd; have HT6 := Aside0.mk ht; clear hl hd ht)
    | (go_at_call 69; refine (dead_calls HL6.out).mono ?_; rintro e w7 ⟨rfl, rfl⟩))
  have HE6 := Aside0.mk (AllAt.turnL ((HE.out.turn HT3.out).turn (Turn.of_below HB5.out)) HT6.out)
  have HCr := Aside0.mk (crash_calls ⟨B, 0⟩ p c1 none 0 [] _ HD6.out oe3 (by decide) (by decide) (fun V hV => ⟨rfl, by decide, fun h => absurd h (by decide)⟩))
  rw [ae4] at HCr
  go_upto_region 11 with (go_at_call 14; refine HCr.out.mono ?_; rintro e w8 ⟨rfl, hd, ht⟩; have HD8 := Aside0.mk hd; have HT8 := Aside0.mk ht; clear hd ht)
  have hlo8 : B ≤ w8.heap.size := by have h1 := HT3.out.size; have h2 := HB5.out.size; have h3 := HT6.out.size; have h4 := HT8.out.size; have h5 := HB.out; omega
  have HO := Aside0.mk (open_calls (B := ⟨B, 0⟩) (p := p) (D := c2) (E := E) (w := w8) HD8.out (HE6.out.turn HT8.out) oe4 (by decide) isB1 hlo8)
  rw [ae5] at HO
  go_upto_region 14 with (go_at_call 33; refine HO.out.mono ?_; rintro e w9 ho; unfold OpenPost at ho; obtain ⟨hd, ht, m, hm, hl, rfl⟩ := ho; have HD9 := Aside0.mk hd; have HT9 := Aside0.mk ht; have HL9 := Aside0.mk hl; clear hd ht hl)
  have HE9 := Aside0.mk ((HE6.out.turn HT8.out).turn HT9.out).disk
  have HRa := Aside0.mk (lread_ok (B := ⟨B, 0⟩) HL9.out HD9.out HE9.out oe5 (by decide) nA (by decide) ae6 (by rw [ByteArray.toList_eq]; decide))
  rw [ae7] at HRa
  go_upto_region 15 with (go_at_call 70; refine HRa.out.mono ?_; rintro e wa ⟨v, rfl, hv, hb⟩; have HVa := Aside0.mk hv; have HBa := Aside0.mk hb; clear hv hb)
  have HRb := Aside0.mk (lread_ok (B := ⟨B, 0⟩) (HL9.out.below HBa.out) (HD9.out.below HBa.out) (HE9.out.turn (Turn.of_below HBa.out)) oe5 (by decide) nB (by decide) ae8 (by rw [ByteArray.toList_eq]; decide))
  rw [ae9] at HRb
  go_upto_region 16 with (go_at_call 70; refine HRb.out.mono ?_; rintro e wb ⟨u, rfl, hu, hb⟩; have HVb := Aside0.mk (Kd.R_below HVa.out hb); have HUb := Aside0.mk hu; have HBb := Aside0.mk hb; clear hu hb)
  obtain ⟨ga, ca, rfl, cva⟩ := one_str HVb.out
  obtain ⟨gb, cb, rfl, cvb⟩ := one_str HUb.out
  rw [show strOfNums [120] = (⟨#[120]⟩ : ByteArray) by rfl] at cva
  rw [show strOfNums [121] = (⟨#[121]⟩ : ByteArray) by rfl] at cvb
  go_wp2
  go_ret
  refine ⟨rfl, ?_⟩
  have hB := HB.out
  have t1 := HT3.out.toBelow hB
  have t2 := t1.trans (HB5.out.mono (by have := HT3.out.size; omega))
  have t3 := t2.trans (HT6.out.toBelow (by have := HT3.out.size; have := HB5.out.size; omega))
  have t4 := t3.trans (HT8.out.toBelow (by have := HT3.out.size; have := HB5.out.size; have := HT6.out.size; omega))
  have t5 := t4.trans (HT9.out.toBelow hlo8)
  have t6 := t5.trans (HBa.out.mono (by have := HT9.out.size; omega))
  exact t6.trans (HBb.out.mono (by have := HT9.out.size; have := HBa.out.size; omega))
end Go.Proofs.YtpcfnkmljchiiaaGreatDoor.OAlv
end
section
/- What an argument that reads as data holds: rows of structs, opened. -/
namespace Go.Proofs.YtpcfnkmljchiiaaGreatDoor.DRow
open Go Go.ChangeShapes Go.WideShapes Go.ChangeAt Go.RowKit Go.Proofs.YtpcfnkmljchiiaaGreatDoorW.PrintWords GPl
section
variable {H : Type} {enc : TypeId × Value → H} {P : Program} {w : World} {base : Nat} {sp : Nat → Bool} {held : Bool}
/-- Cells that read as data of a type are an element of a kind. -/
def Rd (enc : TypeId × Value → H) (P : Program) (w : World) (base : Nat) (sp : Nat → Bool) (held : Bool) {α : Type} (d : Kd α) (t : TypeId) (Q : α → Prop) : Prop :=
  ∀ (n : Nat) (cs : List Value) (x : DataW H × List MemPlace), DataW.trod enc P w base sp held n t cs = some x → (∀ b ∈ x.1.weights P t, b ≤ reachBytes) → ∃ a, d.K w a cs ∧ Q a
theorem rd_int {t : TypeId} {k : IntKind} (ht : P.underlying t = some (.int k)) : Rd enc P w base sp held (Kd.int k) t (fun z => (Lit.int k z).wf = true) := by
  intro n cs x h _
  obtain ⟨z, rfl, rfl, hw⟩ := DataW.trod_int ht h
  exact ⟨z, rfl, hw⟩
theorem rd_string {t : TypeId} (ht : P.underlying t = some .string) : Rd enc P w base sp held Kd.string t (fun s => s.size ≤ reachBytes) := by
  intro n cs x h hb
  obtain ⟨s, rfl, rfl, hw⟩ := DataW.trod_string ht h
  refine ⟨s, rfl, ?_⟩
  have := hb s.data.toList.length (by simp [DataW.weights])
  simpa using this
theorem all_mem {e : TypeId} {y : DataW H} {l : List (DataW H)} (hy : y ∈ l) : ∀ b ∈ y.weights P e, b ∈ DataW.weightsAll P e l := by
  induction l with
  | nil => cases hy
  | cons a r ih =>
    intro b hb
    rw [DataW.weightsAll]
    rcases List.mem_cons.1 hy with rfl | hy
    · exact List.mem_append_left _ hb
    · exact List.mem_append_right _ (ih hy b hb)
theorem rd_slice {α : Type} {d : Kd α} {Q : α → Prop} {t e : TypeId} (ht : P.underlying t = some (.slice e)) (hc : P.cellsOf e = d.sz) (he : Rd enc P w base sp held d e Q) :
    Rd enc P w base sp held (Kd.slice e d) t (fun xs => xs.length ≤ maxLen ∧ ∀ x ∈ xs, Q x) := by
  intro n cs x h hb
  rcases DataW.trod_slice ht h with ⟨rfl, rfl⟩ | ⟨a, len, cap, elems, rest, m, _, rfl, rfl, hbs, hl, hm, hlen, hel, _, _⟩
  · exact ⟨[], ⟨none, 0, rfl, Nat.le_refl _, rfl, by simp, fun h => absurd h (Nat.lt_irrefl 0)⟩, Nat.zero_le _, fun x hx => by cases hx⟩
  have each : ∀ i, i < len → ∃ (y : α) (cs' : List Value), w.cells? base (a.add (i * P.cellsOf e)) (P.cellsOf e) = some cs' ∧ d.K w y cs' ∧ Q y := by
    intro i hi
    have h1 := hel i hi
    rw [List.getElem?_eq_getElem (by omega : i < elems.length), Option.bind_eq_some_iff] at h1
    obtain ⟨cs', hcs, hy⟩ := h1
    obtain ⟨y, hk, hq⟩ := he _ _ _ hy (fun b hbm => hb b (by
      simp only [DataW.weights, ht]
      refine List.mem_cons_of_mem _ (List.mem_append_left _ (all_mem (y := (elems[i]'(by omega)).1) ?_ b hbm))
      exact List.mem_map.2 ⟨_, List.getElem_mem _, rfl⟩))
    exact ⟨y, cs', hcs, hk, hq⟩
  have build : ∀ m, m ≤ len → ∃ xs : List α, xs.length = m ∧ ∀ i, i < m → ∃ (y : α) (cs' : List Value), xs[i]? = some y ∧ w.cells? base (a.add (i * P.cellsOf e)) (P.cellsOf e) = some cs' ∧ d.K w y cs' ∧ Q y := by
    intro m
    induction m with
    | zero => exact fun _ => ⟨[], rfl, fun i hi => absurd hi (Nat.not_lt_zero i)⟩
    | succ m ih =>
      intro hm
      obtain ⟨xs, hx, hall⟩ := ih (by omega)
      obtain ⟨y, cs', h1, h2, h3⟩ := each m (by omega)
      refine ⟨xs ++ [y], by simp [hx], fun i hi => ?_⟩
      by_cases hi2 : i < m
      · obtain ⟨y2, cs2, e2, r⟩ := hall i hi2
        exact ⟨y2, cs2, by rw [List.getElem?_append_left (by omega)]; exact e2, r⟩
      · obtain rfl : i = m := by omega
        exact ⟨y, cs', by rw [List.getElem?_append_right (by omega), hx, Nat.sub_self]; rfl, h1, h2, h3⟩
  obtain ⟨xs, hx, hall⟩ := build len (Nat.le_refl _)
  refine ⟨xs, ⟨some a, cap, by rw [hx], by omega, rfl, by rw [hx]; unfold maxLen at hm; omega, fun _ => ⟨a, rfl, fun j p hj => ?_⟩⟩, by rw [hx]; unfold maxLen at hm ⊢; omega, fun y hy => ?_⟩
  · have hjl := (List.getElem?_eq_some_iff.1 hj).1
    obtain ⟨y, cs', e1, h1, h2, h3⟩ := hall j (by omega)
    rw [hj] at e1
    obtain rfl := Option.some.inj e1
    obtain ⟨_, k1, k2⟩ := World.cells?_some h1
    refine ⟨cs', by rw [k1, hc], h2, fun i u hu => ?_⟩
    have hi := (List.getElem?_eq_some_iff.1 hu).1
    have := k2 i (by omega)
    rw [add_add, hc] at this
    rw [this]
    exact hu
  · obtain ⟨j, hj⟩ := List.getElem?_of_mem hy
    have hjl := (List.getElem?_eq_some_iff.1 hj).1
    obtain ⟨y2, cs', e1, h1, h2, h3⟩ := hall j (by omega)
    rw [hj] at e1
    obtain rfl := Option.some.inj e1
    exact h3
end
section
variable {H : Type} {enc : TypeId × Value → H} {w : World} {base : Nat} {sp : Nat → Bool} {held : Bool}
/-- A row of bytes among the arguments. -/
theorem open_bytes {A : Option Addr} {len cap : Nat} {x : DataW H × List MemPlace} {ts : List TypeId} {ds : List (DataW H)} {j n : Nat} (hsz : (DataW.weightsEach Tryz.prog ts ds).all (· ≤ reachBytes) = true) (hj : ts[j]? = some 32) (hd : ds[j]? = some x.1)
    (h : DataW.trod enc Tryz.prog w base sp held n 32 [.slice A len cap] = some x) : ∃ l : List Int, len = l.length ∧ Kd.C (Kd.int .u8) w A l.length l ∧ l.length ≤ cap ∧ l.length ≤ maxLen ∧ ∀ z ∈ l, (Lit.int .u8 z).wf = true := by
  obtain ⟨l, ⟨A2, c2, e, hc, hC⟩, hm, hq⟩ := rd_slice (d := Kd.int .u8) Tryz.underlying32 (by kernel_rfl) (rd_int Tryz.underlying5) _ _ _ h (fun b hb => by
    have := List.all_eq_true.1 hsz _ (DataW.weights_mem_each hj hd b hb)
    simpa using this)
  simp only [List.cons.injEq, Value.slice.injEq, and_true] at e
  obtain ⟨rfl, rfl, rfl⟩ := e
  exact ⟨l, rfl, hC, hc, hm, hq⟩
end
end Go.Proofs.YtpcfnkmljchiiaaGreatDoor.DRow
end
