/- Steps towards RBoth: DOk2, DDo, DRdp, DRnw, DRak, DRlm, DRna, DRcp, DRin, DSu, DRms, DSs, DAc, DRpa, DAk, GSixx0, OPl, OSz, OMade. -/
import Derived.Test.YtpcfnkmljchiiaaGreatDoorZ19
import Derived.Test.YtpcfnkmljchiiaaGreatDoorZ05
import Derived.ChangeMaps
import Derived.WideShapes
import Derived.Test.YtpcfnkmljchiiaaGreatDoorZ15
import Derived.Test.YtpcfnkmljchiiaaGreatDoorZ12
import Derived.Laws.Cover1
import Derived.Deep.CutRange
import Derived.Test.YtpcfnkmljchiiaaGreatDoorZ04
import Derived.Test.YtpcfnkmljchiiaaGreatDoorZ02
import Derived.Test.YtpcfnkmljchiiaaGreatDoorZ18
import Derived.Test.YtpcfnkmljchiiaaGreatDoorProg
import Derived.Below
import Derived.Deep.Draws
import Derived.Deep.AppendLies
import Derived.Maps.AppendAt
import Derived.OwnWalk
import Derived.Laws.BytesArg
import Derived.Laws.MakeOwn
import Derived.Laws.OwnMore
import Derived.Deep.OwnRows
import Derived.Tactics
import Derived.Lib.ConvBytes
import Derived.Laws.Slices
import Derived.WalkKit
import Derived.KernelRfl
import Derived.RowKit3
import Derived.Deep.LoopGhost
import Derived.Deep.QuietTactic
import Derived.BigQuiet
import Derived.WideLaws
import Derived.Deep.DeepCutAuto
import Derived.Deep.CutBlock
import Derived.Deep.RegionHeld3
import Derived.Laws.Rows
import Derived.Lib.AppendStr
import Derived.ArgAppend
import Derived.Laws.IdiomCopy
import Derived.OrdersHeld
import Derived.Laws.BitsLemmas
import Derived.RowKit
import Derived.Test.YtpcfnkmljchiiaaGreatDoorZ00
import Derived.RangeFuncGives
import Derived.RangeFuncSeq
import Derived.OwnWalkIn
import Derived.TacticsInMore
import Derived.RegionIn
import Derived.LoopNIn
import Derived.LoopIn
import Derived.Shelf.Abstract
import Derived.StillTailTactics
import Derived.IntWalk
import Derived.WalkSpells
import Derived.Lib.SlBytesConst
import Derived.Laws.StructEq
set_option linter.unusedVariables false
set_option linter.unusedSimpArgs false
section
/- What the other acts leave is sound again. -/
namespace Go.Proofs.YtpcfnkmljchiiaaGreatDoor.DOk2
open Go Go.RowKit DPl DOk DCra DCrc
theorem offD_ok {D : Dsk} (h : D.Ok) : (offD D).Ok := ⟨h.nowF, h.sureF, h.opnF, h.nowE, h.fil, h.quota0, h.quota1, h.armed0, h.armed1, h.steps0, h.cntF, h.cntN⟩
theorem addE_ok {D : Dsk} (h : D.Ok) (e : Ent) (h0 : -1 ≤ e.file) (h1 : e.file < D.files.length) (hn : e.name.size ≤ 24) (hg : e.gone.size ≤ 24) : (addE (stepD D) e).Ok := by
  obtain ⟨ha0, ha1⟩ := armed_step h
  have hst := h.steps0
  refine ⟨fun p hp => ?_, h.sureF, fun x hx => ?_, ?_, fun f hf => fil_mono (h.fil f hf) (show D.steps ≤ D.steps + 1 by omega), h.quota0, h.quota1, ha0, ha1, ?_, ?_, ?_⟩
  · have hp : p ∈ e.go D.now := hp
    rcases mem_go hp with h2 | ⟨h2, h3⟩
    · exact h.nowF p h2
    · show 0 ≤ p.2 ∧ p.2 < (D.files.length : Int)
      omega
  · have hx : x ∈ D.opn ++ [e] := hx
    rcases List.mem_append.1 hx with h2 | h2
    · exact h.opnF x h2
    · obtain rfl := List.mem_singleton.1 h2
      exact ⟨h0, h1, hn, hg⟩
  · show e.go D.now = goAll D.sure (D.opn ++ [e])
    rw [goAll_snoc, ← h.nowE]
  · show 0 ≤ D.steps + 1; omega
  · have := h.cntF
    show (D.files.length : Int) ≤ D.steps + 1
    omega
  · show (D.sure.length : Int) + ((D.opn ++ [e]).length : Nat) ≤ D.steps + 1
    have := h.cntN
    rw [List.length_append]
    simp
    omega
theorem synced_ok {D : Dsk} (h : D.Ok) {i : Nat} {f : Fil} (hf : D.files[i]? = some f) : (setF (stepD D) i ⟨f.now, f.now, []⟩).Ok := by
  obtain ⟨ha0, ha1⟩ := armed_step h
  have hst := h.steps0
  have hfo := h.fil f (List.mem_of_getElem? hf)
  have hl : (setF (stepD D) i ⟨f.now, f.now, []⟩).files.length = D.files.length := by simp [setF, stepD]
  refine ⟨fun p hp => ?_, fun p hp => ?_, fun e he => ?_, h.nowE, fun g hg => ?_, h.quota0, h.quota1, ha0, ha1, ?_, ?_, ?_⟩
  · rw [hl]; exact h.nowF p hp
  · rw [hl]; exact h.sureF p hp
  · rw [hl]; exact h.opnF e he
  · show g.Ok (D.steps + 1)
    rcases List.mem_or_eq_of_mem_set hg with h3 | h3
    · exact fil_mono (h.fil g h3) (by omega)
    · subst h3
      exact ⟨rfl, trivial, hfo.nowL, by simp, hfo.nowL, by simp; omega⟩
  · show 0 ≤ D.steps + 1; omega
  · rw [hl]
    have := h.cntF
    show (D.files.length : Int) ≤ D.steps + 1
    omega
  · have := h.cntN
    show (D.sure.length : Int) + D.opn.length ≤ D.steps + 1
    omega
theorem len_crashFs : ∀ (fs : List Fil) (l : List Int), (crashFs fs l).length = fs.length
  | [], _ => rfl
  | f :: r, l => by
    unfold crashFs
    split
    · simp [len_crashFs r]
    · simp [len_crashFs r]
theorem len_sweepFs (fs : List Fil) (N : Nms) : (sweepFs fs N).length = fs.length := by simp [sweepFs]
theorem crashF_len {f : Fil} {n : Int} (h : f.Ok n) (l : List Int) : (crashF f l).1.length ≤ 1073741824 := by
  have ht := fun j => len_take f.opn f.sure h.sureL h.opnL j
  unfold crashF
  simp only
  split
  · rename_i c hc
    split
    · exact ht _
    · refine chg_len _ _ _ (ht _) ?_
      have := h.opnL c (List.mem_of_getElem? hc)
      show c.pos + (c.b.take _).length ≤ _
      rw [List.length_take]
      omega
  · exact ht _
/-- Behind a crash each file is sure. -/
theorem mem_crashFs {n : Int} : ∀ (fs : List Fil) (l : List Int), (∀ f ∈ fs, f.Ok n) → ∀ g ∈ crashFs fs l, g.opn = [] ∧ g.now = g.sure ∧ g.sure.length ≤ 1073741824
  | [], _, _, g, hg => by simp [crashFs] at hg
  | f :: r, l, h, g, hg => by
    have hf := h f List.mem_cons_self
    have hr := fun x hx => h x (List.mem_cons_of_mem _ hx)
    unfold crashFs at hg
    split at hg
    · rename_i ho
      rcases List.mem_cons.1 hg with rfl | hg
      · refine ⟨ho, ?_, hf.sureL⟩
        rw [hf.now, ho]
        rfl
      · exact mem_crashFs r l hr g hg
    · rcases List.mem_cons.1 hg with rfl | hg
      · exact ⟨rfl, rfl, crashF_len hf l⟩
      · exact mem_crashFs r _ hr g hg
theorem crashD_ok {D : Dsk} (h : D.Ok) (l : List Int) : (crashD D l).Ok := by
  have hl : (crashD D l).files.length = D.files.length := by
    show (sweepFs _ _).length = _
    rw [len_sweepFs, len_crashFs]
  have hN : ∀ p ∈ goAll D.sure (D.opn.take (ofK l D.opn.length)), 0 ≤ p.2 ∧ p.2 < (D.files.length : Int) := fun p hp => by
    rcases mem_goAll _ _ p hp with h1 | ⟨e, h1, h2, h3⟩
    · exact h.sureF p h1
    · have := h.opnF e (List.mem_of_mem_take h1)
      omega
  have hst := h.steps0
  refine ⟨fun p hp => ?_, fun p hp => ?_, fun e he => ?_, rfl, fun g hg => ?_, h.quota0, h.quota1, (show (-1 : Int) ≤ -1 by decide), (show (-1 : Int) ≤ 9223372036854775807 by decide), hst, ?_, ?_⟩
  · rw [hl]; exact hN p hp
  · rw [hl]; exact hN p hp
  · have he : e ∈ ([] : List Ent) := he
    simp at he
  · show g.Ok D.steps
    have hg : g ∈ sweepFs (crashFs D.files l.tail) _ := hg
    unfold sweepFs at hg
    obtain ⟨i, hi, rfl⟩ := List.mem_mapIdx.1 hg
    obtain ⟨h1, h2, h3⟩ := mem_crashFs D.files l.tail h.fil _ (List.getElem_mem hi)
    split
    · exact ⟨by rw [h1, h2]; rfl, by rw [h1]; trivial, h3, by rw [h1]; simp, by rw [h2]; exact h3, by rw [h1]; simp; omega⟩
    · exact ⟨by rw [h1]; rfl, by rw [h1]; trivial, by simp, by rw [h1]; simp, by simp, by rw [h1]; simp; omega⟩
  · rw [hl]; exact h.cntF
  · show ((goAll D.sure (D.opn.take (ofK l D.opn.length))).length : Int) + ((([] : List Ent)).length : Nat) ≤ D.steps
    have h1 := len_goAll (D.opn.take (ofK l D.opn.length)) D.sure
    have h2 := h.cntN
    rw [List.length_take] at h1
    simp
    omega
end Go.Proofs.YtpcfnkmljchiiaaGreatDoor.DOk2
end
section
/- Names behind a step, as the document makes them: the same row. -/
namespace Go.Proofs.YtpcfnkmljchiiaaGreatDoor.DDo
open Go DPl
/-- Rising names. -/
def Rising (N : Nms) : Prop := N.Pairwise fun p q => before p.1 q.1 = true
end Go.Proofs.YtpcfnkmljchiiaaGreatDoor.DDo
end
section
/- The document's names behind a step: what the walk knows, where its boxes lie. -/
namespace Go.Proofs.YtpcfnkmljchiiaaGreatDoor.DRdp
open Go Go.RowKit Go.Maps Go.Proofs.YtpcfnkmljchiiaaGreatDoorW.PrintWords Go.Proofs.YtpcfnkmljchiiaaGreatDoorW.PrintLast DPl DAt DRn DRd DRl DRt DDo
abbrev tE : Nat := 144
def namesL (N : Nms) : List ByteArray := N.map fun q => nmS q.1
def numsL (N : Nms) : List Int := N.map Prod.snd
theorem names_len (N : Nms) : (namesL N).length = N.length := by simp [namesL]
theorem nums_len (N : Nms) : (numsL N).length = N.length := by simp [numsL]
section
variable {w U U1 : World} {nv0 iv0 nm im vn vi v1 : Value} {e : Ent} {ns ns1 : List ByteArray} {is is1 : List Int}
end
/-- A row of one cell. -/
theorem one_str {U : World} {a : Nat} {x : ByteArray} (h : U.heap[a]? = some (.cells #[.string x] 9 (0, 0))) : Kd.C Kd.string U (some ⟨a, 0, none⟩) 1 [x] :=
  Kd.C_of_reads (d := ByteArray.empty) (h1 := fun _ => rfl) ⟨rfl, by simp, fun _ => ⟨_, rfl, fun j hj => by
    have : j = 0 := by simpa using hj
    subst this
    exact (blk_cell h 0).trans rfl⟩⟩
end Go.Proofs.YtpcfnkmljchiiaaGreatDoor.DRdp
end
section
/- The document's names now; what it asks of a name. -/
namespace Go.Proofs.YtpcfnkmljchiiaaGreatDoor.DRnw
open Go Go.RowKit Go.Maps Go.Proofs.YtpcfnkmljchiiaaGreatDoorW.PrintWords Go.Proofs.YtpcfnkmljchiiaaGreatDoorW.PrintLast DPl DAt DRn DRd DRl DRt DDo DRdp   DFil GRef Right
/-- Where names lie: two rows from B on. -/
structure NmsAt (B : Nat) (U : World) (nv iv : Value) (N : Nms) : Prop where
  rn : Kd.R Kd.string 9 U B (fun _ => True) nv (namesL N)
  ri : Kd.R (Kd.int .i64) 3 U B (fun _ => True) iv (numsL N)
theorem NmsAt.keep {B : Nat} {U V : World} {nv iv : Value} {N : Nms} (h : NmsAt B U nv iv N) (hb : Below U.heap.size U V) : NmsAt B V nv iv N := ⟨Kd.R_below h.rn hb, Kd.R_below h.ri hb⟩
theorem NmsAt.reads {B : Nat} {U : World} {nv iv : Value} {N : Nms} (h : NmsAt B U nv iv N) : ∃ A1 c1 A2 c2, nv = .slice A1 N.length c1 ∧ iv = .slice A2 N.length c2 ∧ N.length ≤ c1 ∧ N.length ≤ c2 ∧ Kd.C Kd.string U A1 (namesL N).length (namesL N) ∧ Kd.C (Kd.int .i64) U A2 (numsL N).length (numsL N) := by
  obtain ⟨A1, c1, e1, l1, k1⟩ := Kd.R_reads h.rn
  obtain ⟨A2, c2, e2, l2, k2⟩ := Kd.R_reads h.ri
  rw [names_len] at e1 l1
  rw [nums_len] at e2 l2
  exact ⟨A1, c1, A2, c2, e1, e2, l1, l2, k1, k2⟩
section
variable {B : Nat} {w U V : World} {nv iv n2 i2 : Value} {N N2 : Nms}
end
theorem goAll_len {D : Dsk} (hk : D.Ok) (hs : D.steps ≤ 1000000000) (j : Nat) : (goAll D.sure (D.opn.take j)).length ≤ 1000000000 := by
  have h1 := len_goAll (D.opn.take j) D.sure
  have h2 := hk.cntN
  have h3 : (D.opn.take j).length ≤ D.opn.length := by rw [List.length_take]; omega
  omega
end Go.Proofs.YtpcfnkmljchiiaaGreatDoor.DRnw
end
section
/- What the document's disk answers on a name; how many bytes named files have. -/
namespace Go.Proofs.YtpcfnkmljchiiaaGreatDoor.DRak
open Go Go.RowKit Go.Maps Go.Proofs.YtpcfnkmljchiiaaGreatDoorW.PrintWords Go.Proofs.YtpcfnkmljchiiaaGreatDoorW.PrintLast DPl DAt DRn DRd DRl DRt DDo DRdp   DRnw DFil GRef Right DUsd
theorem now_len {D : Dsk} (hk : D.Ok) (hs : D.steps ≤ 1000000000) : D.now.length ≤ 1000000000 := by
  have h1 := goAll_len hk hs D.opn.length
  rw [List.take_length, ← hk.nowE] at h1
  exact h1
end Go.Proofs.YtpcfnkmljchiiaaGreatDoor.DRak
end
section
/- The document's disk: what becomes of it where single blocks turn. -/
namespace Go.Proofs.YtpcfnkmljchiiaaGreatDoor.DRlm
open Go Go.RowKit Go.Maps Go.Proofs.YtpcfnkmljchiiaaGreatDoorW.PrintWords Go.Proofs.YtpcfnkmljchiiaaGreatDoorW.PrintLast DPl DAt DRn DRd DRl DRt DRdp DRnw DRak
abbrev tRD : Nat := 47
abbrev tRF : Nat := 51
abbrev tRS : Nat := 147
theorem kStpE : kStp.E = [] := rfl
theorem kEntE : kEnt.E = [] := rfl
theorem kPtrE : kPtr.E = [] := rfl
variable {B p : Nat} {D : Dsk} {L : List (Nat × Value)} {fv nv iv ov : Value} {w w' w1 w2 : World}
theorem _root_.Go.Proofs.YtpcfnkmljchiiaaGreatDoor.DRd.RTurn.own {e : TypeId} {size n : Nat} {v : Value} {xs : List Value} {a : World} (h : RTurn B a w) (ho : w.ownsRow B e size v n xs) (ht : rkT e = true) (hg : w.grownBy w' v.ownBlock) : RTurn B a w' := by
  refine h.trans ⟨hg.os, hg.tape, hg.output, hg.size, fun k h1 h2 => hg.block k h2 (fun e => ?_), fun k o hko hd => (hg.block k (blk_lt hko) (fun e => ?_)).trans hko⟩
  · have := own_base ho k e.symm
    omega
  · obtain ⟨cs, hc⟩ := own_typed ho k e.symm
    rw [hko] at hc
    obtain rfl := Option.some.inj hc
    exact absurd hd (by simp [rk, ht])
theorem _root_.Go.Proofs.YtpcfnkmljchiiaaGreatDoor.DRd.RTurn.below {a : World} (h : RTurn B a w) (hb : Below w.heap.size w w') : RTurn B a w' := h.trans (RTurn.of_below hb)
/-- A block that is none of the disk's kinds but lies in new memory. -/
theorem _root_.Go.Proofs.YtpcfnkmljchiiaaGreatDoor.DRd.RTurn.setNew {a : World} (h : RTurn B a w) {g : Nat} (hg : a.heap.size ≤ g) (i : Nat) (u : Value) : RTurn B a (w.setCell ⟨g, i, none⟩ u) := by
  have hk : ∀ k, k ≠ g → (w.setCell ⟨g, i, none⟩ u).heap[k]? = w.heap[k]? := fun k hk => Below.heap_setCell w ⟨g, i, none⟩ u k hk
  refine ⟨h.os, h.tape, h.output, by simpa [World.setCell] using h.size, fun k h1 h2 => (hk k (by omega)).trans (h.low k h1 h2), fun k o ho hd => ?_⟩
  have hl := blk_lt ho
  exact (hk k (by omega)).trans (h.kind k o ho hd)
theorem RFilesAt.row {fs : List Fil} (h : RFilesAt B w L fs) {row : Option Nat} (hk : But w w' row) (hn : Not w row [tRF, tRS]) : RFilesAt B w' L fs := by
  refine ⟨h.len, fun i x f hx hf => ?_, h.lo, h.far⟩
  have h1 := h.each i x f hx hf
  refine ⟨hk.obj h1.obj (fun e => ?_), R_row h1.opn hk (fun g hg => ?_)⟩
  · obtain ⟨o, h2, h3⟩ := hn x.1 e.symm
    rw [h1.obj] at h2
    exact h3 tRF (by simp) _ (Option.some.inj h2).symm
  · obtain ⟨o, h2, h3⟩ := hn g hg
    exact ⟨o, h2, fun q hq => h3 q (by rw [kStpE] at hq; simp at hq ⊢; right; exact hq)⟩
theorem notp (h : RLies B w p D L fv nv iv ov) (qs : List Nat) (hq : tRD ∉ qs) : Not w (some p) qs :=
  Not.cells (t := tRD) (fun g hg => by obtain rfl := Option.some.inj hg; exact ⟨_, _, h.obj⟩) (fun q hq2 e => hq (e ▸ hq2))
/-- The struct's own numbers have turned. -/
theorem reobj (h : RLies B w p D L fv nv iv ov) (q ar : Int) (off : Bool) (st : Int) (ho : w'.heap[p]? = some (rdO fv nv iv ov q ar off st)) (hk : But w w' (some p)) :
    RLies B w' p { D with quota := q, armed := ar, off := off, steps := st } L fv nv iv ov :=
  ⟨ho, h.lop, R_row h.names hk (notp h _ (by decide)), R_row h.nums hk (notp h _ (by decide)), R_row h.ptrs hk (notp h _ (by decide)), R_row h.opn hk (notp h _ (by decide)), RFilesAt.row h.files hk (notp h _ (by decide))⟩
theorem same (h : RLies B w p D L fv nv iv ov) (hb : Below w.heap.size w w') : RLies B w' p D L fv nv iv ov := by
  have hk : But w w' none := But.of_below hb
  have hn : ∀ qs, Not w none qs := fun qs g hg => by cases hg
  exact ⟨hk.obj h.obj (by simp), h.lop, R_row h.names hk (hn _), R_row h.nums hk (hn _), R_row h.ptrs hk (hn _), R_row h.opn hk (hn _), RFilesAt.row h.files hk (hn _)⟩
/-- The row of names' steps has been appended to, and laid into the struct. -/
theorem reopn (h : RLies B w p D L fv nv iv ov) {v1 : Value} {es : List Ent} (hE : REntsAt B w1 v1 es) (hg : w.grownBy w1 ov.ownBlock) : RLies B (w1.setCell ⟨p, 3, none⟩ v1) p { D with opn := es } L fv nv iv v1 ∧ RTurn B w (w1.setCell ⟨p, 3, none⟩ v1) := by
  have hk := But.grown hg
  obtain ⟨inner, ho⟩ := own_of h.opn
  have nt : ∀ qs : List Nat, tE ∉ qs → Not w ov.ownBlock qs := fun qs hq => Not.own ho (fun q hq2 e => by subst e; exact hq hq2)
  have op1 : some p ≠ ov.ownBlock := fun e => by
    obtain ⟨cs, hc⟩ := own_typed ho p e.symm
    rw [h.obj] at hc
    cases hc
  have obj1 := hk.obj h.obj op1
  have hs := But.setCell w1 ⟨p, 3, none⟩ v1
  have np : ∀ qs : List Nat, tRD ∉ qs → Not w1 (some p) qs := fun qs hq => Not.cells (t := tRD) (fun g hg => by obtain rfl := Option.some.inj hg; exact ⟨_, _, obj1⟩) (fun q hq2 e => hq (e ▸ hq2))
  refine ⟨⟨blk_set obj1 3 v1, h.lop, R_row (R_row h.names hk (nt _ (by decide))) hs (np _ (by decide)), R_row (R_row h.nums hk (nt _ (by decide))) hs (np _ (by decide)), R_row (R_row h.ptrs hk (nt _ (by decide))) hs (np _ (by decide)), R_row hE hs (np _ (by decide)), RFilesAt.row (RFilesAt.row h.files hk (nt _ (by decide))) hs (np _ (by decide))⟩, ?_⟩
  exact ((RTurn.refl B w).own ho rfl hg).setCell obj1 rfl h.lop 3 v1
/-- The names are sure. -/
theorem resure (h : RLies B w p D L fv nv iv ov) {n2 i2 : Value} {N : Nms} (hN : NmsAt B w n2 i2 N) : RLies B (((w.setCell ⟨p, 1, none⟩ n2).setCell ⟨p, 2, none⟩ i2).setCell ⟨p, 3, none⟩ (.slice none 0 0)) p { D with sure := N, opn := [] } L fv n2 i2 (.slice none 0 0) ∧ RTurn B w (((w.setCell ⟨p, 1, none⟩ n2).setCell ⟨p, 2, none⟩ i2).setCell ⟨p, 3, none⟩ (.slice none 0 0)) := by
  have o1 := blk_put h.obj 1 n2 rfl
  have o2 := blk_put o1 2 i2 rfl
  have o3 := blk_put o2 3 (Value.slice none 0 0) rfl
  have hk := ((But.setCell w ⟨p, 1, none⟩ n2).trans (But.setCell (w.setCell ⟨p, 1, none⟩ n2) ⟨p, 2, none⟩ i2)).trans (But.setCell ((w.setCell ⟨p, 1, none⟩ n2).setCell ⟨p, 2, none⟩ i2) ⟨p, 3, none⟩ (.slice none 0 0))
  exact ⟨⟨o3, h.lop, R_row hN.rn hk (notp h _ (by decide)), R_row hN.ri hk (notp h _ (by decide)), R_row h.ptrs hk (notp h _ (by decide)), Kd.R_nil _ _ _ _ _, RFilesAt.row h.files hk (notp h _ (by decide))⟩, (((RTurn.refl B w).setCell h.obj rfl h.lop 1 n2).setCell o1 rfl h.lop 2 i2).setCell o2 rfl h.lop 3 _⟩
end Go.Proofs.YtpcfnkmljchiiaaGreatDoor.DRlm
end
section
/- A step of the document's names. -/
namespace Go.Proofs.YtpcfnkmljchiiaaGreatDoor.DRna
open Go Go.RowKit Go.Maps Go.Proofs.YtpcfnkmljchiiaaGreatDoorW.PrintWords Go.Proofs.YtpcfnkmljchiiaaGreatDoorW.PrintLast DPl DAt DRn DRd DRl DRt DRdp DRnw DRak DRlm
variable {B p : Nat} {D : Dsk} {L : List (Nat × Value)} {fv nv iv ov : Value} {w w' w1 w2 : World}
theorem renow (h : RLies B w p D L fv nv iv ov) (N : Nms) : RLies B w p { D with now := N } L fv nv iv ov := ⟨h.obj, h.lop, h.names, h.nums, h.ptrs, h.opn, h.files⟩
theorem infoE : (Tryz.prog.info? 144).map (fun i => (i.zero, i.size, i.bytes)) = some (some (.agg #[.string ⟨#[]⟩, .string ⟨#[]⟩, .int .i64 0]), 3, 40) := by kernel_rfl
end Go.Proofs.YtpcfnkmljchiiaaGreatDoor.DRna
end
section
/- The document's loss of power: plainly; what its walk carries. -/
namespace Go.Proofs.YtpcfnkmljchiiaaGreatDoor.DRcp
open Go Go.RowKit Go.Maps Go.Proofs.YtpcfnkmljchiiaaGreatDoorW.PrintWords Go.Proofs.YtpcfnkmljchiiaaGreatDoorW.PrintLast DPl DAt DRn DRd DRl DRt DRdp DRnw DRak DRlm  DCra DCrc
theorem _root_.Go.Proofs.YtpcfnkmljchiiaaGreatDoor.DRd.RTurn.but {B kb : Nat} {a U V : World} (h : RTurn B a U) (hk : But U V (some kb)) (hkb : a.heap.size ≤ kb) (hq : V.os = U.os ∧ V.tape = U.tape ∧ V.output = U.output) : RTurn B a V :=
  ⟨hq.1.trans h.os, hq.2.1.trans h.tape, hq.2.2.trans h.output, Nat.le_trans h.size hk.1, fun k h1 h2 => (hk.2 k (Nat.lt_of_lt_of_le h2 h.size) (fun e => by have := Option.some.inj e; omega)).trans (h.low k h1 h2), fun k o ho hd => (hk.2 k (Nat.lt_of_lt_of_le (blk_lt ho) h.size) (fun e => by have h8 := blk_lt ho; have h9 : k = kb := Option.some.inj e; omega)).trans (h.kind k o ho hd)⟩
section
variable {B p : Nat} {D : Dsk} {w U V : World} {L : List (Nat × Value)} {fv nv iv ov : Value} {l kp : List Int}
end
end Go.Proofs.YtpcfnkmljchiiaaGreatDoor.DRcp
end
section
/- A copy of whole numbers with marked room behind; whether list and room stand. -/
namespace Go.Proofs.YtpcfnkmljchiiaaGreatDoor.DRin
open Go Go.RowKit Go.Proofs.YtpcfnkmljchiiaaGreatDoorW.PrintWords Go.Proofs.YtpcfnkmljchiiaaGreatDoorW.PrintLast Go.Proofs.YtpcfnkmljchiiaaGreatDoorW.PrintMore GPl
/-- A list is the same as itself. -/
theorem same_l (l : List Int) (hl : l.length ≤ 1000000000) : ∀ (m j : Nat), j + m = l.length → postbagnum_SameInts.l0 (m + 1) l l (l.length : Int) (j : Int) = some true
  | 0, j, h => by
    rw [postbagnum_SameInts.l0, if_neg (by omega)]
  | m + 1, j, h => by
    rw [postbagnum_SameInts.l0]
    have e : wrap64 ((j : Int) + 1) = ((j + 1 : Nat) : Int) := by unfold wrap64; omega
    have := same_l l hl m (j + 1) (by omega)
    simp only [if_pos (show (j : Int) < (l.length : Int) by omega), if_pos (show (0 : Int) ≤ (j : Int) by omega), e, if_true]
    exact this
theorem same_f (l : List Int) (hl : l.length ≤ 1000000000) : postbagnum_SameInts.f (l.length + 1) l l = some true := by
  unfold postbagnum_SameInts.f
  rw [if_pos rfl]
  exact same_l l hl l.length 0 (by omega)
def four4 : List Int := [-91, -92, -93, -94]
end Go.Proofs.YtpcfnkmljchiiaaGreatDoor.DRin
end
section
/- What is sure stays: plainly. -/
namespace Go.Proofs.YtpcfnkmljchiiaaGreatDoor.DSu
open Go Go.RowKit DPl DOk DCra DCrc DSyn DFil
def key (k : List UInt8) (N : Nms) : Option (List UInt8 × Int) := N.find? fun p => p.1 == k
end Go.Proofs.YtpcfnkmljchiiaaGreatDoor.DSu
end
section
/- DiskRooms walked. -/
namespace Go.Proofs.YtpcfnkmljchiiaaGreatDoor.DRms
open Go Go.RowKit Go.Maps Go.Proofs.YtpcfnkmljchiiaaGreatDoorW.PrintWords Go.Proofs.YtpcfnkmljchiiaaGreatDoorW.PrintLast DBase DPl DAt Go.Proofs.YtpcfnkmljchiiaaGreatDoor.Is DNw DOk DFil DUsd DCh2 DOps DSyn DSd DCr DCra DCrc DAlv Right
def nB : ByteArray := ⟨#[98]⟩
theorem app_go (l b : List Int) : (Chg.go ⟨l.length, b, false⟩ l) = l ++ b := by
  unfold Chg.go
  simp
/-- The names, and what of the sizes a name stands for. -/
def nm (x : Bool) : ByteArray := if x then nB else nA
end Go.Proofs.YtpcfnkmljchiiaaGreatDoor.DRms
end
section
/- DiskSure's start: the four disks. -/
namespace Go.Proofs.YtpcfnkmljchiiaaGreatDoor.DSs
open Go Go.RowKit DPl DOk DOk2 DSu DCra DCrc DSyn DSd DCr DCh2 DOps DFil Right DRms
def nS : ByteArray := ⟨#[115, 117, 114, 101]⟩
def s1 : Dsk := madeD (newD 10000) nS
def s2 (b : List Int) : Dsk := setF (stepD s1) 0 ⟨b, [], [⟨0, b, false⟩]⟩
def s3 (b : List Int) : Dsk := setF (stepD (s2 b)) 0 ⟨b, b, []⟩
def s4 (b : List Int) : Dsk := { stepD (s3 b) with sure := (s3 b).now, opn := [] }
theorem go_new (b : List Int) : Chg.go ⟨([] : List Int).length, b, false⟩ [] = b := by rw [app_go]; rfl
theorem ok1 : s1.Ok := madeD_ok (newD_ok 10000 (by decide) (by decide)) nS (by decide)
theorem ok2 (b : List Int) (hb : b.length ≤ 500) : (s2 b).Ok := by
  have h := grown_ok ok1 (i := 0) (f := ⟨[], [], []⟩) rfl ⟨([] : List Int).length, b, false⟩ (Nat.le_refl _) (by show 0 + b.length ≤ _; omega) (by rw [go_new]; omega)
  rw [go_new] at h
  exact h
theorem ok3 (b : List Int) (hb : b.length ≤ 500) : (s3 b).Ok := synced_ok (ok2 b hb) (i := 0) (f := ⟨b, [], [⟨0, b, false⟩]⟩) rfl
theorem ok4 (b : List Int) (hb : b.length ≤ 500) : (s4 b).Ok := syncd_ok (ok3 b hb)
end Go.Proofs.YtpcfnkmljchiiaaGreatDoor.DSs
end
section
/- Each act keeps the disk sound, and file 0 alone. -/
namespace Go.Proofs.YtpcfnkmljchiiaaGreatDoor.DAc
open Go Go.RowKit DPl DOk DOk2 DSu DCra DCrc DSyn DSd DCr DCh2 DOps DFil Right 
variable {D : Dsk} {k : List UInt8} {b : List Int}
theorem askD_right {s : ByteArray} (h : askD D s = none) : s.size ≤ 24 := (askD_none h).1
theorem le_sum : ∀ (l : List Nat) (x : Nat), x ∈ l → x ≤ l.sum
  | y :: r, x, h => by
    rw [List.sum_cons]
    rcases List.mem_cons.1 h with h1 | h1
    · omega
    · have := le_sum r x h1
      omega
theorem used_ge {s : List UInt8} {i : Nat} {f : Fil} (hh : hasN D.now s = true) (hi : atN D.now s = i) (hf : D.files[i]? = some f) : f.now.length ≤ usedD D := by
  unfold hasN at hh
  unfold atN at hi
  obtain ⟨q, hq1, hq2⟩ := List.any_eq_true.1 hh
  cases hx : D.now.find? (fun p => p.1 == s) with
  | none => exact absurd hq2 (by simpa using List.find?_eq_none.1 hx q hq1)
  | some p =>
    rw [hx] at hi
    have hi : p.2 = i := hi
    have hm := List.mem_of_find?_eq_some hx
    unfold usedD usedL
    refine le_sum _ _ (List.mem_map.2 ⟨p, hm, ?_⟩)
    rw [hi, Int.toNat_natCast, hf]
/-- A change that finds room stays small. -/
theorem small_go {f : Fil} (hk : D.Ok) (hf : f ∈ D.files) (hu : f.now.length ≤ usedD D) (c : Chg) (hn : ¬noRoom D f c) : (c.go f.now).length ≤ 1073741824 := by
  have h1 := (hk.fil f hf).nowL
  have h2 := hk.quota1
  unfold noRoom at hn
  omega
theorem go_ge (c : Chg) (l : List Int) (hc : c.pos ≤ l.length) (hcut : c.cut = false) : c.pos + c.b.length ≤ (c.go l).length := by
  unfold Chg.go
  rw [if_neg (by simp [hcut])]
  simp
  omega
end Go.Proofs.YtpcfnkmljchiiaaGreatDoor.DAc
end
section
/- One call on a disk and its document's disk, told plainly; what stays where blocks turn. -/
namespace Go.Proofs.YtpcfnkmljchiiaaGreatDoor.DRpa
open Go Go.RowKit Go.Maps Go.Proofs.YtpcfnkmljchiiaaGreatDoorW.PrintWords Go.Proofs.YtpcfnkmljchiiaaGreatDoorW.PrintLast DPl DAt Go.Proofs.YtpcfnkmljchiiaaGreatDoor.Is DNw DRn DRd DRl DRt DDo  DRak DRlm DFil DCh2 DOps DSyn DSd DCr DCra  GPl
/-! ### which errors -/
/-! ### one call -/
/-! ### what a call of played keeps -/
theorem _root_.Go.Proofs.YtpcfnkmljchiiaaGreatDoor.DNw.AllAt.low {B C : Nat} {w w' : World} {E : Int → Addr} (h : AllAt B w E) (hb : Below C w w') (hC : B ≤ C) : AllAt B w' E := by
  refine ⟨⟨fun c hc => ?_, fun c hc => ?_, h.errs.ne⟩, h.lo⟩
  · have hv := h.errs.var c hc
    rw [World.cell?_of_block (w := w) (hb.block _ (Nat.lt_of_lt_of_le (h.lo c hc).1 hC))]
    exact hv
  · obtain ⟨cs, t, hr⟩ := h.errs.row c hc
    exact ⟨cs, t, by rw [hb.block _ (Nat.lt_of_lt_of_le (h.lo c hc).2 hC)]; exact hr⟩
section
variable {B ob q c : Nat} {w0 W V : World} {E : Int → Addr} {cs : Array Value} {l : List Int}
end
end Go.Proofs.YtpcfnkmljchiiaaGreatDoor.DRpa
end
section
/- Each act keeps the disk sound, and its power on where nobody armed it. -/
namespace Go.Proofs.YtpcfnkmljchiiaaGreatDoor.DAk
open Go Go.RowKit DPl DOk DOk2 DCra DCrc DSyn DSd DCr DCh2 DOps DFil Right  DAc DRpa GPl
def Live (D : Dsk) : Prop := D.armed = -1 ∧ D.off = false
/-- Sound, live, one step more at most. -/
structure Kp (D D' : Dsk) : Prop where
  ok : D'.Ok
  live : Live D → Live D'
  steps : D'.steps ≤ D.steps + 1
variable {D : Dsk}
theorem live_step (h : Live D) : Live (stepD D) := by
  refine ⟨?_, h.2⟩
  show (if 0 < D.armed then D.armed - 1 else D.armed) = -1
  rw [h.1]
  rfl
theorem kp_same (hk : D.Ok) : Kp D D := ⟨hk, id, by omega⟩
theorem kp_off (hk : D.Ok) (h0 : D.armed = 0) : Kp D (offD D) := ⟨offD_ok hk, fun h => absurd h.1 (by omega), by show D.steps ≤ _; omega⟩
theorem kp_named (hk : D.Ok) (e : Ent) (h0 : -1 ≤ e.file) (h1 : e.file < D.files.length) (hn : e.name.size ≤ 24) (hg : e.gone.size ≤ 24) : Kp D (namedD D e).2 := by
  unfold namedD
  split
  · rename_i h
    exact kp_off hk h
  · exact ⟨addE_ok hk e h0 h1 hn hg, fun h => live_step h, by show D.steps + 1 ≤ _; omega⟩
theorem kp_create (hk : D.Ok) (s : ByteArray) : Kp D (createD D s).2 := by
  unfold createD
  cases hq : askD D s with
  | some c => exact kp_same hk
  | none =>
    simp only []
    split
    · exact kp_same hk
    · split
      · exact kp_same hk
      · by_cases h0 : D.armed = 0
        · rw [show namedD D ⟨s, (⟨#[]⟩ : ByteArray), D.files.length⟩ = (some 8, offD D) by unfold namedD; rw [if_pos h0]]
          exact kp_off hk h0
        · rw [show namedD D ⟨s, (⟨#[]⟩ : ByteArray), D.files.length⟩ = (none, addE (stepD D) ⟨s, (⟨#[]⟩ : ByteArray), D.files.length⟩) by unfold namedD; rw [if_neg h0]]
          exact ⟨madeD_ok hk s (askD_right hq), fun h => live_step h, by show D.steps + 1 ≤ _; omega⟩
/-- An act on a file. -/
theorem kp_op (hk : D.Ok) (s : ByteArray) (K : Nat → Fil → Option Int × Dsk) (h : ∀ i f, D.files[i]? = some f → s.size ≤ 24 → f.now.length ≤ usedD D → Kp D (K i f).2) : Kp D (fileOp D s K).2 := by
  unfold fileOp
  cases hq : fileE D s with
  | some c => exact kp_same hk
  | none =>
    obtain ⟨h1, h2⟩ := fileE_none hq
    obtain ⟨i, hi, hl⟩ := atN_lt hk h2
    simp only []
    have hu := used_ge h2 hi (List.getElem?_eq_getElem hl)
    rw [hi]
    simp only [Int.toNat_natCast]
    rw [List.getElem?_eq_getElem hl]
    exact h i _ (List.getElem?_eq_getElem hl) (askD_right h1) hu
theorem kp_sync (hk : D.Ok) (s : ByteArray) : Kp D (syncD D s).2 := by
  refine kp_op hk s _ (fun i f hf _ _ => ?_)
  split
  · rename_i h
    exact kp_off hk h
  · exact ⟨synced_ok hk hf, fun h => live_step h, by show D.steps + 1 ≤ _; omega⟩
theorem kp_syncDir (hk : D.Ok) : Kp D (syncDirD D).2 := by
  unfold syncDirD
  split
  · exact kp_same hk
  · split
    · rename_i h
      exact kp_off hk h
    · exact ⟨syncd_ok hk, fun h => live_step h, by show D.steps + 1 ≤ _; omega⟩
theorem kp_remove (hk : D.Ok) (s : ByteArray) : Kp D (removeD D s).2 :=
  kp_op hk s _ (fun i f hf h24 _ => kp_named hk ⟨ByteArray.empty, s, -1⟩ (by simp only; omega) (by simp only; omega) (by simp only; decide) h24)
theorem kp_change (hk : D.Ok) (i : Nat) (f : Fil) (hf : D.files[i]? = some f) (hu : f.now.length ≤ usedD D) (c : Chg) (hc : c.pos ≤ f.now.length) (h1 : c.cut = true → c.b = []) : Kp D (changedD D i f c).2 := by
  have hm := List.mem_of_getElem? hf
  unfold changedD
  split
  · exact kp_same hk
  · rename_i hn
    have h2 := small_go hk hm hu c hn
    split
    · rename_i h
      exact kp_off hk h
    · refine ⟨grown_ok hk hf c hc ?_ h2, fun h => live_step h, by show D.steps + 1 ≤ _; omega⟩
      cases hcut : c.cut with
      | false =>
        have := go_ge c f.now hc hcut
        omega
      | true =>
        rw [h1 hcut]
        have := (hk.fil f hm).nowL
        simp
        omega
theorem kp_append (hk : D.Ok) (s : ByteArray) (x : List Int) : Kp D (appendD D s x).2 :=
  kp_op hk s _ (fun i f hf _ hu => kp_change hk i f hf hu _ (Nat.le_refl _) (fun h => by simp at h))
theorem kp_trunc (hk : D.Ok) (s : ByteArray) (n : Int) : Kp D (truncD D s n).2 := by
  refine kp_op hk s _ (fun i f hf _ hu => ?_)
  split
  · exact kp_same hk
  · exact kp_change hk i f hf hu _ (by simp only; omega) (fun h => rfl)
end Go.Proofs.YtpcfnkmljchiiaaGreatDoor.DAk
end
section
/- Written by a program of mine (wip/tools/mkprint.py turns the kit's print; given contracts by hand). Lean checks it. -/
namespace Go.Proofs.YtpcfnkmljchiiaaGreatDoor.GSix
open Go.RowKit Go.Proofs.YtpcfnkmljchiiaaGreatDoorW.PrintWords Go.Proofs.YtpcfnkmljchiiaaGreatDoorW.PrintLast Go.Proofs.YtpcfnkmljchiiaaGreatDoorW.PrintMore
attribute [local go_sem] max2_int min2_int max_two min_two max_three min_three max_four min_four   -- for this text's walks alone



def errW : Option Int → Value
  | none => .nilIface
  | some c => .iface 0 (.int .i64 c)
theorem errW_none : errW none = .nilIface := rfl
theorem errW_some (c : Int) : errW (some c) = .iface 0 (.int .i64 c) := rfl

theorem info5 : (Tryz.prog.info? 5).map (fun i => (i.zero, i.size, i.bytes)) = some (some (.int .u8 0), 1, 1) := by kernel_rfl
-- the values' own types
/-! #### struct type 62 -/
structure S62 where
  f0 : Int
  f1 : ByteArray
  f2 : Int
  f3 : (List Int)
def z62 : S62 := ⟨(0 : Int), (⟨#[]⟩ : ByteArray), (0 : Int), ([] : List Int)⟩
def k62 : Kd S62 := Kd.iso (Kd.pair (Kd.int .i64) (Kd.pair Kd.string (Kd.pair (Kd.int .i64) (Kd.slice 5 (Kd.int .u8))))) (fun x : S62 => (x.f0, x.f1, x.f2, x.f3))
theorem k62_open {w : World} {x : S62} {cs : List Value} (h : k62.K w x cs) : ∃ A3 c3, cs = [.int .i64 x.f0, .string x.f1, .int .i64 x.f2, .slice A3 x.f3.length c3] ∧ x.f3.length ≤ c3 ∧ (Kd.int .u8).C w A3 x.f3.length x.f3 := by
  obtain ⟨_, _, rfl, rfl, ⟨_, _, rfl, rfl, ⟨_, _, rfl, rfl, ⟨A3, c3, rfl, l3, g3⟩⟩⟩⟩ := h
  exact ⟨A3, c3, rfl, l3, g3⟩
theorem k62_openM {w : World} {base : Nat} {ok : Nat → Prop} {x : S62} {cs : List Value} (h : k62.M w base ok x cs) : ∃ v3, cs = [.int .i64 x.f0, .string x.f1, .int .i64 x.f2, v3] ∧ (Kd.int .u8).R 5 w base ok v3 x.f3 := by
  obtain ⟨_, _, rfl, rfl, ⟨_, _, rfl, rfl, ⟨_, _, rfl, rfl, ⟨v3, rfl, g3⟩⟩⟩⟩ := h
  exact ⟨v3, rfl, g3⟩
theorem k62_mk (w : World) (x : S62) {A3 : Option Addr} {c3 : Nat} (l3 : x.f3.length ≤ c3) (g3 : (Kd.int .u8).C w A3 x.f3.length x.f3) : k62.K w x [.int .i64 x.f0, .string x.f1, .int .i64 x.f2, .slice A3 x.f3.length c3] := ⟨[.int .i64 x.f0], [.string x.f1, .int .i64 x.f2, .slice A3 x.f3.length c3], rfl, rfl, ⟨[.string x.f1], [.int .i64 x.f2, .slice A3 x.f3.length c3], rfl, rfl, ⟨[.int .i64 x.f2], [.slice A3 x.f3.length c3], rfl, rfl, ⟨A3, c3, rfl, l3, g3⟩⟩⟩⟩
theorem k62_mkM (w : World) (base : Nat) (ok : Nat → Prop) (x : S62) {v3 : Value} (g3 : (Kd.int .u8).R 5 w base ok v3 x.f3) : k62.M w base ok x [.int .i64 x.f0, .string x.f1, .int .i64 x.f2, v3] := ⟨[.int .i64 x.f0], [.string x.f1, .int .i64 x.f2, v3], rfl, rfl, ⟨[.string x.f1], [.int .i64 x.f2, v3], rfl, rfl, ⟨[.int .i64 x.f2], [v3], rfl, rfl, ⟨v3, rfl, g3⟩⟩⟩⟩
def rd_T62 (xs : List S62) (i : Int) : S62 := xs.getD i.toNat z62
theorem at_T62 {w : World} {A : Option Addr} {n : Nat} {xs : List S62} (h : Kd.C k62 w A n xs) (i : Int) (h0 : 0 ≤ i) (h1 : i < n) : ∃ ad A3 c3, A = some ad ∧ w.cell? (ad.add (i.toNat * 4)) = some (.int .i64 (rd_T62 xs i).f0) ∧ w.cell? ⟨(ad.add (i.toNat * 4)).block, (ad.add (i.toNat * 4)).off + 1, none⟩ = some (.string (rd_T62 xs i).f1) ∧ w.cell? ⟨(ad.add (i.toNat * 4)).block, (ad.add (i.toNat * 4)).off + 2, none⟩ = some (.int .i64 (rd_T62 xs i).f2) ∧ w.cell? ⟨(ad.add (i.toNat * 4)).block, (ad.add (i.toNat * 4)).off + 3, none⟩ = some (.slice A3 (rd_T62 xs i).f3.length c3) ∧ (rd_T62 xs i).f3.length ≤ c3 ∧ (Kd.int .u8).C w A3 (rd_T62 xs i).f3.length (rd_T62 xs i).f3 := by
  obtain ⟨ad, c, e, _, hK, hc0⟩ := Kd.C_get h z62 i h0 h1
  have hc : ∀ j u, c[j]? = some u → w.cell? (ad.add (i.toNat * 4 + j)) = some u := hc0
  obtain ⟨A3, c3, rfl, l3, g3⟩ := k62_open hK
  exact ⟨ad, A3, c3, e, hc 0 _ rfl, by rw [← add_field _ _ 1 (by omega)]; exact hc 1 _ rfl, by rw [← add_field _ _ 2 (by omega)]; exact hc 2 _ rfl, by rw [← add_field _ _ 3 (by omega)]; exact hc 3 _ rfl, l3, g3⟩

end Go.Proofs.YtpcfnkmljchiiaaGreatDoor.GSix
end
section
/- The log of changes (redo), plainly: what its functions make of the disk. -/
namespace Go.Proofs.YtpcfnkmljchiiaaGreatDoor.OPl
open Go Go.RowKit DPl DOk DOk2 DCra DCrc DSyn DSd DCr DCh2 DOps DFil DAk
abbrev Rop := GSix.S62
def kRedo : ByteArray := ⟨#[114, 101, 100, 111]⟩
/-- A step, and the next one where it went well. -/
def andThen (r : Option Int × Dsk) (f : Dsk → Option Int × Dsk) : Option Int × Dsk := match r.1 with | some c => (some c, r.2) | none => f r.2
theorem andThen_some {r : Option Int × Dsk} {c : Int} (h : r.1 = some c) (f : Dsk → Option Int × Dsk) : andThen r f = (some c, r.2) := by unfold andThen; rw [h]
theorem andThen_none {r : Option Int × Dsk} (h : r.1 = none) (f : Dsk → Option Int × Dsk) : andThen r f = f r.2 := by unfold andThen; rw [h]
def madeL (D : Dsk) (s : ByteArray) (n : Int) (always : Bool) : Option Int × Dsk :=
  match fileE D s with
  | some c => if c = 5 then createD D s else (some c, D)
  | none => if always = true ∨ n < ((readD D s).length : Int) then truncD D s n else (none, D)
def removeL (D : Dsk) (s : ByteArray) : Option Int × Dsk := if (removeD D s).1 = some 5 then (none, (removeD D s).2) else removeD D s
def putL (D : Dsk) (s : ByteArray) (b : List Int) : Option Int × Dsk := if b.length = 0 then (none, D) else appendD D s b
def doL (D : Dsk) (o : Rop) : Option Int × Dsk :=
  if o.f0 = 3 then removeL D o.f1 else
  andThen (madeL D o.f1 o.f2 (o.f0 == 2)) fun D1 => andThen (putL D1 o.f1 o.f3) fun D2 => syncD D2 o.f1
def allL : List Rop → Dsk → Option Int × Dsk
  | [], D => syncDirD D
  | o :: r, D => andThen (doL D o) (allL r)
def emptyL (D : Dsk) : Option Int × Dsk := andThen (truncD D kRedo 0) fun D1 => syncD D1 kRedo
def formatL (D : Dsk) : Option Int × Dsk := andThen (createD D kRedo) syncDirD
/-- Sound, so many steps more at most. -/
structure Kq (n : Nat) (D D' : Dsk) : Prop where
  ok : D'.Ok
  steps : D'.steps ≤ D.steps + n
  live : Live D → Live D'
variable {D D1 D2 : Dsk}
theorem Kq.of (h : Kp D D1) : Kq 1 D D1 := ⟨h.ok, h.steps, h.live⟩
theorem Kq.refl (h : D.Ok) : Kq 0 D D := ⟨h, by omega, id⟩
theorem Kq.trans {m n : Nat} (h : Kq m D D1) (h2 : Kq n D1 D2) : Kq (m + n) D D2 := ⟨h2.ok, by have := h.steps; have := h2.steps; omega, fun x => h2.live (h.live x)⟩
theorem Kq.up {m n : Nat} (h : Kq m D D1) (hn : m ≤ n) : Kq n D D1 := ⟨h.ok, by have := h.steps; omega, h.live⟩
theorem kq_then {m n : Nat} {r : Option Int × Dsk} {f : Dsk → Option Int × Dsk} (h : Kq m D r.2) (hf : r.2.Ok → Kq n r.2 (f r.2).2) : Kq (m + n) D (andThen r f).2 := by
  cases hr : r.1 with
  | some c => rw [andThen_some hr]; exact h.up (by omega)
  | none => rw [andThen_none hr]; exact h.trans (hf h.ok)
theorem kq_made (hk : D.Ok) (s : ByteArray) (n : Int) (a : Bool) : Kq 1 D (madeL D s n a).2 := by
  unfold madeL
  split
  · split
    · exact Kq.of (kp_create hk s)
    · exact (Kq.refl hk).up (by omega)
  · split
    · exact Kq.of (kp_trunc hk s n)
    · exact (Kq.refl hk).up (by omega)
theorem kq_remove (hk : D.Ok) (s : ByteArray) : Kq 1 D (removeL D s).2 := by
  unfold removeL
  split
  · exact Kq.of (kp_remove hk s)
  · exact Kq.of (kp_remove hk s)
theorem kq_put (hk : D.Ok) (s : ByteArray) (b : List Int) : Kq 1 D (putL D s b).2 := by
  unfold putL
  split
  · exact (Kq.refl hk).up (by omega)
  · exact Kq.of (kp_append hk s b)
theorem kq_do (hk : D.Ok) (o : Rop) : Kq 3 D (doL D o).2 := by
  unfold doL
  split
  · exact (kq_remove hk o.f1).up (by omega)
  · refine kq_then (m := 1) (n := 2) (kq_made hk _ _ _) (fun hk1 => ?_)
    refine kq_then (m := 1) (n := 1) (kq_put hk1 _ _) (fun hk2 => ?_)
    exact Kq.of (kp_sync hk2 _)
theorem kq_all : ∀ (l : List Rop) (D : Dsk), D.Ok → Kq (3 * l.length + 1) D (allL l D).2
  | [], D, hk => Kq.of (kp_syncDir hk)
  | o :: r, D, hk => (kq_then (kq_do hk o) (fun hk1 => kq_all r _ hk1)).up (by simp only [List.length_cons]; omega)
theorem kq_empty (hk : D.Ok) : Kq 2 D (emptyL D).2 := kq_then (Kq.of (kp_trunc hk _ _)) (fun hk1 => Kq.of (kp_sync hk1 _))
theorem kq_format (hk : D.Ok) : Kq 2 D (formatL D).2 := kq_then (Kq.of (kp_create hk _)) (fun hk1 => Kq.of (kp_syncDir hk1))
end Go.Proofs.YtpcfnkmljchiiaaGreatDoor.OPl
end
section
/- Disk.Size; errors.Is at the disk's errors; the log's struct. -/
namespace Go.Proofs.YtpcfnkmljchiiaaGreatDoor.OSz
open Go Go.RowKit Go.Maps Go.WideMaps Go.Proofs.YtpcfnkmljchiiaaGreatDoorW.PrintWords Go.Proofs.YtpcfnkmljchiiaaGreatDoorW.PrintLast DBase DPl DAt DEnt DNam Go.Proofs.YtpcfnkmljchiiaaGreatDoor.Is DFil DUsd DChg DCg DStp DCh2 DBy DOps DSyn Go.Proofs.YtpcfnkmljchiiaaGreatDoor.OPl
def sizeL (D : Dsk) (s : ByteArray) : Int := if fileE D s = none then ((readD D s).length : Int) else 0
section
variable (B : Bx) (p : Nat) (D : Dsk) (E : Int → Addr) (w : World)
set_option maxRecDepth 100000 in
set_option maxHeartbeats 4000000 in
theorem size_calls (h : DiskAt B w p D) (hE : ErrAt B w E) (hk : D.Ok) (hst : D.steps ≤ 1000000000) (s : ByteArray) (hs : s.size < 9223372036854775807) :
    Calls Tryz.prog 119 #[.pointer (some ⟨p, 0, none⟩), .string s] w fun e w' => e = .returned (.tuple #[.int .i64 (sizeL D s), errV E (fileE D s)]) ∧ Below w.heap.size w w' := by
  obtain ⟨L, m1, m2, fv, ov, hl⟩ := h
  cases hq : fileE D s with
  | some c =>
    have HF := Aside0.mk (file_no p D s hs E w hl hE c hq)
    have HS := Aside0.mk (show sizeL D s = 0 by unfold sizeL; rw [hq]; rfl)
    rw [errV_some] at HF ⊢
    clear hl hE hq
    go_enter Tryz.func119, Tryz.ntmps119
    go_wp2_with (go_at_call 62; refine HF.out.mono ?_; rintro e w1 ⟨rfl, hb⟩; have HB1 := Aside0.mk hb; clear hb)
    go_ret2
    rw [HS.out]
    exact ⟨rfl, HB1.out⟩
  | none =>
    obtain ⟨i, f, hi, hf⟩ := file_at hk hq
    have hr : readD D s = f.now := by unfold readD; rw [hi]; simp only [Int.toNat_natCast, hf]
    have HS := Aside0.mk (show sizeL D s = (f.now.length : Int) by unfold sizeL; rw [hq, hr]; rfl)
    have hil : i < L.length := by have := hl.files.len; have := (List.getElem?_eq_some_iff.1 hf).1; omega
    obtain ⟨x, hx⟩ : ∃ x, L[i]? = some x := ⟨_, List.getElem?_eq_getElem hil⟩
    have HF := Aside0.mk (file_ok p D s hs E w hl hE hq i hi x hx (by have := hl.files.len; have := hk.cntF; omega))
    obtain ⟨⟨nv, sv, ho, hn, hsu⟩, lo, hop⟩ := hl.files.each i x f hx hf
    obtain ⟨A, cp, rfl, h1, h2⟩ := Kd.R_reads hn
    have HN0 := Aside0.mk ((blk_cell ho 0).trans rfl : w.cell? ⟨x.1, 0, none⟩ = some (.slice A f.now.length cp))
    clear hl hE hq hi hf hx hil ho hn hsu lo hop h1 h2 hr
    rw [errV_none]
    go_enter Tryz.func119, Tryz.ntmps119
    go_wp2_with (go_at_call 62; refine HF.out.mono ?_; rintro e w1 ⟨rfl, hb⟩; have HB1 := Aside0.mk hb; clear hb; have n1 := (HB1.out.cell (p := ⟨x.1, 0, none⟩) (World.block_lt_of_cell? w _ HN0.out)).trans HN0.out)
    go_ret2
    rw [HS.out]
    exact ⟨rfl, HB1.out⟩
end
set_option maxRecDepth 100000 in
set_option maxHeartbeats 4000000 in
theorem is_nil (b : Addr) (w : World) :
    Calls Tryz.prog 75 #[.nilIface, .iface 212 (.pointer (some b))] w fun e w' => e = .returned (.bool false) ∧ w' = w := by
  have heq : ∀ w, (binOp .eql 27 .nilIface (.iface 212 (.pointer (some b)))).run Tryz.prog w = .ok (.bool false) w := fun w => run_eql_iface_nil_left w _ _ Tryz.underlying27
  go_enter Tryz.func75, Tryz.ntmps75
  go_wp2
  go_ret
  exact ⟨rfl, rfl⟩
/-- A log lies in a world. -/
def LogAt (W : World) (l p : Nat) (dead : Bool) : Prop := W.heap[l]? = some (.cells #[.pointer (some ⟨p, 0, none⟩), .bool dead] 129 (0, 0))
theorem LogAt.turn {B : Nat} {W V : World} {l p : Nat} {d : Bool} (h : LogAt W l p d) (ht : Turn B W V) : LogAt V l p d := ht.kind _ _ h rfl
theorem LogAt.below {W V : World} {l p : Nat} {d : Bool} (h : LogAt W l p d) (ht : Below W.heap.size W V) : LogAt V l p d := (ht.block _ (blk_lt h)).trans h
theorem LogAt.disk {W : World} {l p : Nat} {d : Bool} (h : LogAt W l p d) : W.cell? ⟨l, 0, none⟩ = some (.pointer (some ⟨p, 0, none⟩)) := (blk_cell h 0).trans rfl
theorem LogAt.dead {W : World} {l p : Nat} {d : Bool} (h : LogAt W l p d) : W.cell? ⟨l, 1, none⟩ = some (.bool d) := (blk_cell h 1).trans rfl
end Go.Proofs.YtpcfnkmljchiiaaGreatDoor.OSz
end
section
/- Log.made: a file is there, with its first bytes at most. -/
namespace Go.Proofs.YtpcfnkmljchiiaaGreatDoor.OMade
open Go Go.RowKit Go.Maps Go.WideMaps Go.Proofs.YtpcfnkmljchiiaaGreatDoorW.PrintWords Go.Proofs.YtpcfnkmljchiiaaGreatDoorW.PrintLast DBase DPl DAt DEnt DNam Go.Proofs.YtpcfnkmljchiiaaGreatDoor.Is DFil DUsd DChg DCg DStp DCh2 DBy DOps DSyn DSd DCr Go.Proofs.YtpcfnkmljchiiaaGreatDoor.OPl Go.Proofs.YtpcfnkmljchiiaaGreatDoor.OSz
variable {B : Bx} {p l : Nat} {dead : Bool} {D : Dsk} {E : Int → Addr} {w : World}
theorem is_no (hE : ErrAt B w E) (c d : Int) (hc : dErr c) (hd : dErr d) (hn : c ≠ d) :
    Calls Tryz.prog 75 #[.iface 212 (.pointer (some (E c))), .iface 212 (.pointer (some (E d)))] w fun e w' => e = .returned (.bool false) ∧ w' = w := by
  obtain ⟨ca, ta, ha⟩ := hE.errs.row c hc
  obtain ⟨cb, tb, hb⟩ := hE.errs.row d hd
  exact is_other _ _ _ _ _ _ _ (hE.errs.ne c d hc hd hn) ha hb
theorem gNone5 : gOf 5 = 4 := by decide
set_option maxRecDepth 100000 in
set_option maxHeartbeats 8000000 in
theorem made_calls (hl : LogAt w l p dead) (h : DiskAt B w p D) (hE : ErrAt B w E) (hk : D.Ok) (hst : D.steps ≤ 1000000000) (s : ByteArray) (hs : s.size < 9223372036854775807) (n : Int) (a : Bool) :
    Calls Tryz.prog 139 #[.pointer (some ⟨l, 0, none⟩), .string s, .int .i64 n, .bool a] w fun e w' => e = .returned (errV E (madeL D s n a).1) ∧ DiskAt B w' p (madeL D s n a).2 ∧ Turn B w w' := by
  have l0 := hl.disk
  have c5 := hE.errs.var 5 (by simp [dErr])
  rw [gNone5] at c5
  have HS := Aside0.mk (size_calls B p D E w h hE hk hst s hs)
  have HD := Aside0.mk h
  have HE := Aside0.mk hE
  have HK := Aside0.mk hk
  have HL := Aside0.mk (And.intro l0 c5)
  clear hl h hE hk
  cases hq : fileE D s with
  | some c =>
    have HCi := Aside0.mk (fileE_in hq)
    rw [hq, errV_some, show sizeL D s = 0 by unfold sizeL; rw [hq]; rfl] at HS
    by_cases h5 : c = 5
    · subst h5
      have e : madeL D s n a = createD D s := by unfold madeL; rw [hq]; rfl
      rw [e]
      clear e hq l0 c5
      go_enter Tryz.func139, Tryz.ntmps139
      have l0 := HL.out.1
      go_wp2_with (first
        | (go_at_call 119; refine HS.out.mono ?_; rintro e w1 ⟨rfl, hb⟩; have HB1 := Aside0.mk hb; have l1 := (hb.cell (World.block_lt_of_cell? w _ HL.out.1)).trans HL.out.1; have c1 := (hb.cell (World.block_lt_of_cell? w _ HL.out.2)).trans HL.out.2; clear hb l0)
        | (go_at_call 75; refine (is_same _ w1).mono ?_; rintro e w2 ⟨rfl, rfl⟩)
        | (go_at_call 34; refine (create_calls (h := HD.out.below HB1.out) (hE := HE.out.turn (Turn.of_below HB1.out)) (hk := HK.out) (hst := hst) (s := s) (hs := hs)).mono ?_; rintro e w3 ⟨rfl, hd, ht⟩; have HR := Aside0.mk (And.intro hd ((Turn.of_below HB1.out).trans ht)); clear hd ht))
      go_ret
      exact ⟨rfl, HR.out⟩
    · have e : madeL D s n a = (some c, D) := by unfold madeL; rw [hq]; simp only []; rw [if_neg h5]
      rw [e, errV_some]
      have HN := Aside0.mk h5
      clear e hq l0 c5 h5
      go_enter Tryz.func139, Tryz.ntmps139
      have l0 := HL.out.1
      go_wp2_with (first
        | (go_at_call 119; refine HS.out.mono ?_; rintro e w1 ⟨rfl, hb⟩; have HB1 := Aside0.mk hb; have l1 := (hb.cell (World.block_lt_of_cell? w _ HL.out.1)).trans HL.out.1; have c1 := (hb.cell (World.block_lt_of_cell? w _ HL.out.2)).trans HL.out.2; clear hb l0)
        | (go_at_call 75; refine (is_no (HE.out.turn (Turn.of_below HB1.out)) c 5 HCi.out (by simp [dErr]) HN.out).mono ?_; rintro e w2 ⟨rfl, rfl⟩))
      go_ret
      exact ⟨rfl, HD.out.below HB1.out, Turn.of_below HB1.out⟩
  | none =>
    rw [hq, errV_none, show sizeL D s = ((readD D s).length : Int) by unfold sizeL; rw [hq]; rfl] at HS
    by_cases ht : a = true ∨ n < ((readD D s).length : Int)
    · have e : madeL D s n a = truncD D s n := by unfold madeL; rw [hq]; simp only []; rw [if_pos ht]
      rw [e]
      clear e hq l0 c5
      cases a with
      | true =>
        clear ht
        go_enter Tryz.func139, Tryz.ntmps139
        have l0 := HL.out.1
        go_wp2_with (first
          | (go_at_call 119; refine HS.out.mono ?_; rintro e w1 ⟨rfl, hb⟩; have HB1 := Aside0.mk hb; have l1 := (hb.cell (World.block_lt_of_cell? w _ HL.out.1)).trans HL.out.1; have c1 := (hb.cell (World.block_lt_of_cell? w _ HL.out.2)).trans HL.out.2; clear hb l0)
          | (go_at_call 75; refine (is_nil _ w1).mono ?_; rintro e w2 ⟨rfl, rfl⟩)
          | (go_at_call 41; refine (trunc_calls (h := HD.out.below HB1.out) (hE := HE.out.turn (Turn.of_below HB1.out)) (hk := HK.out) (hst := hst) (s := s) (hs := hs) (n := n)).mono ?_; rintro e w3 ⟨rfl, hd, ht⟩; have HR := Aside0.mk (And.intro hd ((Turn.of_below HB1.out).trans ht)); clear hd ht))
        go_ret
        exact ⟨rfl, HR.out⟩
      | false =>
        have t1 : decide (n < ((readD D s).length : Int)) = true := decide_eq_true (by simpa using ht)
        clear ht
        go_enter Tryz.func139, Tryz.ntmps139
        have l0 := HL.out.1
        go_wp2_with (first
          | (go_at_call 119; refine HS.out.mono ?_; rintro e w1 ⟨rfl, hb⟩; have HB1 := Aside0.mk hb; have l1 := (hb.cell (World.block_lt_of_cell? w _ HL.out.1)).trans HL.out.1; have c1 := (hb.cell (World.block_lt_of_cell? w _ HL.out.2)).trans HL.out.2; clear hb l0)
          | (go_at_call 75; refine (is_nil _ w1).mono ?_; rintro e w2 ⟨rfl, rfl⟩)
          | (go_at_call 41; refine (trunc_calls (h := HD.out.below HB1.out) (hE := HE.out.turn (Turn.of_below HB1.out)) (hk := HK.out) (hst := hst) (s := s) (hs := hs) (n := n)).mono ?_; rintro e w3 ⟨rfl, hd, ht⟩; have HR := Aside0.mk (And.intro hd ((Turn.of_below HB1.out).trans ht)); clear hd ht))
        go_ret
        exact ⟨rfl, HR.out⟩
    · have e : madeL D s n a = (none, D) := by unfold madeL; rw [hq]; simp only []; rw [if_neg ht]
      obtain rfl : a = false := by cases a with | true => exact absurd (.inl rfl) ht | false => rfl
      have t1 : decide (n < ((readD D s).length : Int)) = false := decide_eq_false (fun h => ht (.inr h))
      rw [e, errV_none]
      clear e hq l0 c5 ht
      go_enter Tryz.func139, Tryz.ntmps139
      have l0 := HL.out.1
      go_wp2_with (first
        | (go_at_call 119; refine HS.out.mono ?_; rintro e w1 ⟨rfl, hb⟩; have HB1 := Aside0.mk hb; have l1 := (hb.cell (World.block_lt_of_cell? w _ HL.out.1)).trans HL.out.1; have c1 := (hb.cell (World.block_lt_of_cell? w _ HL.out.2)).trans HL.out.2; clear hb l0)
        | (go_at_call 75; refine (is_nil _ w1).mono ?_; rintro e w2 ⟨rfl, rfl⟩))
      go_ret
      exact ⟨rfl, HD.out.below HB1.out, Turn.of_below HB1.out⟩
end Go.Proofs.YtpcfnkmljchiiaaGreatDoor.OMade
end
