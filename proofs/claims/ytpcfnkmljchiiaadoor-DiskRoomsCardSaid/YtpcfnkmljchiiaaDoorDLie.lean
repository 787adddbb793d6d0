/- A disk's cells, and what becomes of it where single blocks turn. -/
import Derived.Test.YtpcfnkmljchiiaaDoorDAt
import Derived.Test.YtpcfnkmljchiiaaDoorIs
namespace Go.Proofs.YtpcfnkmljchiiaaDoor.DAt
open Go Go.RowKit Go.Maps Go.Proofs.YtpcfnkmljchiiaaDoorW.PrintWords Go.Proofs.YtpcfnkmljchiiaaDoor.DPl Go.Proofs.YtpcfnkmljchiiaaDoor.DAt Go.Proofs.YtpcfnkmljchiiaaDoor.Is
set_option linter.unusedVariables false
variable {B : Nat} {a b c w w' w1 : World} {α : Type} {d : Kd α} {e base : Nat} {ok : Nat → Prop} {v : Value} {xs : List α}
/-! ### rows where one block has turned -/
/-- The block that may have turned is of none of these types. -/
def Not (w : World) (row : Option Nat) (qs : List Nat) : Prop := ∀ g, row = some g → ∃ o, w.heap[g]? = some o ∧ ∀ q ∈ qs, ∀ cells, o ≠ .cells cells q (0, 0)
/-- All other blocks are as they were. -/
def But (w w' : World) (row : Option Nat) : Prop := w.heap.size ≤ w'.heap.size ∧ ∀ k, k < w.heap.size → some k ≠ row → w'.heap[k]? = w.heap[k]?
theorem But.grown {row : Option Nat} (h : w.grownBy w' row) : But w w' row := ⟨h.size, h.block⟩
theorem But.setCell (w : World) (p : Addr) (u : Value) : But w (w.setCell p u) (some p.block) := ⟨by simp [World.setCell], fun k _ hne => Below.heap_setCell w p u k (fun e => hne (by rw [e]))⟩
theorem But.trans {row : Option Nat} (h : But a b row) (k : But b c row) : But a c row := ⟨Nat.le_trans h.1 k.1, fun i hi hne => (k.2 i (Nat.lt_of_lt_of_le hi h.1) hne).trans (h.2 i hi hne)⟩
theorem But.of_below {row : Option Nat} (h : Below w.heap.size w w') : But w w' row := ⟨h.size, fun k hk _ => h.block k hk⟩
theorem But.obj {row : Option Nat} {g : Nat} {o : Obj} (h : But w w' row) (ho : w.heap[g]? = some o) (hne : some g ≠ row) : w'.heap[g]? = some o := (h.2 g (blk_lt ho) hne).trans ho
theorem R_row (h : d.R e w base ok v xs) {row : Option Nat} (hk : But w w' row) (hn : Not w row (e :: d.E)) : d.R e w' base ok v xs :=
  Kd.R_mono (Kd.R_step (Kd.R_bound h) (fun k ho hl => hk.2 k hl (fun er => by
    obtain ⟨_, _, _, q, hq, cells, hc⟩ := ho
    obtain ⟨o, h1, h2⟩ := hn k er.symm
    rw [hc] at h1
    exact h2 q hq cells (Option.some.inj h1).symm))) (fun _ hk => hk.1)
theorem Not.cells {row : Option Nat} {qs : List Nat} {t : Nat} (h : ∀ g, row = some g → ∃ cs m, w.heap[g]? = some (.cells cs t m)) (ht : ∀ q ∈ qs, q ≠ t) : Not w row qs := fun g hg => by
  obtain ⟨cs, m, h1⟩ := h g hg
  exact ⟨_, h1, fun q hq cells he => by injection he with _ he _; exact ht q hq he.symm⟩
theorem Not.map {m : Nat} {qs : List Nat} {N : Nms} (h : NamesAt w m N) : Not w (some m) qs := fun g hg => by
  obtain rfl := Option.some.inj hg
  obtain ⟨es, cl, h1⟩ := h.obj
  exact ⟨_, h1, fun q hq cells he => by cases he⟩
theorem Not.own {qs : List Nat} {t : Nat} {size n base : Nat} {v : Value} {xs : List Value} (h : w.ownsRow base t size v n xs) (ht : ∀ q ∈ qs, q ≠ t) : Not w v.ownBlock qs :=
  Not.cells (t := t) (fun g hg => by obtain ⟨cs, hc⟩ := own_typed h g hg; exact ⟨cs, (0, 0), hc⟩) ht
theorem own_of (h : d.R e w base ok v xs) : ∃ inner, w.ownsRow base e d.sz v xs.length inner := Kd.R_own h
/-! ### a file, the files -/
abbrev tF : Nat := 69
abbrev tC : Nat := 77
theorem FileAt.row {k : Nat} {rv : Value} {f : Fil} (h : FileAt B w k rv f) {row : Option Nat} (hk : But w w' row) (hne : some k ≠ row) (hn : Not w row [5, tC]) : FileAt B w' k rv f := by
  obtain ⟨⟨nv, sv, ho, hn1, hs1⟩, lo, hop⟩ := h
  have n5 : Not w row (5 :: kb.E) := fun g hg => by obtain ⟨o, h1, h2⟩ := hn g hg; exact ⟨o, h1, fun q hq => h2 q (by have : q = 5 := (by simpa [kb, Kd.int, Kd.scalar] using hq); simp [this])⟩
  have n7 : Not w row (77 :: kChg.E) := fun g hg => by
    obtain ⟨o, h1, h2⟩ := hn g hg
    exact ⟨o, h1, fun q hq => h2 q (by
      simp only [kChg, Kd.iso, Kd.pair, Kd.slice, kb, Kd.int, Kd.bool, Kd.scalar, List.mem_cons, List.mem_append, List.not_mem_nil, or_false, false_or] at hq
      rcases hq with rfl | rfl
      · simp
      · simp)⟩
  exact ⟨⟨nv, sv, hk.obj ho hne, R_row hn1 hk n5, R_row hs1 hk n5⟩, lo, R_row hop hk n7⟩
/-- A file whose steps' row is not the one that has turned. -/
theorem FileAt.row2 {k : Nat} {rv : Value} {f : Fil} (h : FileAt B w k rv f) {row : Option Nat} (hk : But w w' row) (hne : some k ≠ row) (hr : rv.ownBlock = none ∨ rv.ownBlock ≠ row) (hn : Not w row [5]) : FileAt B w' k rv f := by
  obtain ⟨⟨nv, sv, ho, hn1, hs1⟩, lo, hop⟩ := h
  have n5 : Not w row (5 :: kb.E) := fun g hg => by obtain ⟨o, h1, h2⟩ := hn g hg; exact ⟨o, h1, fun q hq => h2 q (by have : q = 5 := (by simpa [kb, Kd.int, Kd.scalar] using hq); simp [this])⟩
  refine ⟨⟨nv, sv, hk.obj ho hne, R_row hn1 hk n5, R_row hs1 hk n5⟩, lo, ?_⟩
  obtain ⟨h0, inner, how, hrp⟩ := hop
  refine ⟨h0, inner, own_move how (fun k hkk => hk.2 k (own_lt how k hkk) (fun e2 => ?_)), hrp.imp_ (fun x cs hp => ?_)⟩
  · rw [← e2] at hr
    rcases hr with hr | hr
    · rw [hr] at hkk; cases hkk
    · exact hr hkk
  · refine Kd.M_mono _ (fun _ hq => hq.1) (Kd.M_step (Kd.M_bound _ hp) (fun k ho2 hl => hk.2 k hl (fun er => ?_)))
    obtain ⟨_, _, _, q, hq, cells, hc⟩ := ho2
    have : q = 5 := by simpa [kChg, Kd.iso, Kd.pair, Kd.slice, kb, Kd.int, Kd.bool, Kd.scalar] using hq
    subst this
    obtain ⟨o, h1, h2⟩ := hn k er.symm
    rw [hc] at h1
    exact h2 _ (by simp) cells (Option.some.inj h1).symm
theorem FilesAt.row {L : List (Nat × Value)} {fs : List Fil} (h : FilesAt B w L fs) {row : Option Nat} (hk : But w w' row) (hn : Not w row [5, tC, tF]) : FilesAt B w' L fs := by
  refine ⟨h.len, fun i x f hx hf => ?_, h.far⟩
  have h1 := h.each i x f hx hf
  refine h1.row hk (fun e => ?_) (fun g hg => ?_)
  · obtain ⟨nv, sv, ho, _, _⟩ := h1.ex
    obtain ⟨o, h2, h3⟩ := hn x.1 e.symm
    rw [ho] at h2
    exact h3 tF (by simp) _ (Option.some.inj h2).symm
  · obtain ⟨o, h2, h3⟩ := hn g hg
    exact ⟨o, h2, fun q hq => h3 q (by simp at hq ⊢; rcases hq with h | h <;> simp [h])⟩
/-! ### the disk -/
variable {p : Nat} {D : Dsk} {L : List (Nat × Value)} {m1 m2 : Nat} {fv ov : Value}
abbrev tD : Nat := 59
theorem Lies.notp (h : Lies B w p D L m1 m2 fv ov) (qs : List Nat) (hq : tD ∉ qs) : Not w (some p) qs :=
  Not.cells (t := tD) (fun g hg => by obtain rfl := Option.some.inj hg; exact ⟨_, _, h.obj⟩) (fun q hq2 e => hq (e ▸ hq2))
theorem Lies.nep (h : Lies B w p D L m1 m2 fv ov) {m : Nat} {N : Nms} (hm : NamesAt w m N) : some m ≠ some p := fun e => by
  obtain rfl := Option.some.inj e
  obtain ⟨es, cl, h1⟩ := hm.obj
  rw [h.obj] at h1
  cases h1
theorem kPtrE : kPtr.E = [] := rfl
theorem kEntE : kEnt.E = [] := rfl
/-- The struct's own numbers have turned. -/
theorem Lies.reobj (h : Lies B w p D L m1 m2 fv ov) (q ar : Int) (off : Bool) (st : Int) (ho : w'.heap[p]? = some (diskO fv m1 m2 ov q ar off st)) (hk : But w w' (some p)) :
    Lies B w' p { D with quota := q, armed := ar, off := off, steps := st } L m1 m2 fv ov :=
  ⟨ho, h.lop, h.lo1, h.lo2, h.ne, h.now.same (hk.2 _ h.now.lt (h.nep h.now)), h.sure.same (hk.2 _ h.sure.lt (h.nep h.sure)), R_row h.ptrs hk (h.notp _ (by rw [kPtrE]; decide)), R_row h.opn hk (h.notp _ (by rw [kEntE]; decide)), h.files.row hk (h.notp _ (by decide))⟩
/-- The names now have turned. -/
theorem Lies.renow (h : Lies B w p D L m1 m2 fv ov) {N : Nms} (hN : NamesAt w' m1 N) (hg : w.grownBy w' (some m1)) : Lies B w' p { D with now := N } L m1 m2 fv ov :=
  have hk := But.grown hg
  ⟨hk.obj h.obj (h.nep h.now).symm, h.lop, h.lo1, h.lo2, h.ne, hN, h.sure.same (hk.2 _ h.sure.lt (fun e => h.ne (Option.some.inj e).symm)), R_row h.ptrs hk (Not.map h.now), R_row h.opn hk (Not.map h.now), h.files.row hk (Not.map h.now)⟩
theorem Lies.resure (h : Lies B w p D L m1 m2 fv ov) {N : Nms} (hN : NamesAt w' m2 N) (hg : w.grownBy w' (some m2)) : Lies B w' p { D with sure := N } L m1 m2 fv ov :=
  have hk := But.grown hg
  ⟨hk.obj h.obj (h.nep h.sure).symm, h.lop, h.lo1, h.lo2, h.ne, h.now.same (hk.2 _ h.now.lt (fun e => h.ne (Option.some.inj e))), hN, R_row h.ptrs hk (Not.map h.sure), R_row h.opn hk (Not.map h.sure), h.files.row hk (Not.map h.sure)⟩
/-- What a disk stands on is as it was. -/
theorem Lies.same (h : Lies B w p D L m1 m2 fv ov) (hk : ∀ k, k < w.heap.size → w'.heap[k]? = w.heap[k]?) (hs : w.heap.size ≤ w'.heap.size) : Lies B w' p D L m1 m2 fv ov :=
  have hb : But w w' none := ⟨hs, fun k hl _ => hk k hl⟩
  have hn : ∀ qs, Not w none qs := fun qs g hg => by cases hg
  ⟨(hk _ (blk_lt h.obj)).trans h.obj, h.lop, h.lo1, h.lo2, h.ne, h.now.same (hk _ h.now.lt), h.sure.same (hk _ h.sure.lt), R_row h.ptrs hb (hn _), R_row h.opn hb (hn _), h.files.row hb (hn _)⟩
theorem Lies.below (h : Lies B w p D L m1 m2 fv ov) (hb : Below w.heap.size w w') : Lies B w' p D L m1 m2 fv ov := h.same hb.block hb.size
theorem Lies.drew (h : Lies B w p D L m1 m2 fv ov) : Lies B w.drew p D L m1 m2 fv ov := h.same (fun _ _ => rfl) (Nat.le_refl _)
theorem DiskAt.below (h : DiskAt B w p D) (hb : Below w.heap.size w w') : DiskAt B w' p D := by
  obtain ⟨L, m1, m2, fv, ov, hl⟩ := h
  exact ⟨L, m1, m2, fv, ov, Lies.below hl hb⟩
/-- The row of names' steps has been appended to, and laid into the struct. -/
theorem Lies.reopn (h : Lies B w p D L m1 m2 fv ov) {v1 : Value} {es : List Ent} (hE : EntsAt B w1 v1 es) (hg : w.grownBy w1 ov.ownBlock) : Lies B (w1.setCell ⟨p, 3, none⟩ v1) p { D with opn := es } L m1 m2 fv v1 := by
  have hk := But.grown hg
  obtain ⟨inner, ho⟩ := own_of h.opn
  have nt : ∀ qs : List Nat, 65 ∉ qs → Not w ov.ownBlock qs := fun qs hq => Not.own ho (fun q hq2 e => hq (e ▸ hq2))
  have op1 : some p ≠ ov.ownBlock := fun e => by
    obtain ⟨cs, hc⟩ := own_typed ho p e.symm
    rw [h.obj] at hc
    cases hc
  have om : ∀ {m : Nat} {N : Nms}, NamesAt w m N → some m ≠ ov.ownBlock := fun hm e => by
    obtain ⟨cs, hc⟩ := own_typed ho _ e.symm
    obtain ⟨es, cl, h1⟩ := hm.obj
    rw [h1] at hc
    cases hc
  have obj1 := hk.obj h.obj op1
  have hs := But.setCell w1 ⟨p, 3, none⟩ v1
  have np : ∀ qs : List Nat, tD ∉ qs → Not w1 (some p) qs := fun qs hq => Not.cells (t := tD) (fun g hg => by obtain rfl := Option.some.inj hg; exact ⟨_, _, obj1⟩) (fun q hq2 e => hq (e ▸ hq2))
  have now1 := h.now.same (hk.2 _ h.now.lt (om h.now))
  have sure1 := h.sure.same (hk.2 _ h.sure.lt (om h.sure))
  have ne1 : ∀ {m : Nat} {N : Nms}, NamesAt w1 m N → some m ≠ some p := fun hm e => by
    obtain rfl := Option.some.inj e
    obtain ⟨es, cl, h1⟩ := hm.obj
    rw [obj1] at h1
    cases h1
  refine ⟨blk_set obj1 3 v1, h.lop, h.lo1, h.lo2, h.ne, now1.same (hs.2 _ now1.lt (ne1 now1)), sure1.same (hs.2 _ sure1.lt (ne1 sure1)), R_row (R_row h.ptrs hk (nt _ (by rw [kPtrE]; decide))) hs (np _ (by rw [kPtrE]; decide)), R_row hE hs (np _ (by rw [kEntE]; decide)), (h.files.row hk (nt _ (by decide))).row hs (np _ (by decide))⟩
/-! ### errors -/
/-- The numbers of the errors that the disk answers. -/
def dErr (c : Int) : Prop := c = 1 ∨ c = 4 ∨ c = 5 ∨ c = 6 ∨ c = 7 ∨ c = 8 ∨ c = 11
structure ErrAt (B : Nat) (w : World) (E : Int → Addr) : Prop where
  errs : Errs dErr w E
  lo : ∀ c, dErr c → gOf c < B ∧ (E c).block < B
theorem ErrAt.turn {E : Int → Addr} (h : ErrAt B w E) (ht : Turn B w w') : ErrAt B w' E := by
  refine ⟨⟨fun c hc => ?_, fun c hc => ?_, h.errs.ne⟩, h.lo⟩
  · have hv := h.errs.var c hc
    have hl := World.block_lt_of_cell? w _ hv
    rw [World.cell?_of_block (w := w) (ht.low _ (h.lo c hc).1 hl)]
    exact hv
  · obtain ⟨cs, t, hr⟩ := h.errs.row c hc
    exact ⟨cs, t, by rw [ht.low _ (h.lo c hc).2 (blk_lt hr)]; exact hr⟩
end Go.Proofs.YtpcfnkmljchiiaaDoor.DAt
