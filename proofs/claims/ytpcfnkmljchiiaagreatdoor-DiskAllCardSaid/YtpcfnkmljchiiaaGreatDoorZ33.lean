/- Steps towards RDiskAll: DRlm. -/
import Derived.Test.YtpcfnkmljchiiaaGreatDoorZ32
set_option linter.unusedVariables false
set_option linter.unusedSimpArgs false
/- The document's disk: what becomes of it where single blocks turn. -/
namespace Go.Proofs.YtpcfnkmljchiiaaGreatDoor.DRlm
open Go Go.RowKit Go.Maps Go.Proofs.YtpcfnkmljchiiaaGreatDoorW.PrintWords Go.Proofs.YtpcfnkmljchiiaaGreatDoorW.PrintLast DPl DAt DRn DRd DRl DRt DRdp DRnw DRak
abbrev tRD : Nat := 47
abbrev tRF : Nat := 51
abbrev tRS : Nat := 147
abbrev tRP : Nat := 48
theorem kStpE : kStp.E = [] := rfl
theorem kEntE : kEnt.E = [] := rfl
theorem kPtrE : kPtr.E = [] := rfl
theorem kStrE : Kd.string.E = [] := rfl
theorem kIntE : (Kd.int .i64).E = [] := rfl
variable {B p : Nat} {D : Dsk} {L : List (Nat × Value)} {fv nv iv ov : Value} {w w' w1 w2 : World}
theorem _root_.Go.Proofs.YtpcfnkmljchiiaaGreatDoor.DRd.RTurn.own {e : TypeId} {size n : Nat} {v : Value} {xs : List Value} {a : World} (h : RTurn B a w) (ho : w.ownsRow B e size v n xs) (ht : rkT e = true) (hg : w.grownBy w' v.ownBlock) : RTurn B a w' := by
  refine h.trans ⟨hg.os, hg.tape, hg.output, hg.size, fun k h1 h2 => hg.block k h2 (fun e => ?_), fun k o hko hd => (hg.block k (blk_lt hko) (fun e => ?_)).trans hko⟩
  · have := own_base ho k e.symm
    omega
  · obtain ⟨cs, hc⟩ := own_typed ho k e.symm
    rw [hko] at hc
    obtain rfl := Option.some.inj hc
    exact absurd hd (by simp [rk, ht])
theorem _root_.Go.Proofs.YtpcfnkmljchiiaaGreatDoor.DRd.RTurn.below {a : World} (h : RTurn B a w) (hb : Below w.heap.size w w') : RTurn B a w' := h.trans (RTurn.of_below hb)
/-- A block that is none of the disk's kinds but lies in new memory. -/
theorem _root_.Go.Proofs.YtpcfnkmljchiiaaGreatDoor.DRd.RTurn.setNew {a : World} (h : RTurn B a w) {g : Nat} (hg : a.heap.size ≤ g) (i : Nat) (u : Value) : RTurn B a (w.setCell ⟨g, i, none⟩ u) := by
  have hk : ∀ k, k ≠ g → (w.setCell ⟨g, i, none⟩ u).heap[k]? = w.heap[k]? := fun k hk => Below.heap_setCell w ⟨g, i, none⟩ u k hk
  refine ⟨h.os, h.tape, h.output, by simpa [World.setCell] using h.size, fun k h1 h2 => (hk k (by omega)).trans (h.low k h1 h2), fun k o ho hd => ?_⟩
  have hl := blk_lt ho
  exact (hk k (by omega)).trans (h.kind k o ho hd)
theorem RFilesAt.row {fs : List Fil} (h : RFilesAt B w L fs) {row : Option Nat} (hk : But w w' row) (hn : Not w row [tRF, tRS]) : RFilesAt B w' L fs := by
  refine ⟨h.len, fun i x f hx hf => ?_, h.lo, h.far⟩
  have h1 := h.each i x f hx hf
  refine ⟨hk.obj h1.obj (fun e => ?_), R_row h1.opn hk (fun g hg => ?_)⟩
  · obtain ⟨o, h2, h3⟩ := hn x.1 e.symm
    rw [h1.obj] at h2
    exact h3 tRF (by simp) _ (Option.some.inj h2).symm
  · obtain ⟨o, h2, h3⟩ := hn g hg
    exact ⟨o, h2, fun q hq => h3 q (by rw [kStpE] at hq; simp at hq ⊢; right; exact hq)⟩
theorem notp (h : RLies B w p D L fv nv iv ov) (qs : List Nat) (hq : tRD ∉ qs) : Not w (some p) qs :=
  Not.cells (t := tRD) (fun g hg => by obtain rfl := Option.some.inj hg; exact ⟨_, _, h.obj⟩) (fun q hq2 e => hq (e ▸ hq2))
/-- The struct's own numbers have turned. -/
theorem reobj (h : RLies B w p D L fv nv iv ov) (q ar : Int) (off : Bool) (st : Int) (ho : w'.heap[p]? = some (rdO fv nv iv ov q ar off st)) (hk : But w w' (some p)) :
    RLies B w' p { D with quota := q, armed := ar, off := off, steps := st } L fv nv iv ov :=
  ⟨ho, h.lop, R_row h.names hk (notp h _ (by decide)), R_row h.nums hk (notp h _ (by decide)), R_row h.ptrs hk (notp h _ (by decide)), R_row h.opn hk (notp h _ (by decide)), RFilesAt.row h.files hk (notp h _ (by decide))⟩
theorem same (h : RLies B w p D L fv nv iv ov) (hb : Below w.heap.size w w') : RLies B w' p D L fv nv iv ov := by
  have hk : But w w' none := But.of_below hb
  have hn : ∀ qs, Not w none qs := fun qs g hg => by cases hg
  exact ⟨hk.obj h.obj (by simp), h.lop, R_row h.names hk (hn _), R_row h.nums hk (hn _), R_row h.ptrs hk (hn _), R_row h.opn hk (hn _), RFilesAt.row h.files hk (hn _)⟩
/-- The row of names' steps has been appended to, and laid into the struct. -/
theorem reopn (h : RLies B w p D L fv nv iv ov) {v1 : Value} {es : List Ent} (hE : REntsAt B w1 v1 es) (hg : w.grownBy w1 ov.ownBlock) : RLies B (w1.setCell ⟨p, 3, none⟩ v1) p { D with opn := es } L fv nv iv v1 ∧ RTurn B w (w1.setCell ⟨p, 3, none⟩ v1) := by
  have hk := But.grown hg
  obtain ⟨inner, ho⟩ := own_of h.opn
  have nt : ∀ qs : List Nat, tE ∉ qs → Not w ov.ownBlock qs := fun qs hq => Not.own ho (fun q hq2 e => by subst e; exact hq hq2)
  have op1 : some p ≠ ov.ownBlock := fun e => by
    obtain ⟨cs, hc⟩ := own_typed ho p e.symm
    rw [h.obj] at hc
    cases hc
  have obj1 := hk.obj h.obj op1
  have hs := But.setCell w1 ⟨p, 3, none⟩ v1
  have np : ∀ qs : List Nat, tRD ∉ qs → Not w1 (some p) qs := fun qs hq => Not.cells (t := tRD) (fun g hg => by obtain rfl := Option.some.inj hg; exact ⟨_, _, obj1⟩) (fun q hq2 e => hq (e ▸ hq2))
  refine ⟨⟨blk_set obj1 3 v1, h.lop, R_row (R_row h.names hk (nt _ (by decide))) hs (np _ (by decide)), R_row (R_row h.nums hk (nt _ (by decide))) hs (np _ (by decide)), R_row (R_row h.ptrs hk (nt _ (by decide))) hs (np _ (by decide)), R_row hE hs (np _ (by decide)), RFilesAt.row (RFilesAt.row h.files hk (nt _ (by decide))) hs (np _ (by decide))⟩, ?_⟩
  exact ((RTurn.refl B w).own ho rfl hg).setCell obj1 rfl h.lop 3 v1
/-- The names are sure. -/
theorem resure (h : RLies B w p D L fv nv iv ov) {n2 i2 : Value} {N : Nms} (hN : NmsAt B w n2 i2 N) : RLies B (((w.setCell ⟨p, 1, none⟩ n2).setCell ⟨p, 2, none⟩ i2).setCell ⟨p, 3, none⟩ (.slice none 0 0)) p { D with sure := N, opn := [] } L fv n2 i2 (.slice none 0 0) ∧ RTurn B w (((w.setCell ⟨p, 1, none⟩ n2).setCell ⟨p, 2, none⟩ i2).setCell ⟨p, 3, none⟩ (.slice none 0 0)) := by
  have o1 := blk_put h.obj 1 n2 rfl
  have o2 := blk_put o1 2 i2 rfl
  have o3 := blk_put o2 3 (Value.slice none 0 0) rfl
  have hk := ((But.setCell w ⟨p, 1, none⟩ n2).trans (But.setCell (w.setCell ⟨p, 1, none⟩ n2) ⟨p, 2, none⟩ i2)).trans (But.setCell ((w.setCell ⟨p, 1, none⟩ n2).setCell ⟨p, 2, none⟩ i2) ⟨p, 3, none⟩ (.slice none 0 0))
  exact ⟨⟨o3, h.lop, R_row hN.rn hk (notp h _ (by decide)), R_row hN.ri hk (notp h _ (by decide)), R_row h.ptrs hk (notp h _ (by decide)), Kd.R_nil _ _ _ _ _, RFilesAt.row h.files hk (notp h _ (by decide))⟩, (((RTurn.refl B w).setCell h.obj rfl h.lop 1 n2).setCell o1 rfl h.lop 2 i2).setCell o2 rfl h.lop 3 _⟩
theorem set_fst {L : List (Nat × Value)} {i : Nat} {x : Nat × Value} (hx : L[i]? = some x) (rv : Value) : (L.set i (x.1, rv)).map Prod.fst = L.map Prod.fst := by
  have hil : i < L.length := (List.getElem?_eq_some_iff.1 hx).1
  apply List.ext_getElem?
  intro j
  rw [List.getElem?_map, List.getElem?_map, List.getElem?_set]
  by_cases hj : i = j
  · subst hj
    rw [if_pos rfl, if_pos hil, hx]
    rfl
  · rw [if_neg hj]
/-- One file's own blocks have turned. -/
theorem refile (h : RLies B w p D L fv nv iv ov) (i : Nat) (x : Nat × Value) (f : Fil) (hx : L[i]? = some x) (hf : D.files[i]? = some f) (hs : w.heap.size ≤ w'.heap.size) (hk : ∀ k, k < w.heap.size → k ≠ x.1 → x.2.ownBlock ≠ some k → w'.heap[k]? = w.heap[k]?)
    (rv : Value) (f' : Fil) (hF : RFileAt B w' x.1 rv f') (hr : rv.ownBlock = none ∨ rv.ownBlock = x.2.ownBlock ∨ ∃ b, rv.ownBlock = some b ∧ w.heap.size ≤ b) : RLies B w' p { D with files := D.files.set i f' } (L.set i (x.1, rv)) fv nv iv ov := by
  have hxf := h.files.each i x f hx hf
  obtain ⟨ho, hxo⟩ := hxf
  obtain ⟨inner, how⟩ := own_of hxo
  have typed : ∀ (k : Nat) (o : Obj), w.heap[k]? = some o → (∀ cs, o ≠ .cells cs tRF (0, 0)) → (∀ cs, o ≠ .cells cs tRS (0, 0)) → w'.heap[k]? = w.heap[k]? := fun k o hko h1 h2 => by
    refine hk k (blk_lt hko) (fun e => ?_) (fun e => ?_)
    · subst e
      rw [ho] at hko
      exact h1 _ (Option.some.inj hko).symm
    · obtain ⟨cs, hc⟩ := own_typed how k e
      rw [hc] at hko
      exact h2 _ (Option.some.inj hko).symm
  have tq : ∀ (k q : Nat) (cells : Array Value), q ≠ tRF → q ≠ tRS → w.heap[k]? = some (Obj.cells cells q (0, 0)) → w'.heap[k]? = w.heap[k]? := fun k q cells h1 h2 hc => typed k _ hc (fun _ e => by injection e with _ e _; exact h1 e) (fun _ e => by injection e with _ e _; exact h2 e)
  have hil : i < L.length := (List.getElem?_eq_some_iff.1 hx).1
  have hifl : i < D.files.length := (List.getElem?_eq_some_iff.1 hf).1
  refine ⟨(typed _ _ h.obj (fun _ e => by cases e) (fun _ e => by cases e)).trans h.obj, h.lop, R_own2 h.names (fun k q cells hq hc => tq k q cells ?_ ?_ hc), R_own2 h.nums (fun k q cells hq hc => tq k q cells ?_ ?_ hc), ?_, R_own2 h.opn (fun k q cells hq hc => tq k q cells ?_ ?_ hc), ⟨?_, ?_, ?_, ?_⟩⟩
  · rw [kStrE] at hq; obtain rfl := List.mem_singleton.1 hq; decide
  · rw [kStrE] at hq; obtain rfl := List.mem_singleton.1 hq; decide
  · rw [kIntE] at hq; obtain rfl := List.mem_singleton.1 hq; decide
  · rw [kIntE] at hq; obtain rfl := List.mem_singleton.1 hq; decide
  · rw [set_fst hx]
    exact R_own2 h.ptrs (fun k q cells hq hc => tq k q cells (by rw [kPtrE] at hq; obtain rfl := List.mem_singleton.1 hq; decide) (by rw [kPtrE] at hq; obtain rfl := List.mem_singleton.1 hq; decide) hc)
  · rw [kEntE] at hq; obtain rfl := List.mem_singleton.1 hq; decide
  · rw [kEntE] at hq; obtain rfl := List.mem_singleton.1 hq; decide
  · simp [h.files.len]
  · intro j y g hy hg
    simp only [List.getElem?_set] at hy hg
    by_cases hj : i = j
    · subst hj
      rw [if_pos rfl, if_pos hil] at hy
      rw [if_pos rfl, if_pos hifl] at hg
      obtain rfl := Option.some.inj hy
      obtain rfl := Option.some.inj hg
      exact hF
    · rw [if_neg hj] at hy hg
      have hfar := h.files.far j i y x hy hx (fun e => hj e.symm)
      obtain ⟨ho2, hop2⟩ := h.files.each j y g hy hg
      obtain ⟨inner2, how2⟩ := own_of hop2
      refine ⟨(hk _ (blk_lt ho2) hfar.1 (fun e => ?_)).trans ho2, ?_⟩
      · obtain ⟨cs, hc⟩ := own_typed how _ e
        rw [hc] at ho2
        cases ho2
      · obtain ⟨h0, inner3, how3, hrp⟩ := hop2
        refine ⟨h0, inner3, own_move how3 (fun k hk2 => hk k (own_lt how3 k hk2) (fun e => ?_) (fun e => ?_)), hrp⟩
        · obtain ⟨cs, hc⟩ := own_typed how3 _ hk2
          subst e
          rw [ho] at hc
          cases hc
        · rcases hfar.2 with h2 | h2
          · rw [h2] at hk2; cases hk2
          · exact h2 (hk2.trans e.symm)
  · intro y hy
    obtain ⟨j, hj⟩ := List.mem_iff_getElem?.1 hy
    rw [List.getElem?_set] at hj
    by_cases e : i = j
    · subst e
      rw [if_pos rfl, if_pos hil] at hj
      obtain rfl := Option.some.inj hj
      exact h.files.lo x (List.mem_of_getElem? hx)
    · rw [if_neg e] at hj
      exact h.files.lo y (List.mem_of_getElem? hj)
  · intro j l y z hy hz hjl
    have sub : ∀ (j : Nat) (y : Nat × Value), (L.set i (x.1, rv))[j]? = some y → ∃ y0, L[j]? = some y0 ∧ y0.1 = y.1 ∧ (j ≠ i → y0 = y) ∧ (j = i → y.2 = rv) := fun j y hy => by
      simp only [List.getElem?_set] at hy
      by_cases hj : i = j
      · subst hj
        rw [if_pos rfl, if_pos hil] at hy
        obtain rfl := Option.some.inj hy
        exact ⟨x, hx, rfl, fun e => absurd rfl e, fun _ => rfl⟩
      · rw [if_neg hj] at hy
        exact ⟨y, hy, rfl, fun _ => rfl, fun e => absurd e.symm hj⟩
    obtain ⟨y0, a1, a2, a3, a4⟩ := sub j y hy
    obtain ⟨z0, b1, b2, b3, b4⟩ := sub l z hz
    have f0 := h.files.far j l y0 z0 a1 b1 hjl
    refine ⟨by rw [← a2, ← b2]; exact f0.1, ?_⟩
    have old : ∀ (j : Nat) (y : Nat × Value), L[j]? = some y → ∀ b, y.2.ownBlock = some b → b < w.heap.size := fun j y hj b hb => by
      have hjl := (List.getElem?_eq_some_iff.1 hj).1
      have hjf : j < D.files.length := by have := h.files.len; omega
      obtain ⟨inner2, how2⟩ := own_of (h.files.each j y D.files[j] hj (List.getElem?_eq_getElem hjf)).opn
      exact own_lt how2 b hb
    by_cases e1 : j = i
    · have e2 : l ≠ i := fun e => hjl (e1.trans e.symm)
      obtain rfl := b3 e2
      have ey := a4 e1
      subst e1
      obtain rfl : x = y0 := Option.some.inj (hx.symm.trans a1)
      rw [ey]
      rcases hr with hr | hr | ⟨b, hr, hb⟩
      · exact .inl hr
      · rw [hr]; exact f0.2
      · right
        rw [hr]
        intro e
        have := old l _ b1 b e.symm
        omega
    · obtain rfl := a3 e1
      by_cases e2 : l = i
      · have ez := b4 e2
        subst e2
        obtain rfl : x = z0 := Option.some.inj (hx.symm.trans b1)
        rw [ez]
        rcases hr with hr | hr | ⟨b, hr, hb⟩
        · rw [hr]
          cases hh : y0.2.ownBlock with
          | none => exact .inl rfl
          | some b => exact .inr (by simp)
        · rw [hr]; exact f0.2
        · cases hh : y0.2.ownBlock with
          | none => exact .inl rfl
          | some c =>
            right
            rw [hr]
            intro e
            have := old j _ a1 c hh
            have : c = b := Option.some.inj e
            omega
      · obtain rfl := b3 e2
        exact f0.2
end Go.Proofs.YtpcfnkmljchiiaaGreatDoor.DRlm
