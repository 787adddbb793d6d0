/- Steps towards RBoth: DCrb. -/
import Derived.Test.YtpcfnkmljchiiaaGreatDoorZ12
set_option linter.unusedVariables false
set_option linter.unusedSimpArgs false
/- Disk.Crash: what its loops stand on. -/
namespace Go.Proofs.YtpcfnkmljchiiaaGreatDoor.DCrb
open Go Go.RowKit Go.Maps Go.WideMaps Go.Proofs.YtpcfnkmljchiiaaGreatDoorW.PrintWords Go.Proofs.YtpcfnkmljchiiaaGreatDoorW.PrintLast Go.Proofs.YtpcfnkmljchiiaaGreatDoorW.PrintMore DBase DPl DAt DEnt DNam Go.Proofs.YtpcfnkmljchiiaaGreatDoor.Is DFil DUsd DChg DCg DStp DCh2 DOps DShc DCra DSwp DBy
section
variable {P : Program} {ops : Array Oper} {Q : Exit → Act → World → Prop}
/-- A call of a closure, in a region that draws its order. -/
theorem goesV_ {oi : Oper} {N : Option Tmp} {a : Act} {w : World} {K : Act → World → Prop} {f : FuncId} {fn : Func} {ars : Array Operand} {ts : Array TypeId} (hf : P.funcs[f]? = some fn) (hname : (fn.name == "runtime.NumGoroutine") = false) (hb : fn.body.isSome = true) (cl : Operand) (first cap args : Array Value)
    (hw : Region.wanted oi (yielded ops a.tmps) = true) (hN : oi.dst = N) (hop : oi.op = .call { callee := .value cl, args := ars, argTypes := ts }) (hcl : a.eval cl = .func (.func f) first cap) (hargs : first ++ ars.map a.eval ++ cap = args)
    (h : Calls P f args w fun e w' => ∃ v, e = .returned v ∧ K (a.put N v) w') : if Region.wanted oi (yielded ops a.tmps) = true then Oper.wp P oi a w K Q else K (a.put N undef) w := by
  refine call_ f args hw hN ?_ h
  have he := enters_ hf hname hb args w
  unfold execOp
  simp [hop, resolve, hcl, Deferred.ofValue, invoke, hargs, he]
end
/-- 'x[:m]' of whatever row. -/
theorem cut_row (t e : TypeId) (ht : Tryz.prog.underlying t = some (.slice e)) (hi : ∃ i, Tryz.prog.info? e = some i) (A : Option Addr) (n c : Nat) (m : Nat) (hm : m ≤ c) (W : World) : (Instr.slice t (.slice A n c) none (some (.int .i64 (m : Int))) none).run Tryz.prog W = .ok (.slice A m c) W := by
  obtain ⟨i, hi⟩ := hi
  have hel : Tryz.prog.elem t = e := by simp [Program.elem, ht]
  have hu : Tryz.prog.underlying t = some (.slice (Tryz.prog.elem t)) := by rw [hel]; exact ht
  rw [run_slice_h W t A n c hu .i64 (m : Int) (Int.natCast_nonneg _) (by omega), hel]
  cases A with
  | none => simp [sizeOf, typeInfo, hi, sliced, Result.andThen]
  | some a => simp [sizeOf, typeInfo, hi, sliced, Result.andThen, addr_zero]
/-- An entry's cells in its row. -/
theorem ent_at {B : Nat} {W : World} {v : Value} {l : List Ent} (h : EntsAt B W v l) (i : Nat) (e : Ent) (hi : l[i]? = some e) :
    ∃ g cp, v = .slice (some ⟨g, 0, none⟩) l.length cp ∧ l.length ≤ cp ∧ W.cell? ⟨g, i * 3, none⟩ = some (.string e.name) ∧ W.cell? ⟨g, i * 3 + 1, none⟩ = some (.string e.gone) ∧ W.cell? ⟨g, i * 3 + 2, none⟩ = some (.int .i64 e.file) := by
  obtain ⟨hl, hx⟩ := List.getElem?_eq_some_iff.1 hi
  obtain ⟨inner, ho⟩ := Kd.R_own h
  obtain ⟨A, cp, e0, hcp, hC⟩ := Kd.R_reads h
  obtain ⟨g, cp2, e2, _, _⟩ := World.ownsRow.form ho (by omega)
  rw [e0] at e2
  obtain ⟨ad, c, ea, hlen, hK, hcell⟩ := Kd.C_get hC e (i : Int) (by omega) (by omega)
  simp only [Value.slice.injEq, Option.some.injEq] at e2
  obtain ⟨rfl, _, rfl⟩ := e2
  obtain rfl := Option.some.inj ea
  obtain ⟨c0, c1, rfl, h0, d0, d1, rfl, h1, h2⟩ := hK
  have eg : l.getD i e = e := by rw [List.getD_eq_getElem?_getD, hi]; rfl
  simp only [Int.toNat_natCast, eg] at h0 h1 h2
  have k0 : c0 = [.string e.name] := h0
  have k1 : d0 = [.string e.gone] := h1
  have k2 : d1 = [.int .i64 e.file] := h2
  subst k0
  subst k1
  subst k2
  have q0 := hcell 0 _ rfl
  have q1 := hcell 1 _ rfl
  have q2 := hcell 2 _ rfl
  have es : kEnt.sz = 3 := rfl
  rw [es, Int.toNat_natCast, add_plain] at q0 q1 q2
  exact ⟨g, cp, e0, hcp, by simpa using q0, q1, q2⟩
/-- A step's cells in its row; its bytes. -/
theorem chg_at {B : Bx} {W : World} {v : Value} {l : List Chg} (h : ChgsAt B W v l) (i : Nat) (c : Chg) (hi : l[i]? = some c) :
    ∃ g cp A cb, v = .slice (some ⟨g, 0, none⟩) l.length cp ∧ l.length ≤ cp ∧ W.cell? ⟨g, i * 3, none⟩ = some (.int .i64 (c.pos : Int)) ∧ W.cell? ⟨g, i * 3 + 1, none⟩ = some (.slice A c.b.length cb) ∧ W.cell? ⟨g, i * 3 + 2, none⟩ = some (.bool c.cut) ∧ BytesAt B W (.slice A c.b.length cb) c.b := by
  obtain ⟨hl, hx⟩ := List.getElem?_eq_some_iff.1 hi
  obtain ⟨A, cp, e0, hcp, _⟩ := Kd.R_reads h
  obtain ⟨h0, inner, ho, hrp⟩ := h
  obtain ⟨g, cp2, e2, _, _⟩ := World.ownsRow.form ho (by omega)
  have hm := hrp.2 i c hi
  obtain ⟨c0, c1, ec, h1, d0, d1, ed, h2, h3⟩ := hm
  obtain ⟨bv, eb, hR⟩ := h2
  have k0 : c0 = [.int .i64 (c.pos : Int)] := h1
  have k2 : d1 = [.bool c.cut] := h3
  obtain ⟨Ab, cb, ebv⟩ := Kd.R_slice hR
  subst ebv
  subst k0
  subst k2
  subst eb
  subst ed
  have es : kChg.sz = 3 := rfl
  have hcells := World.ownsRow.cells ho (g := g) (by rw [e2]; rfl)
  have at_ : ∀ j u, j < 3 → ([Value.int .i64 (c.pos : Int)] ++ ([Value.slice Ab c.b.length cb] ++ [Value.bool c.cut]))[j]? = some u → W.cell? ⟨g, i * 3 + j, none⟩ = some u := fun j u hj hu => by
    have h7 : inner[i * 3 + j]? = some u := by
      rw [← ec, es] at hu
      rw [List.getElem?_take, List.getElem?_drop] at hu
      rw [if_pos hj] at hu
      exact hu
    have := hcells (i * 3 + j) u h7
    rwa [add_plain] at this
  exact ⟨g, cp2, Ab, cb, e2, by rw [e0] at e2; simp only [Value.slice.injEq] at e2; omega, by simpa using at_ 0 _ (by omega) rfl, at_ 1 _ (by omega) rfl, at_ 2 _ (by omega) rfl, Kd.R_mono hR (fun _ hk => hk.1)⟩
theorem set_same {L : List (Nat × Value)} {i : Nat} {x : Nat × Value} (hx : L[i]? = some x) : L.set i (x.1, x.2) = L := by
  apply List.ext_getElem?
  intro j
  rw [List.getElem?_set]
  by_cases hj : i = j
  · subst hj; rw [if_pos rfl, hx, if_pos (List.getElem?_eq_some_iff.1 hx).1]
  · rw [if_neg hj]
end Go.Proofs.YtpcfnkmljchiiaaGreatDoor.DCrb
namespace Go.Proofs.YtpcfnkmljchiiaaGreatDoor.DAt
open Go Go.RowKit Go.Maps Go.Proofs.YtpcfnkmljchiiaaGreatDoorW.PrintWords DPl DCrb DCg
variable {B : Bx} {p : Nat} {D : Dsk} {L : List (Nat × Value)} {m1 m2 : Nat} {fv ov : Value} {w w1 : World}
/-- A block has turned that is of another kind. -/
theorem Lies.foreign (h : Lies B w p D L m1 m2 fv ov) {g : Nat} {cs : Array Value} {t : Nat} {m : Nat × Nat} (hg : w.heap[g]? = some (.cells cs t m)) (ht : dkT t = false) (h5 : t ≠ 5) (hk : But w w1 (some g)) : Lies B w1 p D L m1 m2 fv ov := by
  have nt : ∀ qs : List Nat, (∀ q ∈ qs, q ≠ t) → Not w (some g) qs := fun qs hq => Not.cells (t := t) (fun g' hg' => by obtain rfl := Option.some.inj hg'; exact ⟨_, _, hg⟩) hq
  have np : ∀ q, dkT q = true → q ≠ t := fun q hq e => by rw [e, ht] at hq; cases hq
  have ng : some p ≠ some g := fun e => by
    obtain rfl := Option.some.inj e
    rw [h.obj] at hg
    cases hg
    exact absurd ht (by decide)
  have nm : ∀ {m : Nat} {N : Nms}, NamesAt w m N → some m ≠ some g := fun hm e => by
    obtain rfl := Option.some.inj e
    obtain ⟨es, cl, h1⟩ := hm.obj
    rw [hg] at h1
    cases h1
  refine ⟨hk.obj h.obj ng, h.lop, h.lo1, h.lo2, h.ne, h.now.same (hk.2 _ h.now.lt (nm h.now)), h.sure.same (hk.2 _ h.sure.lt (nm h.sure)), R_row h.ptrs hk (nt _ (fun q hq => ?_)), R_row h.opn hk (nt _ (fun q hq => ?_)), h.files.row hk (nt _ (fun q hq => ?_)), Nat.lt_of_lt_of_le h.lt hk.1⟩
  · rw [kPtrE] at hq
    obtain rfl := List.mem_singleton.1 hq
    exact np _ (by decide)
  · rw [kEntE] at hq
    obtain rfl := List.mem_singleton.1 hq
    exact np _ (by decide)
  · simp only [List.mem_cons, List.not_mem_nil, or_false] at hq
    rcases hq with rfl | rfl | rfl
    · exact h5.symm
    · exact np _ (by decide)
    · exact np _ (by decide)
/-- A file's sure bytes have been laid anew. -/
theorem Lies.setSure (h : Lies B w p D L m1 m2 fv ov) (i : Nat) (x : Nat × Value) (f : Fil) (hx : L[i]? = some x) (hf : D.files[i]? = some f) (hb : Below w.heap.size w w1) {v : Value} {l : List Int} (hv : BytesAt B w1 v l) :
    Lies B (w1.setCell ⟨x.1, 1, none⟩ v) p { D with files := D.files.set i { f with sure := l } } L m1 m2 fv ov := by
  have h1 := h.below hb
  obtain ⟨⟨nv, sv, ho, hn, hs⟩, lo, hop⟩ := h1.files.each i x f hx hf
  have k1 := But.setCell w1 ⟨x.1, 1, none⟩ v
  have nx : ∀ qs : List Nat, tF ∉ qs → Not w1 (some x.1) qs := fun qs hq => Not.cells (t := tF) (fun g hg => by obtain rfl := Option.some.inj hg; exact ⟨_, _, ho⟩) (fun q hq2 e => hq (e ▸ hq2))
  have := h1.file i x f hx hf k1.1 (fun j hj h2 h3 => k1.2 j hj (fun e => h2 (Option.some.inj e))) x.2 { f with sure := l } ⟨⟨_, _, blk_put ho 1 v rfl, BytesAt.but hn k1 (nx _ (by decide)), BytesAt.but hv k1 (nx _ (by decide))⟩, lo, R_row hop k1 (nx _ (by rw [chgE]; decide))⟩ (.inr (.inl rfl))
  rwa [set_same hx] at this
/-- A file's steps are forgotten, its bytes are the sure ones. -/
theorem Lies.setDone (h : Lies B w p D L m1 m2 fv ov) (i : Nat) (x : Nat × Value) (f : Fil) (hx : L[i]? = some x) (hf : D.files[i]? = some f) {v : Value} (hv : w.cell? ⟨x.1, 1, none⟩ = some v) :
    Lies B ((w.setCell ⟨x.1, 0, none⟩ v).setCell ⟨x.1, 2, none⟩ (.slice none 0 0)) p { D with files := D.files.set i ⟨f.sure, f.sure, []⟩ } (L.set i (x.1, .slice none 0 0)) m1 m2 fv ov ∧ Turn B w ((w.setCell ⟨x.1, 0, none⟩ v).setCell ⟨x.1, 2, none⟩ (.slice none 0 0)) := by
  obtain ⟨⟨nv, sv, ho, hn, hs⟩, lo, hop⟩ := h.files.each i x f hx hf
  have ev : v = sv := Option.some.inj (hv.symm.trans ((blk_cell ho 1).trans rfl))
  subst ev
  have o1 := blk_put ho 0 v rfl
  have k1 := (But.setCell w ⟨x.1, 0, none⟩ v).trans (But.setCell (w.setCell ⟨x.1, 0, none⟩ v) ⟨x.1, 2, none⟩ (.slice none 0 0))
  have nx : ∀ qs : List Nat, tF ∉ qs → Not w (some x.1) qs := fun qs hq => Not.cells (t := tF) (fun g hg => by obtain rfl := Option.some.inj hg; exact ⟨_, _, ho⟩) (fun q hq2 e => hq (e ▸ hq2))
  have b1 := BytesAt.but hs k1 (nx _ (by decide))
  exact ⟨h.file i x f hx hf k1.1 (fun j hj h2 h3 => k1.2 j hj (fun e => h2 (Option.some.inj e))) (.slice none 0 0) ⟨f.sure, f.sure, []⟩ ⟨⟨_, _, blk_put o1 2 (.slice none 0 0) rfl, b1, b1⟩, lo, Kd.R_nil _ _ _ _ _⟩ (.inl rfl), ((Turn.refl B w).setCell ho rfl lo 0 _).setCell o1 rfl lo 2 _⟩
end Go.Proofs.YtpcfnkmljchiiaaGreatDoor.DAt
