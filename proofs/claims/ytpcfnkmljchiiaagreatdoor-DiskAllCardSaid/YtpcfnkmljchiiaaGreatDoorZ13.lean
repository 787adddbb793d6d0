/- Steps towards RDiskAll: DSwp, DCrb. -/
import Derived.Test.YtpcfnkmljchiiaaGreatDoorZ12
set_option linter.unusedVariables false
set_option linter.unusedSimpArgs false
section
/- Disk.sweep. -/
namespace Go.Proofs.YtpcfnkmljchiiaaGreatDoor.DSwp
open Go Go.RowKit Go.Maps Go.WideMaps Go.Proofs.YtpcfnkmljchiiaaGreatDoorW.PrintWords Go.Proofs.YtpcfnkmljchiiaaGreatDoorW.PrintLast DBase DPl DAt DEnt DNam Go.Proofs.YtpcfnkmljchiiaaGreatDoor.Is DFil DUsd DCg DStp DOps DShc DCra
def swept (N : Nms) (i : Nat) (f : Fil) : Fil := if N.any (fun p => p.2 == (i : Int)) then f else ⟨[], [], f.opn⟩
/-- The first k files have been looked at. -/
def upTo (fs : List Fil) (N : Nms) (k : Nat) : List Fil := fs.mapIdx fun i f => if i < k then swept N i f else f
theorem upTo_zero (fs : List Fil) (N : Nms) : upTo fs N 0 = fs := by
  apply List.ext_getElem?
  intro j
  simp [upTo]
theorem upTo_all (fs : List Fil) (N : Nms) : upTo fs N fs.length = sweepFs fs N := by
  apply List.ext_getElem?
  intro j
  simp only [upTo, sweepFs, List.getElem?_mapIdx]
  cases hj : fs[j]? with
  | none => rfl
  | some f =>
    have := (List.getElem?_eq_some_iff.1 hj).1
    simp [this, swept]
theorem upTo_len (fs : List Fil) (N : Nms) (k : Nat) : (upTo fs N k).length = fs.length := by simp [upTo]
theorem upTo_at (fs : List Fil) (N : Nms) (k : Nat) (f : Fil) (h : fs[k]? = some f) : (upTo fs N k)[k]? = some f := by
  simp [upTo, List.getElem?_mapIdx, h]
theorem upTo_step (fs : List Fil) (N : Nms) (k : Nat) (f : Fil) (h : fs[k]? = some f) : (upTo fs N k).set k (swept N k f) = upTo fs N (k + 1) := by
  apply List.ext_getElem?
  intro j
  have hk := (List.getElem?_eq_some_iff.1 h).1
  simp only [upTo, List.getElem?_set, List.getElem?_mapIdx, List.length_mapIdx]
  by_cases hj : k = j
  · subst hj
    have e : fs[k] = f := (List.getElem?_eq_some_iff.1 h).2
    simp [hk, e]
  · rw [if_neg hj]
    cases hf : fs[j]? with
    | none => rfl
    | some g =>
      simp only [Option.map_some]
      by_cases h1 : j < k
      · rw [if_pos h1, if_pos (by omega)]
      · rw [if_neg h1, if_neg (by omega)]
theorem upTo_keep (fs : List Fil) (N : Nms) (k : Nat) (f : Fil) (h : fs[k]? = some f) (hs : swept N k f = f) : upTo fs N (k + 1) = upTo fs N k := by
  rw [← upTo_step fs N k f h, hs]
  apply List.ext_getElem?
  intro j
  rw [List.getElem?_set]
  by_cases hj : k = j
  · subst hj
    rw [if_pos rfl, upTo_at fs N k f h, if_pos (by rw [upTo_len]; exact (List.getElem?_eq_some_iff.1 h).1)]
  · rw [if_neg hj]
theorem own_turn {B : Nat} {w1 W : World} {base size n : Nat} {t : Nat} {v : Value} {xs : List Value} (h : w1.ownsRow base t size v n xs) (ht : Turn B w1 W) (hd : dkT t = false) : W.ownsRow base t size v n xs :=
  own_move h (fun k hk => by
    obtain ⟨cs, hc⟩ := own_typed h k hk
    rw [ht.kind k _ hc (by simpa [dk] using hd), hc])
theorem any_mem (N : Nms) (xs : List Int) (hx : ∀ i : Int, i ∈ xs ↔ ∃ p ∈ N, p.2 = i) (i : Nat) : decide ((i : Int) ∈ xs) = N.any (fun p => p.2 == (i : Int)) := by
  rw [Bool.eq_iff_iff, decide_eq_true_eq, hx, List.any_eq_true]
  constructor
  · rintro ⟨p, h1, h2⟩; exact ⟨p, h1, by simpa using h2⟩
  · rintro ⟨p, h1, h2⟩; exact ⟨p, h1, by simpa using h2⟩
set_option maxRecDepth 100000 in
set_option maxHeartbeats 8000000 in
theorem sweep_calls (B : Bx) (p : Nat) (D : Dsk) (L : List (Nat × Value)) (m1 m2 : Nat) (fv ov : Value) (w : World) (h : Lies B w p D L m1 m2 fv ov) (hl : D.files.length ≤ 1000000000) (hN : D.now.length ≤ 1000000000) :
    Calls Tryz.prog 68 #[.pointer (some ⟨p, 0, none⟩)] w fun e w' => e = .returned (.tuple #[]) ∧ Lies B w' p { D with files := sweepFs D.files D.now } L m1 m2 fv ov ∧ Turn B w w' := by
  have c1 : w.cell? ⟨p, 1, none⟩ = some (.map (some m1)) := (blk_cell h.obj 1).trans rfl
  have HP := Aside0.mk (blk_lt h.obj)
  have HO := Aside0.mk h
  have HV := Aside0.mk (fun (U : World) => values_calls m1 U)
  have HC := Aside0.mk (fun (U : World) (g : Nat) (hb : Below w.heap.size w U) (hg : g < U.heap.size) (hc : U.cell? ⟨g, 0, none⟩ = some (.map (some m1))) => collect_calls g m1 D.now U hg hc (h.now.below hb) hN)
  obtain ⟨Af, cpf, efv⟩ := Kd.R_slice h.ptrs
  have elen : (L.map Prod.fst).length = D.files.length := by rw [List.length_map, h.files.len]
  rw [elen] at efv
  subst efv
  have c0 : w.cell? ⟨p, 0, none⟩ = some (.slice Af D.files.length cpf) := (blk_cell h.obj 0).trans rfl
  obtain ⟨n, hn⟩ : ∃ n, n = D.files.length := ⟨_, rfl⟩
  rw [← hn] at c0
  have HN := Aside0.mk hn
  have HNl := Aside0.mk hN
  have hnl : (n : Int) ≤ 1000000000 := by omega
  clear h hN hl elen hn
  go_enter Tryz.func68, Tryz.ntmps68
  go_wp2_with (first
    | (go_at_call 113; refine (HV.out _).mono ?_; rintro e w1 ⟨rfl, rfl⟩)
    | (go_at_call 112; refine (HC.out _ w.heap.size ((Below.refl _ _).alloc (Nat.le_refl _) _) (by simp) ((World.cell?_alloc_new _ _ _ _).trans rfl)).mono ?_; rintro e w2 ⟨v, xs, rfl, hxs, hxl, hrow, hb⟩; have HB2 := Aside0.mk (((Below.refl w.heap.size w).alloc (Nat.le_refl _) (.cells #[.map (some m1)] 83)).trans (hb.mono (by simp))); have HXS := Aside0.mk hxs; have HXL := Aside0.mk hxl; obtain ⟨A2, cp2, e2⟩ := own_slice hrow; subst e2; have HRow := Aside0.mk hrow; clear hxs hxl hrow hb; have c0 := (HB2.out.cell (p := ⟨p, 0, none⟩) HP.out).trans c0))
  generalize hxn : xs.length = xn
  have HXn := Aside0.mk hxn
  clear hxn
  go_loopw [16] (fun i wr => ∃ k : Nat, k ≤ n ∧ i = .int .i64 k ∧ Aside0 (Lies B wr p { D with files := upTo D.files D.now k } L m1 m2 (.slice Af D.files.length cpf) ov) ∧ Aside0 (Turn B w2 wr)) (fun i _ => n - (Go.RowKit.intOf i).toNat)
  case atStart => exact ⟨0, by omega, rfl, ⟨by rw [upTo_zero]; exact HO.out.below HB2.out⟩, ⟨Turn.refl B w2⟩⟩
  case round =>
    obtain ⟨k, hk, rfl, HL, HT⟩ := hrel
    by_cases hlt : k < n
    · have t1 : decide (k < n) = true := decide_eq_true hlt
      have hkl : k < D.files.length := by rw [← HN.out]; exact hlt
      obtain ⟨f, hf⟩ : ∃ f, D.files[k]? = some f := ⟨_, List.getElem?_eq_getElem hkl⟩
      have hLl : k < L.length := by have := HL.out.files.len; rw [upTo_len] at this; omega
      obtain ⟨x, hx⟩ : ∃ x, L[k]? = some x := ⟨_, List.getElem?_eq_getElem hLl⟩
      obtain ⟨g, cp, ef, _, hg⟩ := ptr_at HL.out.ptrs k x.1 (by rw [List.getElem?_map, hx]; rfl)
      simp only [Value.slice.injEq] at ef
      obtain ⟨rfl, _, rfl⟩ := ef
      have hfk := upTo_at D.files D.now k f hf
      obtain ⟨nv, sv, ho, hnv, hsv⟩ := (HL.out.files.each k x f hx hfk).ex
      have lo := (HL.out.files.each k x f hx hfk).lo
      have hop := (HL.out.files.each k x f hx hfk).opn
      have u0 : (0 : Int) ≤ (k : Int) := by omega
      have u1 : (k : Int) < (n : Int) := by omega
      have HCon := Aside0.mk (contains_calls A2 cp2 xs (k : Int) wr (by
        obtain ⟨A3, c3, e3, hR⟩ := own_reads (own_turn HRow.out HT.out rfl)
        simp only [Value.slice.injEq] at e3
        obtain ⟨rfl, _, _⟩ := e3
        exact hR) (by rw [HXL.out]; exact HNl.out))
      rw [any_mem D.now xs HXS.out k] at HCon
      obtain ⟨b, hb⟩ : ∃ b, b = D.now.any (fun p => p.2 == (k : Int)) := ⟨_, rfl⟩
      rw [← hb, HXn.out] at HCon
      have e0 : wr.cell? ⟨x.1, 0, none⟩ = some nv := (blk_cell ho 0).trans rfl
      have f0 : wr.frozen? ⟨x.1, 0, none⟩ = false := blk_frozen ho 0
      have o1 := blk_put ho 0 (.slice none 0 0) rfl
      have e1 : (wr.setCell ⟨x.1, 0, none⟩ (.slice none 0 0)).cell? ⟨x.1, 1, none⟩ = some sv := (blk_cell o1 1).trans rfl
      have f1 : (wr.setCell ⟨x.1, 0, none⟩ (.slice none 0 0)).frozen? ⟨x.1, 1, none⟩ = false := blk_frozen o1 1
      have HO1 := Aside0.mk o1
      have HHo := Aside0.mk ho
      have HFK := Aside0.mk hfk
      have HF := Aside0.mk hf
      have HX := Aside0.mk hx
      have HOp := Aside0.mk hop
      have HB := Aside0.mk hb
      clear o1 ho hfk hf hx hop hb hkl hLl hnv hsv
      cases b with
      | true =>
        have HS := Aside0.mk (show swept D.now k f = f from if_pos HB.out.symm)
        go_wp2_with (go_at_call 114; refine HCon.out.mono ?_; rintro e w3 ⟨rfl, rfl⟩)
        go_roundw
        case rel => exact ⟨k + 1, by omega, by go_num, ⟨by rw [upTo_keep D.files D.now k f HF.out HS.out]; exact HL.out⟩, HT⟩
        case measure => simp [Go.RowKit.intOf]; omega
      | false =>
        have HS := Aside0.mk (show swept D.now k f = ⟨[], [], f.opn⟩ from if_neg (by rw [← HB.out]; simp))
        go_wp2_with (go_at_call 114; refine HCon.out.mono ?_; rintro e w3 ⟨rfl, rfl⟩)
        go_roundw
        case rel =>
          have k1 := But.setCell w3 ⟨x.1, 0, none⟩ (.slice none 0 0)
          have k2 := But.setCell (w3.setCell ⟨x.1, 0, none⟩ (.slice none 0 0)) ⟨x.1, 1, none⟩ (.slice none 0 0)
          have nx : Not w3 (some x.1) (tC :: kChg.E) := by
            rw [chgE]
            exact Not.cells (t := tF) (fun g hg => by obtain rfl := Option.some.inj hg; exact ⟨_, _, HHo.out⟩) (by decide)
          have hL2 := HL.out.file k x f HX.out HFK.out (Nat.le_trans k1.1 k2.1) (fun j hj h1 h2 => (k1.trans k2).2 j hj (fun e => h1 (Option.some.inj e))) x.2 ⟨[], [], f.opn⟩ ⟨⟨_, _, blk_put HO1.out 1 (.slice none 0 0) rfl, Kd.R_nil _ _ _ _ _, Kd.R_nil _ _ _ _ _⟩, lo, R_row HOp.out (k1.trans k2) nx⟩ (.inr (.inl rfl))
          have eL : L.set k (x.1, x.2) = L := by
            apply List.ext_getElem?
            intro j
            rw [List.getElem?_set]
            by_cases hj : k = j
            · subst hj; rw [if_pos rfl, HX.out, if_pos (List.getElem?_eq_some_iff.1 HX.out).1]
            · rw [if_neg hj]
          rw [eL] at hL2
          have eF : (upTo D.files D.now k).set k ⟨[], [], f.opn⟩ = upTo D.files D.now (k + 1) := by rw [← HS.out]; exact upTo_step D.files D.now k f HF.out
          simp only [eF] at hL2
          exact ⟨k + 1, by omega, by go_num, ⟨hL2⟩, ⟨(HT.out.setCell HHo.out rfl lo 0 _).setCell HO1.out rfl lo 1 _⟩⟩
        case measure => simp [Go.RowKit.intOf]; omega
    · have t1 : decide (k < n) = false := decide_eq_false hlt
      have HK := Aside0.mk (show k = D.files.length by rw [← HN.out]; omega)
      go_wp2
      go_end0
      refine ⟨rfl, ?_, (Turn.of_below HB2.out).trans HT.out⟩
      have := HL.out
      rw [HK.out, upTo_all] at this
      exact this
end Go.Proofs.YtpcfnkmljchiiaaGreatDoor.DSwp
end
section
/- Disk.Crash: what its loops stand on. -/
namespace Go.Proofs.YtpcfnkmljchiiaaGreatDoor.DCrb
open Go Go.RowKit Go.Maps Go.WideMaps Go.Proofs.YtpcfnkmljchiiaaGreatDoorW.PrintWords Go.Proofs.YtpcfnkmljchiiaaGreatDoorW.PrintLast Go.Proofs.YtpcfnkmljchiiaaGreatDoorW.PrintMore DBase DPl DAt DEnt DNam Go.Proofs.YtpcfnkmljchiiaaGreatDoor.Is DFil DUsd DChg DCg DStp DCh2 DOps DShc DCra DSwp DBy
section
variable {P : Program} {ops : Array Oper} {Q : Exit → Act → World → Prop}
/-- A call of a closure, in a region that draws its order. -/
theorem goesV_ {oi : Oper} {N : Option Tmp} {a : Act} {w : World} {K : Act → World → Prop} {f : FuncId} {fn : Func} {ars : Array Operand} {ts : Array TypeId} (hf : P.funcs[f]? = some fn) (hname : (fn.name == "runtime.NumGoroutine") = false) (hb : fn.body.isSome = true) (cl : Operand) (first cap args : Array Value)
    (hw : Region.wanted oi (yielded ops a.tmps) = true) (hN : oi.dst = N) (hop : oi.op = .call { callee := .value cl, args := ars, argTypes := ts }) (hcl : a.eval cl = .func (.func f) first cap) (hargs : first ++ ars.map a.eval ++ cap = args)
    (h : Calls P f args w fun e w' => ∃ v, e = .returned v ∧ K (a.put N v) w') : if Region.wanted oi (yielded ops a.tmps) = true then Oper.wp P oi a w K Q else K (a.put N undef) w := by
  refine call_ f args hw hN ?_ h
  have he := enters_ hf hname hb args w
  unfold execOp
  simp [hop, resolve, hcl, Deferred.ofValue, invoke, hargs, he]
end
/-- 'x[:m]' of whatever row. -/
theorem cut_row (t e : TypeId) (ht : Tryz.prog.underlying t = some (.slice e)) (hi : ∃ i, Tryz.prog.info? e = some i) (A : Option Addr) (n c : Nat) (m : Nat) (hm : m ≤ c) (W : World) : (Instr.slice t (.slice A n c) none (some (.int .i64 (m : Int))) none).run Tryz.prog W = .ok (.slice A m c) W := by
  obtain ⟨i, hi⟩ := hi
  have hel : Tryz.prog.elem t = e := by simp [Program.elem, ht]
  have hu : Tryz.prog.underlying t = some (.slice (Tryz.prog.elem t)) := by rw [hel]; exact ht
  rw [run_slice_h W t A n c hu .i64 (m : Int) (Int.natCast_nonneg _) (by omega), hel]
  cases A with
  | none => simp [sizeOf, typeInfo, hi, sliced, Result.andThen]
  | some a => simp [sizeOf, typeInfo, hi, sliced, Result.andThen, addr_zero]
/-- An entry's cells in its row. -/
theorem ent_at {B : Nat} {W : World} {v : Value} {l : List Ent} (h : EntsAt B W v l) (i : Nat) (e : Ent) (hi : l[i]? = some e) :
    ∃ g cp, v = .slice (some ⟨g, 0, none⟩) l.length cp ∧ l.length ≤ cp ∧ W.cell? ⟨g, i * 3, none⟩ = some (.string e.name) ∧ W.cell? ⟨g, i * 3 + 1, none⟩ = some (.string e.gone) ∧ W.cell? ⟨g, i * 3 + 2, none⟩ = some (.int .i64 e.file) := by
  obtain ⟨hl, hx⟩ := List.getElem?_eq_some_iff.1 hi
  obtain ⟨inner, ho⟩ := Kd.R_own h
  obtain ⟨A, cp, e0, hcp, hC⟩ := Kd.R_reads h
  obtain ⟨g, cp2, e2, _, _⟩ := World.ownsRow.form ho (by omega)
  rw [e0] at e2
  obtain ⟨ad, c, ea, hlen, hK, hcell⟩ := Kd.C_get hC e (i : Int) (by omega) (by omega)
  simp only [Value.slice.injEq, Option.some.injEq] at e2
  obtain ⟨rfl, _, rfl⟩ := e2
  obtain rfl := Option.some.inj ea
  obtain ⟨c0, c1, rfl, h0, d0, d1, rfl, h1, h2⟩ := hK
  have eg : l.getD i e = e := by rw [List.getD_eq_getElem?_getD, hi]; rfl
  simp only [Int.toNat_natCast, eg] at h0 h1 h2
  have k0 : c0 = [.string e.name] := h0
  have k1 : d0 = [.string e.gone] := h1
  have k2 : d1 = [.int .i64 e.file] := h2
  subst k0
  subst k1
  subst k2
  have q0 := hcell 0 _ rfl
  have q1 := hcell 1 _ rfl
  have q2 := hcell 2 _ rfl
  have es : kEnt.sz = 3 := rfl
  rw [es, Int.toNat_natCast, add_plain] at q0 q1 q2
  exact ⟨g, cp, e0, hcp, by simpa using q0, q1, q2⟩
/-- A step's cells in its row; its bytes. -/
theorem chg_at {B : Bx} {W : World} {v : Value} {l : List Chg} (h : ChgsAt B W v l) (i : Nat) (c : Chg) (hi : l[i]? = some c) :
    ∃ g cp A cb, v = .slice (some ⟨g, 0, none⟩) l.length cp ∧ l.length ≤ cp ∧ W.cell? ⟨g, i * 3, none⟩ = some (.int .i64 (c.pos : Int)) ∧ W.cell? ⟨g, i * 3 + 1, none⟩ = some (.slice A c.b.length cb) ∧ W.cell? ⟨g, i * 3 + 2, none⟩ = some (.bool c.cut) ∧ BytesAt B W (.slice A c.b.length cb) c.b := by
  obtain ⟨hl, hx⟩ := List.getElem?_eq_some_iff.1 hi
  obtain ⟨A, cp, e0, hcp, _⟩ := Kd.R_reads h
  obtain ⟨h0, inner, ho, hrp⟩ := h
  obtain ⟨g, cp2, e2, _, _⟩ := World.ownsRow.form ho (by omega)
  have hm := hrp.2 i c hi
  obtain ⟨c0, c1, ec, h1, d0, d1, ed, h2, h3⟩ := hm
  obtain ⟨bv, eb, hR⟩ := h2
  have k0 : c0 = [.int .i64 (c.pos : Int)] := h1
  have k2 : d1 = [.bool c.cut] := h3
  obtain ⟨Ab, cb, ebv⟩ := Kd.R_slice hR
  subst ebv
  subst k0
  subst k2
  subst eb
  subst ed
  have es : kChg.sz = 3 := rfl
  have hcells := World.ownsRow.cells ho (g := g) (by rw [e2]; rfl)
  have at_ : ∀ j u, j < 3 → ([Value.int .i64 (c.pos : Int)] ++ ([Value.slice Ab c.b.length cb] ++ [Value.bool c.cut]))[j]? = some u → W.cell? ⟨g, i * 3 + j, none⟩ = some u := fun j u hj hu => by
    have h7 : inner[i * 3 + j]? = some u := by
      rw [← ec, es] at hu
      rw [List.getElem?_take, List.getElem?_drop] at hu
      rw [if_pos hj] at hu
      exact hu
    have := hcells (i * 3 + j) u h7
    rwa [add_plain] at this
  exact ⟨g, cp2, Ab, cb, e2, by rw [e0] at e2; simp only [Value.slice.injEq] at e2; omega, by simpa using at_ 0 _ (by omega) rfl, at_ 1 _ (by omega) rfl, at_ 2 _ (by omega) rfl, Kd.R_mono hR (fun _ hk => hk.1)⟩
theorem set_same {L : List (Nat × Value)} {i : Nat} {x : Nat × Value} (hx : L[i]? = some x) : L.set i (x.1, x.2) = L := by
  apply List.ext_getElem?
  intro j
  rw [List.getElem?_set]
  by_cases hj : i = j
  · subst hj; rw [if_pos rfl, hx, if_pos (List.getElem?_eq_some_iff.1 hx).1]
  · rw [if_neg hj]
end Go.Proofs.YtpcfnkmljchiiaaGreatDoor.DCrb
namespace Go.Proofs.YtpcfnkmljchiiaaGreatDoor.DAt
open Go Go.RowKit Go.Maps Go.Proofs.YtpcfnkmljchiiaaGreatDoorW.PrintWords DPl DCrb DCg
variable {B : Bx} {p : Nat} {D : Dsk} {L : List (Nat × Value)} {m1 m2 : Nat} {fv ov : Value} {w w1 : World}
/-- A block has turned that is of another kind. -/
theorem Lies.foreign (h : Lies B w p D L m1 m2 fv ov) {g : Nat} {cs : Array Value} {t : Nat} {m : Nat × Nat} (hg : w.heap[g]? = some (.cells cs t m)) (ht : dkT t = false) (h5 : t ≠ 5) (hk : But w w1 (some g)) : Lies B w1 p D L m1 m2 fv ov := by
  have nt : ∀ qs : List Nat, (∀ q ∈ qs, q ≠ t) → Not w (some g) qs := fun qs hq => Not.cells (t := t) (fun g' hg' => by obtain rfl := Option.some.inj hg'; exact ⟨_, _, hg⟩) hq
  have np : ∀ q, dkT q = true → q ≠ t := fun q hq e => by rw [e, ht] at hq; cases hq
  have ng : some p ≠ some g := fun e => by
    obtain rfl := Option.some.inj e
    rw [h.obj] at hg
    cases hg
    exact absurd ht (by decide)
  have nm : ∀ {m : Nat} {N : Nms}, NamesAt w m N → some m ≠ some g := fun hm e => by
    obtain rfl := Option.some.inj e
    obtain ⟨es, cl, h1⟩ := hm.obj
    rw [hg] at h1
    cases h1
  refine ⟨hk.obj h.obj ng, h.lop, h.lo1, h.lo2, h.ne, h.now.same (hk.2 _ h.now.lt (nm h.now)), h.sure.same (hk.2 _ h.sure.lt (nm h.sure)), R_row h.ptrs hk (nt _ (fun q hq => ?_)), R_row h.opn hk (nt _ (fun q hq => ?_)), h.files.row hk (nt _ (fun q hq => ?_)), Nat.lt_of_lt_of_le h.lt hk.1⟩
  · rw [kPtrE] at hq
    obtain rfl := List.mem_singleton.1 hq
    exact np _ (by decide)
  · rw [kEntE] at hq
    obtain rfl := List.mem_singleton.1 hq
    exact np _ (by decide)
  · simp only [List.mem_cons, List.not_mem_nil, or_false] at hq
    rcases hq with rfl | rfl | rfl
    · exact h5.symm
    · exact np _ (by decide)
    · exact np _ (by decide)
/-- A file's sure bytes have been laid anew. -/
theorem Lies.setSure (h : Lies B w p D L m1 m2 fv ov) (i : Nat) (x : Nat × Value) (f : Fil) (hx : L[i]? = some x) (hf : D.files[i]? = some f) (hb : Below w.heap.size w w1) {v : Value} {l : List Int} (hv : BytesAt B w1 v l) :
    Lies B (w1.setCell ⟨x.1, 1, none⟩ v) p { D with files := D.files.set i { f with sure := l } } L m1 m2 fv ov := by
  have h1 := h.below hb
  obtain ⟨⟨nv, sv, ho, hn, hs⟩, lo, hop⟩ := h1.files.each i x f hx hf
  have k1 := But.setCell w1 ⟨x.1, 1, none⟩ v
  have nx : ∀ qs : List Nat, tF ∉ qs → Not w1 (some x.1) qs := fun qs hq => Not.cells (t := tF) (fun g hg => by obtain rfl := Option.some.inj hg; exact ⟨_, _, ho⟩) (fun q hq2 e => hq (e ▸ hq2))
  have := h1.file i x f hx hf k1.1 (fun j hj h2 h3 => k1.2 j hj (fun e => h2 (Option.some.inj e))) x.2 { f with sure := l } ⟨⟨_, _, blk_put ho 1 v rfl, BytesAt.but hn k1 (nx _ (by decide)), BytesAt.but hv k1 (nx _ (by decide))⟩, lo, R_row hop k1 (nx _ (by rw [chgE]; decide))⟩ (.inr (.inl rfl))
  rwa [set_same hx] at this
/-- A file's steps are forgotten, its bytes are the sure ones. -/
theorem Lies.setDone (h : Lies B w p D L m1 m2 fv ov) (i : Nat) (x : Nat × Value) (f : Fil) (hx : L[i]? = some x) (hf : D.files[i]? = some f) {v : Value} (hv : w.cell? ⟨x.1, 1, none⟩ = some v) :
    Lies B ((w.setCell ⟨x.1, 0, none⟩ v).setCell ⟨x.1, 2, none⟩ (.slice none 0 0)) p { D with files := D.files.set i ⟨f.sure, f.sure, []⟩ } (L.set i (x.1, .slice none 0 0)) m1 m2 fv ov ∧ Turn B w ((w.setCell ⟨x.1, 0, none⟩ v).setCell ⟨x.1, 2, none⟩ (.slice none 0 0)) := by
  obtain ⟨⟨nv, sv, ho, hn, hs⟩, lo, hop⟩ := h.files.each i x f hx hf
  have ev : v = sv := Option.some.inj (hv.symm.trans ((blk_cell ho 1).trans rfl))
  subst ev
  have o1 := blk_put ho 0 v rfl
  have k1 := (But.setCell w ⟨x.1, 0, none⟩ v).trans (But.setCell (w.setCell ⟨x.1, 0, none⟩ v) ⟨x.1, 2, none⟩ (.slice none 0 0))
  have nx : ∀ qs : List Nat, tF ∉ qs → Not w (some x.1) qs := fun qs hq => Not.cells (t := tF) (fun g hg => by obtain rfl := Option.some.inj hg; exact ⟨_, _, ho⟩) (fun q hq2 e => hq (e ▸ hq2))
  have b1 := BytesAt.but hs k1 (nx _ (by decide))
  exact ⟨h.file i x f hx hf k1.1 (fun j hj h2 h3 => k1.2 j hj (fun e => h2 (Option.some.inj e))) (.slice none 0 0) ⟨f.sure, f.sure, []⟩ ⟨⟨_, _, blk_put o1 2 (.slice none 0 0) rfl, b1, b1⟩, lo, Kd.R_nil _ _ _ _ _⟩ (.inl rfl), ((Turn.refl B w).setCell ho rfl lo 0 _).setCell o1 rfl lo 2 _⟩
end Go.Proofs.YtpcfnkmljchiiaaGreatDoor.DAt
end
