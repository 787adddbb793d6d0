/- Disk.sweep. -/
import Derived.Test.YtpcfnkmljchiiaaDoorDCra
namespace Go.Proofs.YtpcfnkmljchiiaaDoor.DSwp
open Go Go.RowKit Go.Maps Go.WideMaps Go.Proofs.YtpcfnkmljchiiaaDoorW.PrintWords Go.Proofs.YtpcfnkmljchiiaaDoorW.PrintLast Go.Proofs.YtpcfnkmljchiiaaDoor.DBase Go.Proofs.YtpcfnkmljchiiaaDoor.DPl Go.Proofs.YtpcfnkmljchiiaaDoor.DAt Go.Proofs.YtpcfnkmljchiiaaDoor.DEnt Go.Proofs.YtpcfnkmljchiiaaDoor.DNam Go.Proofs.YtpcfnkmljchiiaaDoor.Is Go.Proofs.YtpcfnkmljchiiaaDoor.DFil Go.Proofs.YtpcfnkmljchiiaaDoor.DUsd Go.Proofs.YtpcfnkmljchiiaaDoor.DCg Go.Proofs.YtpcfnkmljchiiaaDoor.DStp Go.Proofs.YtpcfnkmljchiiaaDoor.DOps Go.Proofs.YtpcfnkmljchiiaaDoor.DShc Go.Proofs.YtpcfnkmljchiiaaDoor.DCra
set_option linter.unusedVariables false
set_option linter.unusedSimpArgs false
def swept (N : Nms) (i : Nat) (f : Fil) : Fil := if N.any (fun p => p.2 == (i : Int)) then f else ⟨[], [], f.opn⟩
/-- The first k files have been looked at. -/
def upTo (fs : List Fil) (N : Nms) (k : Nat) : List Fil := fs.mapIdx fun i f => if i < k then swept N i f else f
theorem upTo_zero (fs : List Fil) (N : Nms) : upTo fs N 0 = fs := by
  apply List.ext_getElem?
  intro j
  simp [upTo]
theorem upTo_all (fs : List Fil) (N : Nms) : upTo fs N fs.length = sweepFs fs N := by
  apply List.ext_getElem?
  intro j
  simp only [upTo, sweepFs, List.getElem?_mapIdx]
  cases hj : fs[j]? with
  | none => rfl
  | some f =>
    have := (List.getElem?_eq_some_iff.1 hj).1
    simp [this, swept]
theorem upTo_len (fs : List Fil) (N : Nms) (k : Nat) : (upTo fs N k).length = fs.length := by simp [upTo]
theorem upTo_at (fs : List Fil) (N : Nms) (k : Nat) (f : Fil) (h : fs[k]? = some f) : (upTo fs N k)[k]? = some f := by
  simp [upTo, List.getElem?_mapIdx, h]
theorem upTo_step (fs : List Fil) (N : Nms) (k : Nat) (f : Fil) (h : fs[k]? = some f) : (upTo fs N k).set k (swept N k f) = upTo fs N (k + 1) := by
  apply List.ext_getElem?
  intro j
  have hk := (List.getElem?_eq_some_iff.1 h).1
  simp only [upTo, List.getElem?_set, List.getElem?_mapIdx, List.length_mapIdx]
  by_cases hj : k = j
  · subst hj
    have e : fs[k] = f := (List.getElem?_eq_some_iff.1 h).2
    simp [hk, e]
  · rw [if_neg hj]
    cases hf : fs[j]? with
    | none => rfl
    | some g =>
      simp only [Option.map_some]
      by_cases h1 : j < k
      · rw [if_pos h1, if_pos (by omega)]
      · rw [if_neg h1, if_neg (by omega)]
theorem upTo_keep (fs : List Fil) (N : Nms) (k : Nat) (f : Fil) (h : fs[k]? = some f) (hs : swept N k f = f) : upTo fs N (k + 1) = upTo fs N k := by
  rw [← upTo_step fs N k f h, hs]
  apply List.ext_getElem?
  intro j
  rw [List.getElem?_set]
  by_cases hj : k = j
  · subst hj
    rw [if_pos rfl, upTo_at fs N k f h, if_pos (by rw [upTo_len]; exact (List.getElem?_eq_some_iff.1 h).1)]
  · rw [if_neg hj]
theorem own_turn {B : Nat} {w1 W : World} {base size n : Nat} {t : Nat} {v : Value} {xs : List Value} (h : w1.ownsRow base t size v n xs) (ht : Turn B w1 W) (hd : dkT t = false) : W.ownsRow base t size v n xs :=
  own_move h (fun k hk => by
    obtain ⟨cs, hc⟩ := own_typed h k hk
    rw [ht.kind k _ hc (by simpa [dk] using hd), hc])
theorem any_mem (N : Nms) (xs : List Int) (hx : ∀ i : Int, i ∈ xs ↔ ∃ p ∈ N, p.2 = i) (i : Nat) : decide ((i : Int) ∈ xs) = N.any (fun p => p.2 == (i : Int)) := by
  rw [Bool.eq_iff_iff, decide_eq_true_eq, hx, List.any_eq_true]
  constructor
  · rintro ⟨p, h1, h2⟩; exact ⟨p, h1, by simpa using h2⟩
  · rintro ⟨p, h1, h2⟩; exact ⟨p, h1, by simpa using h2⟩
set_option maxRecDepth 100000 in
set_option maxHeartbeats 8000000 in
theorem sweep_calls (B p : Nat) (D : Dsk) (L : List (Nat × Value)) (m1 m2 : Nat) (fv ov : Value) (w : World) (h : Lies B w p D L m1 m2 fv ov) (hl : D.files.length ≤ 1000000000) (hN : D.now.length ≤ 1000000000) :
    Calls Tryd.prog 65 #[.pointer (some ⟨p, 0, none⟩)] w fun e w' => e = .returned (.tuple #[]) ∧ Lies B w' p { D with files := sweepFs D.files D.now } L m1 m2 fv ov ∧ Turn B w w' := by
  have c1 : w.cell? ⟨p, 1, none⟩ = some (.map (some m1)) := (blk_cell h.obj 1).trans rfl
  have HP := Aside0.mk (blk_lt h.obj)
  have HO := Aside0.mk h
  have HV := Aside0.mk (fun (U : World) => values_calls m1 U)
  have HC := Aside0.mk (fun (U : World) (g : Nat) (hb : Below w.heap.size w U) (hg : g < U.heap.size) (hc : U.cell? ⟨g, 0, none⟩ = some (.map (some m1))) => collect_calls g m1 D.now U hg hc (h.now.below hb) hN)
  obtain ⟨Af, cpf, efv⟩ := Kd.R_slice h.ptrs
  have elen : (L.map Prod.fst).length = D.files.length := by rw [List.length_map, h.files.len]
  rw [elen] at efv
  subst efv
  have c0 : w.cell? ⟨p, 0, none⟩ = some (.slice Af D.files.length cpf) := (blk_cell h.obj 0).trans rfl
  obtain ⟨n, hn⟩ : ∃ n, n = D.files.length := ⟨_, rfl⟩
  rw [← hn] at c0
  have HN := Aside0.mk hn
  have HNl := Aside0.mk hN
  have hnl : (n : Int) ≤ 1000000000 := by omega
  clear h hN hl elen hn
  go_enter Tryd.func65, Tryd.ntmps65
  go_wp2_with (first
    | (go_at_call 77; refine (HV.out _).mono ?_; rintro e w1 ⟨rfl, rfl⟩)
    | (go_at_call 76; refine (HC.out _ w.heap.size ((Below.refl _ _).alloc (Nat.le_refl _) _) (by simp) ((World.cell?_alloc_new _ _ _ _).trans rfl)).mono ?_; rintro e w2 ⟨v, xs, rfl, hxs, hxl, hrow, hb⟩; have HB2 := Aside0.mk (((Below.refl w.heap.size w).alloc (Nat.le_refl _) (.cells #[.map (some m1)] 55)).trans (hb.mono (by simp))); have HXS := Aside0.mk hxs; have HXL := Aside0.mk hxl; obtain ⟨A2, cp2, e2⟩ := own_slice hrow; subst e2; have HRow := Aside0.mk hrow; clear hxs hxl hrow hb; have c0 := (HB2.out.cell (p := ⟨p, 0, none⟩) HP.out).trans c0))
  generalize hxn : xs.length = xn
  have HXn := Aside0.mk hxn
  clear hxn
  go_loopw [16] (fun i wr => ∃ k : Nat, k ≤ n ∧ i = .int .i64 k ∧ Aside0 (Lies B wr p { D with files := upTo D.files D.now k } L m1 m2 (.slice Af D.files.length cpf) ov) ∧ Aside0 (Turn B w2 wr)) (fun i _ => n - (Go.RowKit.intOf i).toNat)
  case atStart => exact ⟨0, by omega, rfl, ⟨by rw [upTo_zero]; exact HO.out.below HB2.out⟩, ⟨Turn.refl B w2⟩⟩
  case round =>
    obtain ⟨k, hk, rfl, HL, HT⟩ := hrel
    by_cases hlt : k < n
    · have t1 : decide (k < n) = true := decide_eq_true hlt
      have hkl : k < D.files.length := by rw [← HN.out]; exact hlt
      obtain ⟨f, hf⟩ : ∃ f, D.files[k]? = some f := ⟨_, List.getElem?_eq_getElem hkl⟩
      have hLl : k < L.length := by have := HL.out.files.len; rw [upTo_len] at this; omega
      obtain ⟨x, hx⟩ : ∃ x, L[k]? = some x := ⟨_, List.getElem?_eq_getElem hLl⟩
      obtain ⟨g, cp, ef, _, hg⟩ := ptr_at HL.out.ptrs k x.1 (by rw [List.getElem?_map, hx]; rfl)
      simp only [Value.slice.injEq] at ef
      obtain ⟨rfl, _, rfl⟩ := ef
      have hfk := upTo_at D.files D.now k f hf
      obtain ⟨nv, sv, ho, hnv, hsv⟩ := (HL.out.files.each k x f hx hfk).ex
      have lo := (HL.out.files.each k x f hx hfk).lo
      have hop := (HL.out.files.each k x f hx hfk).opn
      have u0 : (0 : Int) ≤ (k : Int) := by omega
      have u1 : (k : Int) < (n : Int) := by omega
      have HCon := Aside0.mk (contains_calls A2 cp2 xs (k : Int) wr (by
        obtain ⟨A3, c3, e3, hR⟩ := own_reads (own_turn HRow.out HT.out rfl)
        simp only [Value.slice.injEq] at e3
        obtain ⟨rfl, _, _⟩ := e3
        exact hR) (by rw [HXL.out]; exact HNl.out))
      rw [any_mem D.now xs HXS.out k] at HCon
      obtain ⟨b, hb⟩ : ∃ b, b = D.now.any (fun p => p.2 == (k : Int)) := ⟨_, rfl⟩
      rw [← hb, HXn.out] at HCon
      have e0 : wr.cell? ⟨x.1, 0, none⟩ = some nv := (blk_cell ho 0).trans rfl
      have f0 : wr.frozen? ⟨x.1, 0, none⟩ = false := blk_frozen ho 0
      have o1 := blk_put ho 0 (.slice none 0 0) rfl
      have e1 : (wr.setCell ⟨x.1, 0, none⟩ (.slice none 0 0)).cell? ⟨x.1, 1, none⟩ = some sv := (blk_cell o1 1).trans rfl
      have f1 : (wr.setCell ⟨x.1, 0, none⟩ (.slice none 0 0)).frozen? ⟨x.1, 1, none⟩ = false := blk_frozen o1 1
      have HO1 := Aside0.mk o1
      have HHo := Aside0.mk ho
      have HFK := Aside0.mk hfk
      have HF := Aside0.mk hf
      have HX := Aside0.mk hx
      have HOp := Aside0.mk hop
      have HB := Aside0.mk hb
      clear o1 ho hfk hf hx hop hb hkl hLl hnv hsv
      cases b with
      | true =>
        have HS := Aside0.mk (show swept D.now k f = f from if_pos HB.out.symm)
        go_wp2_with (go_at_call 78; refine HCon.out.mono ?_; rintro e w3 ⟨rfl, rfl⟩)
        go_roundw
        case rel => exact ⟨k + 1, by omega, by go_num, ⟨by rw [upTo_keep D.files D.now k f HF.out HS.out]; exact HL.out⟩, HT⟩
        case measure => simp [Go.RowKit.intOf]; omega
      | false =>
        have HS := Aside0.mk (show swept D.now k f = ⟨[], [], f.opn⟩ from if_neg (by rw [← HB.out]; simp))
        go_wp2_with (go_at_call 78; refine HCon.out.mono ?_; rintro e w3 ⟨rfl, rfl⟩)
        go_roundw
        case rel =>
          have k1 := But.setCell w3 ⟨x.1, 0, none⟩ (.slice none 0 0)
          have k2 := But.setCell (w3.setCell ⟨x.1, 0, none⟩ (.slice none 0 0)) ⟨x.1, 1, none⟩ (.slice none 0 0)
          have nx : Not w3 (some x.1) (tC :: kChg.E) := by
            rw [chgE]
            exact Not.cells (t := tF) (fun g hg => by obtain rfl := Option.some.inj hg; exact ⟨_, _, HHo.out⟩) (by decide)
          have hL2 := HL.out.file k x f HX.out HFK.out (Nat.le_trans k1.1 k2.1) (fun j hj h1 h2 => (k1.trans k2).2 j hj (fun e => h1 (Option.some.inj e))) x.2 ⟨[], [], f.opn⟩ ⟨⟨_, _, blk_put HO1.out 1 (.slice none 0 0) rfl, Kd.R_nil _ _ _ _ _, Kd.R_nil _ _ _ _ _⟩, lo, R_row HOp.out (k1.trans k2) nx⟩ (.inr (.inl rfl))
          have eL : L.set k (x.1, x.2) = L := by
            apply List.ext_getElem?
            intro j
            rw [List.getElem?_set]
            by_cases hj : k = j
            · subst hj; rw [if_pos rfl, HX.out, if_pos (List.getElem?_eq_some_iff.1 HX.out).1]
            · rw [if_neg hj]
          rw [eL] at hL2
          have eF : (upTo D.files D.now k).set k ⟨[], [], f.opn⟩ = upTo D.files D.now (k + 1) := by rw [← HS.out]; exact upTo_step D.files D.now k f HF.out
          simp only [eF] at hL2
          exact ⟨k + 1, by omega, by go_num, ⟨hL2⟩, ⟨(HT.out.setCell HHo.out rfl lo 0 _).setCell HO1.out rfl lo 1 _⟩⟩
        case measure => simp [Go.RowKit.intOf]; omega
    · have t1 : decide (k < n) = false := decide_eq_false hlt
      have HK := Aside0.mk (show k = D.files.length by rw [← HN.out]; omega)
      go_wp2
      go_end0
      refine ⟨rfl, ?_, (Turn.of_below HB2.out).trans HT.out⟩
      have := HL.out
      rw [HK.out, upTo_all] at this
      exact this
end Go.Proofs.YtpcfnkmljchiiaaDoor.DSwp
