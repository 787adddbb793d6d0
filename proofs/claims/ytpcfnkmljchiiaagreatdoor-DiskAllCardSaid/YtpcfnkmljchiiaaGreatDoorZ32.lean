/- Steps towards RDiskAll: DRau. -/
import Derived.Test.YtpcfnkmljchiiaaGreatDoorZ31
set_option linter.unusedVariables false
set_option linter.unusedSimpArgs false
/- How many bytes the document's named files have; a step of its names. -/
namespace Go.Proofs.YtpcfnkmljchiiaaGreatDoor.DRau
open Go Go.RowKit Go.Maps Go.Proofs.YtpcfnkmljchiiaaGreatDoorW.PrintWords Go.Proofs.YtpcfnkmljchiiaaGreatDoorW.PrintLast DPl DAt DRn DRd DRl DRt DDo DRdp DRdo DRnf DRnw DRak DFil GRef Right DUsd
theorem fld1 (a b : Value) (W : World) : (Instr.field 44 (.agg #[a, b]) 1).run Tryz.prog W = .ok b W := by
  have h := Tryz.underlying44
  have h32 := Tryz.underlying33
  unfold Instr.field
  simp [run_underlying h, run_underlying h32, part, asAgg, Go.isAgg]
theorem fld0 (a b : Value) (W : World) : (Instr.field 44 (.agg #[a, b]) 0).run Tryz.prog W = .ok a W := by
  have h := Tryz.underlying44
  have h35 := Tryz.underlying37
  unfold Instr.field
  simp [run_underlying h, run_underlying h35, part, asAgg, Go.isAgg]
theorem used_take (fs : List Fil) (N : Nms) (j : Nat) (q : List UInt8 × Int) (h : N[j]? = some q) : usedL fs (N.take (j + 1)) = usedL fs (N.take j) + szOf fs q.2 := by
  rw [List.take_add_one, h, usedL_eq, usedL_eq]
  simp
theorem used_le_take' (fs : List Fil) (M : Nat) (h : ∀ i, szOf fs i ≤ M) (N : Nms) : ∀ j, usedL fs (N.take j) ≤ j * M := by
  intro j
  induction j with
  | zero => rw [Nat.zero_mul, List.take_zero]; exact Nat.le_refl 0
  | succ j ih =>
    rw [Nat.succ_mul]
    cases hq : N[j]? with
    | none =>
      rw [List.take_add_one, hq]
      simp only [Option.toList_none, List.append_nil]
      omega
    | some q =>
      rw [used_take _ _ _ _ hq]
      have := h q.2
      omega
theorem used_le_take {D : Dsk} (hk : D.Ok) (N : Nms) (j : Nat) : usedL D.files (N.take j) ≤ j * 1073741824 := used_le_take' D.files 1073741824 (szOf_le hk) N j
theorem sz_of {fs : List Fil} {i : Nat} {f : Fil} {c : Int} (hf : fs[i]? = some f) (hc : c = (i : Int)) : szOf fs c = f.now.length := by
  unfold szOf
  rw [hc, Int.toNat_natCast, hf]
set_option maxRecDepth 100000 in
set_option maxHeartbeats 8000000 in
theorem rused_calls (B p : Nat) (D : Dsk) (w : World) (h : RDiskAt B w p D) (hk : D.Ok) (hst : D.steps ≤ 1000000000) (hri : Rising D.sure) :
    Calls Tryz.prog 53 #[.pointer (some ⟨p, 0, none⟩)] w fun e w' => e = .returned (.int .i64 (usedD D : Nat)) ∧ Below w.heap.size w w' := by
  have HD := Aside0.mk h
  obtain ⟨L, fv, nv0, iv0, ov, hl⟩ := h
  have HL := Aside0.mk hl
  have HN := Aside0.mk (names_calls B p D w HD.out hk hst hri)
  have HK := Aside0.mk hk
  have HSt := Aside0.mk hst
  have HNl := Aside0.mk (now_len hk hst)
  obtain ⟨Af, cf, ef⟩ := Kd.R_slice hl.ptrs
  have HLL := Aside0.mk (show L.length = D.files.length from hl.files.len)
  have c0 : w.cell? ⟨p, 0, none⟩ = some (.slice Af (L.map Prod.fst).length cf) := by rw [← ef]; exact (blk_cell hl.obj 0).trans rfl
  have HC0 := Aside0.mk (fun (U : World) (hb : Below w.heap.size w U) => (hb.cell (World.block_lt_of_cell? w _ c0)).trans c0)
  have HEf := Aside0.mk ef
  have HUl := Aside0.mk (used_le_take hk D.now)
  obtain ⟨r, hr⟩ : ∃ r, r = usedD D := ⟨_, rfl⟩
  rw [← hr]
  have HR := Aside0.mk hr
  clear hl hk hst hri c0 ef hr
  have hfl1 := fld1
  go_enter Tryz.func53, Tryz.ntmps53
  go_wp2_with (go_at_call 96; refine HN.out.mono ?_; rintro e w1 ⟨nv, iv, rfl, hn, hb⟩; have HB := Aside0.mk hb; have HM := Aside0.mk hn; obtain ⟨A1, c1, A2, c2, rfl, rfl, l1, l2, C1, C2⟩ := hn.reads; have HC2 := Aside0.mk C2; clear hn hb C1 C2 l1)
  obtain ⟨n, hn⟩ : ∃ n, n = D.now.length := ⟨_, rfl⟩
  have HNn := Aside0.mk hn
  have hnb : n ≤ 1000000000 := by rw [hn]; exact HNl.out
  rw [← hn] at l2 ⊢
  clear hn
  go_loopw [10, 3] (fun i s wr => ∃ j t : Nat, j ≤ n ∧ i = .int .i64 j ∧ s = .int .i64 t ∧ Aside0 (t = usedL D.files (D.now.take j)) ∧ Aside0 (Below w1.heap.size w1 wr)) (fun i _ _ => n - (Go.RowKit.intOf i).toNat)
  case atStart => exact ⟨0, 0, by omega, rfl, rfl, ⟨rfl⟩, ⟨Below.refl _ _⟩⟩
  case round =>
    obtain ⟨j, t, hj, rfl, rfl, HT, HBr⟩ := hrel
    have HBw := Aside0.mk (HB.out.trans (HBr.out.mono HB.out.size))
    by_cases hlt : j < n
    · have t1 : decide (j < n) = true := decide_eq_true hlt
      obtain ⟨q, hq⟩ : ∃ q, D.now[j]? = some q := ⟨_, List.getElem?_eq_getElem (by rw [← HNn.out]; exact hlt)⟩
      obtain ⟨ad2, ea2, hca2⟩ := int_cell HC2.out j _ (names_at hq).2
      subst ea2
      have m0 := (HBr.out.cell (World.block_lt_of_cell? w1 _ hca2)).trans hca2
      have hq2 := HK.out.nowF q (List.mem_of_getElem? hq)
      obtain ⟨i, hi⟩ : ∃ i : Nat, q.2 = (i : Int) := ⟨q.2.toNat, by omega⟩
      have hil : i < D.files.length := by omega
      obtain ⟨f, hf⟩ : ∃ f, D.files[i]? = some f := ⟨_, List.getElem?_eq_getElem hil⟩
      obtain ⟨x, hx⟩ : ∃ x, L[i]? = some x := ⟨_, List.getElem?_eq_getElem (by rw [HLL.out]; exact hil)⟩
      obtain ⟨g, cp3, ef, _, hg⟩ := rptr_at HL.out.ptrs i x.1 (by rw [List.getElem?_map, hx]; rfl)
      have d0 := HC0.out _ HBw.out
      have efs := HEf.out
      rw [ef] at efs
      simp only [Value.slice.injEq] at efs
      obtain ⟨rfl, _, rfl⟩ := efs
      have d1 := (HBw.out.cell (World.block_lt_of_cell? w _ hg)).trans hg
      have hfa := HL.out.files.each i x f hx hf
      have HNf := Aside0.mk (fun (U : World) (hb : Below w.heap.size w U) => rnow_calls B x.1 x.2 f D.steps U ⟨(hb.block _ (blk_lt hfa.obj)).trans hfa.obj, Kd.R_below hfa.opn hb⟩ (HK.out.fil f (List.mem_of_getElem? hf)) HSt.out)
      have HTs := Aside0.mk (show t + f.now.length = usedL D.files (D.now.take (j + 1)) by rw [used_take _ _ _ _ hq, sz_of hf hi, ← HT.out])
      have htb : t + f.now.length ≤ 1000000000 * 1073741824 := by
        have h1 := HUl.out (j + 1)
        have h2 := HTs.out
        omega
      obtain ⟨nF, hnF⟩ : ∃ nF, nF = (L.map Prod.fst).length := ⟨_, rfl⟩
      have hiF : (i : Int) < (nF : Int) := by rw [hnF, List.length_map, HLL.out]; omega
      have hi0 : (0 : Int) ≤ (i : Int) := by omega
      rw [← hnF] at d0
      have hsz : ((strOfNums f.now).size : Int) = (f.now.length : Nat) := by rw [strOfNums_size]
      rw [hi] at m0
      have k0 : (0 : Int) ≤ (j : Int) := by omega
      have k1 : (j : Int) < (n : Int) := by omega
      clear hq hca2 hq2 hi hil hf hx ef hg hfa hnF
      go_wp2_with (go_at_call 100; refine (HNf.out _ HBw.out).mono ?_; rintro e w3 ⟨rfl, hb3⟩; have HB3 := Aside0.mk (HBr.out.trans (hb3.mono HBr.out.size)); clear hb3)
      go_roundw
      case rel => exact ⟨j + 1, t + f.now.length, by omega, by go_num, by go_num, HTs, HB3⟩
      case measure => simp [Go.RowKit.intOf]; omega
    · have t1 : decide (j < n) = false := decide_eq_false hlt
      have e : t = r := by rw [HT.out, HR.out, usedD, show j = D.now.length by have := HNn.out; omega, List.take_length]
      subst e
      go_wp2
      go_ret
      exact ⟨rfl, HBw.out⟩
end Go.Proofs.YtpcfnkmljchiiaaGreatDoor.DRau
