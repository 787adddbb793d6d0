/- CheckRows: for every list of bytes' lists and every tail the law answers true: records one behind the other are told, up to what is none's. No condition. -/
import Derived.Test.YthlofokgbogndaaRows
import Derived.Test.YthlofokgbogndaaQCheckRows
import Derived.WalkKit
import Derived.ProofKit
import Derived.OpenShut
import Derived.ShutString
import Derived.ChangeOld
import Derived.Below
import Derived.SizedLaws
import Derived.Deep.Matrix
import Derived.Test.YthlofokgbogndaaWSized
namespace Go.Proofs.Ythlofokgbogndaa.checkRows
open Go.ChangeShapes Go.WideShapes Go.ChangeAt Go.RowKit
open Go.ChangeMaps (open_string shut_string)
open Go.Deep
open Go.Proofs.YthlofokgbogndaaW.PrintWords Go.Proofs.Ythlofokgbogndaa.GCheck
set_option linter.unusedVariables false
theorem own : ownKnob Try.prog.godebug = none := by kernel_rfl
theorem laidOut : laidOutB Try.prog = true := by kernel_rfl
def IsRow (k : IntKind) (w : World) (a : Option Addr) (len cap : Nat) (zs : List Int) : Prop :=
  (a = none ∧ len = 0 ∧ cap = 0 ∧ zs = []) ∨
  ∃ x, a = some x ∧ len ≤ cap ∧ cap ≤ maxLen ∧ zs.length = cap ∧ (∀ i, i < zs.length → w.cell? (x.add i) = some (.int k (zs.getD i 0))) ∧ ∀ n ∈ zs, (Lit.int k n).wf = true
/-- A slice of slices of bytes that came in reads as a list of lists. -/
def IsRows (w : World) (a : Option Addr) (len cap : Nat) (xs : List (List Int)) : Prop :=
  xs.length = len ∧ len ≤ cap ∧ (∀ x ∈ xs, ∀ n ∈ x, (Lit.int .u8 n).wf = true) ∧ Kd.C (Kd.slice 5 (Kd.int .u8)) w a len xs
theorem rows_of (W : World) (x : Addr) (len cap : Nat) (A : Nat → Option Addr) (L C : Nat → Nat) (Z : Nat → List Int) (hl : len ≤ cap) (hm : cap ≤ maxLen)
    (h : ∀ r, r < cap → W.cell? (x.add r) = some (.slice (A r) (L r) (C r)) ∧ L r ≤ C r ∧ C r ≤ maxLen ∧ (Z r).length = C r ∧ (∀ n ∈ Z r, (Lit.int .u8 n).wf = true) ∧ (A r = none → C r = 0) ∧
        ∀ a', A r = some a' → 0 ≤ a'.block ∧ ∀ c, c < C r → W.cell? (a'.add c) = some (.int .u8 ((Z r).getD c 0))) :
    IsRows W (some x) len cap ((List.range len).map fun r => (Z r).take (L r)) := by
  refine ⟨by simp, hl, ?_, by simp, by unfold maxLen at hm; omega, fun _ => ⟨x, rfl, fun j p hj => ?_⟩⟩
  · intro y hy n hn
    obtain ⟨r, hr, rfl⟩ := List.mem_map.1 hy
    have hr' := List.mem_range.1 hr
    exact (h r (by omega)).2.2.2.2.1 n (List.mem_of_mem_take hn)
  · have hjl : j < len := by
      have := (List.getElem?_eq_some_iff.1 hj).1
      simpa using this
    have hp : p = (Z j).take (L j) := by
      rw [List.getElem?_map, List.getElem?_range hjl] at hj
      exact (Option.some.inj hj).symm
    obtain ⟨hc, h1, h2, h3, _, h4, h5⟩ := h j (by omega)
    have hpl : p.length = L j := by rw [hp, List.length_take]; omega
    refine ⟨[.slice (A j) p.length (C j)], rfl, ⟨A j, C j, rfl, by omega, rfl, by unfold maxLen at h2; omega, fun hpos => ?_⟩, fun i u hi => ?_⟩
    · cases hA : A j with
      | none =>
        have := h4 hA
        omega
      | some a' =>
        refine ⟨a', rfl, fun q v hq => ⟨[.int .u8 v], rfl, rfl, fun i u hi => ?_⟩⟩
        obtain rfl : i = 0 := by
          have := (List.getElem?_eq_some_iff.1 hi).1
          simpa using this
        have hu : u = .int .u8 v := by simpa using hi.symm
        have hql : q < p.length := (List.getElem?_eq_some_iff.1 hq).1
        have hv : (Z j).getD q 0 = v := by
          rw [hp, List.getElem?_take] at hq
          split at hq
          · rw [List.getD_eq_getElem?_getD, hq]
            rfl
          · exact absurd hq (by simp)
        have := (h5 a' hA).2 q (by omega)
        rw [hu, ← hv]
        simpa [Kd.int, Kd.scalar] using this
    · obtain rfl : i = 0 := by
        have := (List.getElem?_eq_some_iff.1 hi).1
        simpa using this
      have hu : u = .slice (A j) p.length (C j) := by simpa using hi.symm
      rw [hu, hpl]
      simpa [Kd.slice] using hc
set_option maxRecDepth 100000 in
theorem lifted (os : Os) (started : os.Started) (H : Type) (enc : TypeId × Value → H) :
    ReturnsInHanded {} Try.checked os 6 .any (Rows.checkRowsSpec.pre6 enc Try.prog Try.f6 Rows.checkRowsRow.domain false) (Rows.checkRowsSpec.post enc Try.prog Try.f6 false true false false) := by
  refine returnsInHanded_of_change_sized (C := Try.checked) own started (by kernel_rfl) Try.func6
    (ChangeSpec.witness6 (enc := enc) (C := Try.checked) false ⟨#[], #[.slice none 0 0, .slice none 0 0], []⟩ 8 (by kernel_rfl) (by kernel_rfl) (by kernel_rfl) (by kernel_rfl)) ?_
  intro W base args ds gs before hval0 hW hcnd hsz0 _
  have hsz : (DataW.weightsEach Try.prog (Try.f6.params.toList ++ Rows.checkRowsSpec.plain.varTypes Try.prog) (ds ++ gs)).all (· ≤ reachBytes) = true := hsz0
  have hval : ∀ (j : Nat) t v, Try.f6.params[j]? = some t → args[j]? = some v → Value.okWide Try.prog W .any base t v := hval0
  have hW' := hW
  obtain ⟨p, q, hA0, hV, rfl, hfz, hnd⟩ := hW
  have hA : DataW.TrodAll enc Try.prog W 0 (fun _ => true) true Try.f6.params.toList args.toList ds p := hA0
  rw [Try.params6] at hA hval hsz
  obtain ⟨v0, vs0, d0, ds0, p0, q0, hargs, rfl, rfl, h0, r0⟩ := trodAll_cons hA
  obtain ⟨v1, vs1, d1, ds1, p1, q1, rfl, rfl, rfl, h1, r1⟩ := trodAll_cons r0
  obtain ⟨rfl, rfl, rfl⟩ := trodAll_nil r1
  obtain rfl : args = #[v0, v1] := by cases args; simp_all
  obtain ⟨rfl, rfl⟩ := trodVars_none hV
  obtain ⟨a0, len0, cap0, rfl⟩ := okWide_slice Try.underlying35 (hval 0 35 v0 rfl rfl)
  have k0 := h0
  have lt0 : ∀ x ∈ p0, x.block < W.heap.size := by obtain ⟨m, hm⟩ := k0; exact DataW.trod_lt m _ _ _ hm
  obtain ⟨z0, w0, y0⟩ : ∃ zs, IsRows W a0 len0 cap0 zs ∧ len0 ≤ 140737488351232 := by
    obtain ⟨fuel, hf⟩ := h0
    rcases open_int_rows Try.underlying35 Try.underlying23 Try.underlying5 (by kernel_rfl) (by kernel_rfl) hf with ⟨hcs, _⟩ | ⟨x, l, c, A, L, C, Z, hcs, _, hl, hm, hx, hr⟩
    · simp [Value.cells] at hcs
      obtain ⟨rfl, rfl, rfl⟩ := hcs
      exact ⟨[], ⟨rfl, Nat.le_refl _, by simp, rfl, by omega, fun hp => absurd hp (by omega)⟩, by omega⟩
    · simp [Value.cells] at hcs
      obtain ⟨rfl, rfl, rfl⟩ := hcs
      obtain ⟨hx, _⟩ := Prod.mk.inj hx
      subst hx
      have z := sized_slice hsz (j := 0) rfl rfl Try.underlying35
      have hb : Try.prog.bytesOf 23 = 24 := by kernel_rfl
      rw [hb] at z
      simp only [List.length_map, List.length_range] at z
      have hz2 : reachBytes = 140737488351232 := by decide
      exact ⟨_, rows_of W x len0 cap0 A L C Z hl hm hr, by omega⟩
  obtain ⟨a1, len1, cap1, rfl⟩ := okWide_slice Try.underlying23 (hval 1 23 v1 rfl rfl)
  have k1 := h1
  have lt1 : ∀ x ∈ p1, x.block < W.heap.size := by obtain ⟨m, hm⟩ := k1; exact DataW.trod_lt m _ _ _ hm
  obtain ⟨z1, w1⟩ : ∃ zs, IsRow .u8 W a1 len1 cap1 zs := by
    obtain ⟨fuel, hf⟩ := h1
    rcases open_ints Try.underlying23 Try.underlying5 (by kernel_rfl) hf with ⟨hcs, _⟩ | ⟨x, l, c, zs, hcs, _, hl, hm, hz, _, hcell, hwz⟩
    · simp [Value.cells] at hcs
      obtain ⟨rfl, rfl, rfl⟩ := hcs
      exact ⟨[], .inl ⟨rfl, rfl, rfl, rfl⟩⟩
    · simp [Value.cells] at hcs
      obtain ⟨rfl, rfl, rfl⟩ := hcs
      exact ⟨zs, .inr ⟨_, rfl, hl, hm, by simpa using hz, hcell, hwz⟩⟩
  clear hA0 hval0 hsz0 hsz
  obtain ⟨l1, rfl, hr1, hm1, hw1, hc1⟩ := ReadsInt.ofRowC w1
  obtain ⟨hz0l, hcap0, hz0w, hr0⟩ := w0
  subst hz0l
  obtain ⟨k, h⟩ := Pure.CheckRows z0 l1 (fun x hx n hn => bounds_u8 (hz0w x hx n hn)) y0 (fun n hn => bounds_u8 (hw1 n hn))
  refine (postbaglaw04_CheckRows.calls k _ _ z0 _ _ l1 true W hr0 hcap0 (Kd.C_of_reads (d := (0 : Int)) (h1 := fun _ => rfl) hr1) hc1 h).mono fun e W' ⟨he, bel⟩ => ?_
  subst he
  exact ⟨_, rfl, _, _, _, [], _, [], hW', trodAll_mk1 (shut_bool Try.underlying4 _), (trodAll_cons_mk (Below.trod laidOut (by kernel_rfl) (of_decide_eq_true (by kernel_rfl)) k0 bel lt0) (trodAll_cons_mk (Below.trod laidOut (by kernel_rfl) (of_decide_eq_true (by kernel_rfl)) k1 bel lt1) trodAll_mk0)), rfl, bel.frame _, fun h => by cases h⟩
theorem over : Rows.checkRowsRow.holds Try.pinned (OpenSpec.ofChange Rows.checkRowsSpec) :=
  OpenClaim.holds_of_wide 6 Try.f6 rfl rfl rfl rfl rfl rfl rfl ⟨rfl, rfl, rfl, rfl, rfl⟩ rfl rfl rfl rfl rfl (by kernel_rfl) Try.func6 (by kernel_rfl)
    (of_decide_eq_true (by kernel_rfl)) (by unfold Func.isWrapper; first | (rw [if_pos (by decide +kernel)]; kernel_rfl) | (rw [if_neg (by decide +kernel)]; exact ⟨rfl, rfl⟩))
    (fun os started H enc _ => lifted os started H enc)
theorem proved : Rows.CheckRowsSaid := over
#print axioms proved
end Go.Proofs.Ythlofokgbogndaa.checkRows
namespace Go.Proofs.Ythlofokgbogndaa
/-- The row, under a short name, for the claim. -/
theorem checkRows_holds : Rows.CheckRowsSaid := checkRows.proved
end Go.Proofs.Ythlofokgbogndaa
