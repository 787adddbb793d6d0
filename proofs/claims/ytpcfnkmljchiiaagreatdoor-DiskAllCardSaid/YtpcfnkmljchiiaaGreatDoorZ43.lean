/- Steps towards RDiskAll: DRow. -/
import Derived.Test.YtpcfnkmljchiiaaGreatDoorZ02
import Derived.WalkKit
import Derived.ProofKit
import Derived.OpenShut
import Derived.ShutString
import Derived.SliceStrings
import Derived.ChangeOld
import Derived.Below
import Derived.SizedLaws
set_option linter.unusedVariables false
set_option linter.unusedSimpArgs false
/- What an argument that reads as data holds: rows of structs, opened. -/
namespace Go.Proofs.YtpcfnkmljchiiaaGreatDoor.DRow
open Go Go.ChangeShapes Go.WideShapes Go.ChangeAt Go.RowKit Go.Proofs.YtpcfnkmljchiiaaGreatDoorW.PrintWords GPl
section
variable {H : Type} {enc : TypeId × Value → H} {P : Program} {w : World} {base : Nat} {sp : Nat → Bool} {held : Bool}
/-- Cells that read as data of a type are an element of a kind. -/
def Rd (enc : TypeId × Value → H) (P : Program) (w : World) (base : Nat) (sp : Nat → Bool) (held : Bool) {α : Type} (d : Kd α) (t : TypeId) (Q : α → Prop) : Prop :=
  ∀ (n : Nat) (cs : List Value) (x : DataW H × List MemPlace), DataW.trod enc P w base sp held n t cs = some x → (∀ b ∈ x.1.weights P t, b ≤ reachBytes) → ∃ a, d.K w a cs ∧ Q a
theorem rd_int {t : TypeId} {k : IntKind} (ht : P.underlying t = some (.int k)) : Rd enc P w base sp held (Kd.int k) t (fun z => (Lit.int k z).wf = true) := by
  intro n cs x h _
  obtain ⟨z, rfl, rfl, hw⟩ := DataW.trod_int ht h
  exact ⟨z, rfl, hw⟩
theorem rd_string {t : TypeId} (ht : P.underlying t = some .string) : Rd enc P w base sp held Kd.string t (fun s => s.size ≤ reachBytes) := by
  intro n cs x h hb
  obtain ⟨s, rfl, rfl, hw⟩ := DataW.trod_string ht h
  refine ⟨s, rfl, ?_⟩
  have := hb s.data.toList.length (by simp [DataW.weights])
  simpa using this
theorem all_mem {e : TypeId} {y : DataW H} {l : List (DataW H)} (hy : y ∈ l) : ∀ b ∈ y.weights P e, b ∈ DataW.weightsAll P e l := by
  induction l with
  | nil => cases hy
  | cons a r ih =>
    intro b hb
    rw [DataW.weightsAll]
    rcases List.mem_cons.1 hy with rfl | hy
    · exact List.mem_append_left _ hb
    · exact List.mem_append_right _ (ih hy b hb)
theorem rd_slice {α : Type} {d : Kd α} {Q : α → Prop} {t e : TypeId} (ht : P.underlying t = some (.slice e)) (hc : P.cellsOf e = d.sz) (he : Rd enc P w base sp held d e Q) :
    Rd enc P w base sp held (Kd.slice e d) t (fun xs => xs.length ≤ maxLen ∧ ∀ x ∈ xs, Q x) := by
  intro n cs x h hb
  rcases DataW.trod_slice ht h with ⟨rfl, rfl⟩ | ⟨a, len, cap, elems, rest, m, _, rfl, rfl, hbs, hl, hm, hlen, hel, _, _⟩
  · exact ⟨[], ⟨none, 0, rfl, Nat.le_refl _, rfl, by simp, fun h => absurd h (Nat.lt_irrefl 0)⟩, Nat.zero_le _, fun x hx => by cases hx⟩
  have each : ∀ i, i < len → ∃ (y : α) (cs' : List Value), w.cells? base (a.add (i * P.cellsOf e)) (P.cellsOf e) = some cs' ∧ d.K w y cs' ∧ Q y := by
    intro i hi
    have h1 := hel i hi
    rw [List.getElem?_eq_getElem (by omega : i < elems.length), Option.bind_eq_some_iff] at h1
    obtain ⟨cs', hcs, hy⟩ := h1
    obtain ⟨y, hk, hq⟩ := he _ _ _ hy (fun b hbm => hb b (by
      simp only [DataW.weights, ht]
      refine List.mem_cons_of_mem _ (List.mem_append_left _ (all_mem (y := (elems[i]'(by omega)).1) ?_ b hbm))
      exact List.mem_map.2 ⟨_, List.getElem_mem _, rfl⟩))
    exact ⟨y, cs', hcs, hk, hq⟩
  have build : ∀ m, m ≤ len → ∃ xs : List α, xs.length = m ∧ ∀ i, i < m → ∃ (y : α) (cs' : List Value), xs[i]? = some y ∧ w.cells? base (a.add (i * P.cellsOf e)) (P.cellsOf e) = some cs' ∧ d.K w y cs' ∧ Q y := by
    intro m
    induction m with
    | zero => exact fun _ => ⟨[], rfl, fun i hi => absurd hi (Nat.not_lt_zero i)⟩
    | succ m ih =>
      intro hm
      obtain ⟨xs, hx, hall⟩ := ih (by omega)
      obtain ⟨y, cs', h1, h2, h3⟩ := each m (by omega)
      refine ⟨xs ++ [y], by simp [hx], fun i hi => ?_⟩
      by_cases hi2 : i < m
      · obtain ⟨y2, cs2, e2, r⟩ := hall i hi2
        exact ⟨y2, cs2, by rw [List.getElem?_append_left (by omega)]; exact e2, r⟩
      · obtain rfl : i = m := by omega
        exact ⟨y, cs', by rw [List.getElem?_append_right (by omega), hx, Nat.sub_self]; rfl, h1, h2, h3⟩
  obtain ⟨xs, hx, hall⟩ := build len (Nat.le_refl _)
  refine ⟨xs, ⟨some a, cap, by rw [hx], by omega, rfl, by rw [hx]; unfold maxLen at hm; omega, fun _ => ⟨a, rfl, fun j p hj => ?_⟩⟩, by rw [hx]; unfold maxLen at hm ⊢; omega, fun y hy => ?_⟩
  · have hjl := (List.getElem?_eq_some_iff.1 hj).1
    obtain ⟨y, cs', e1, h1, h2, h3⟩ := hall j (by omega)
    rw [hj] at e1
    obtain rfl := Option.some.inj e1
    obtain ⟨_, k1, k2⟩ := World.cells?_some h1
    refine ⟨cs', by rw [k1, hc], h2, fun i u hu => ?_⟩
    have hi := (List.getElem?_eq_some_iff.1 hu).1
    have := k2 i (by omega)
    rw [add_add, hc] at this
    rw [this]
    exact hu
  · obtain ⟨j, hj⟩ := List.getElem?_of_mem hy
    have hjl := (List.getElem?_eq_some_iff.1 hj).1
    obtain ⟨y2, cs', e1, h1, h2, h3⟩ := hall j (by omega)
    rw [hj] at e1
    obtain rfl := Option.some.inj e1
    exact h3
end
/-- What is known of an op's texts. -/
structure Sm (o : S35) : Prop where
  a2 : o.f2.size ≤ reachBytes
  a3 : o.f3.size ≤ reachBytes
  a1 : (Lit.int .i64 o.f1).wf = true
  a4 : o.f4.length ≤ maxLen
  a5 : o.f5.length ≤ maxLen
section
variable {H : Type} {enc : TypeId × Value → H} {w : World} {base : Nat} {sp : Nat → Bool} {held : Bool}
set_option maxRecDepth 100000 in
theorem rd_op : Rd enc Tryz.prog w base sp held k35 35 Sm := by
  intro n cs x h hb
  cases n with
  | zero => simp [DataW.trod] at h
  | succ n =>
    rw [DataW.trod_step] at h
    unfold DataW.trodStep at h
    simp only [Tryz.underlying35] at h
    have hc : Tryz.prog.cellsOf 35 = 6 := by kernel_rfl
    rw [hc] at h
    split at h
    · rename_i hl
      obtain ⟨xs, hm, rfl⟩ := Option.map_eq_some_iff.1 h
      have g := mapM_some_get hm
      have hlx : xs.length = 6 := mapM_some_length hm
      match cs, hl with
      | [v0, v1, v2, v3, v4, v5], _ =>
      have c3 : Tryz.prog.cellsOf 3 = 1 := by kernel_rfl
      have c9 : Tryz.prog.cellsOf 9 = 1 := by kernel_rfl
      have c37 : Tryz.prog.cellsOf 32 = 1 := by kernel_rfl
      have c32 : Tryz.prog.cellsOf 33 = 1 := by kernel_rfl
      have wt : ∀ (i : Nat) (t : TypeId) (y : DataW H × List MemPlace), [3, 3, 9, 9, 32, 33][i]? = some t → xs[i]? = some y → ∀ b ∈ y.1.weights Tryz.prog t, b ≤ reachBytes := fun i t y ht hy b hbm => hb b (by
        simp only [DataW.weights, Tryz.underlying35]
        exact DataW.weights_mem_each (j := i) (t := t) (d := y.1) ht (by rw [List.getElem?_map, hy]; rfl) b hbm)
      have gt : ∀ i, i < 6 → ∃ y, xs[i]? = some y := fun i hi => ⟨_, List.getElem?_eq_getElem (by omega)⟩
      obtain ⟨y0, e0⟩ := gt 0 (by omega)
      obtain ⟨y1, e1⟩ := gt 1 (by omega)
      obtain ⟨y2, e2⟩ := gt 2 (by omega)
      obtain ⟨y3, e3⟩ := gt 3 (by omega)
      obtain ⟨y4, e4⟩ := gt 4 (by omega)
      obtain ⟨y5, e5⟩ := gt 5 (by omega)
      have g0 := g 0 _ rfl
      have g1 := g 1 _ rfl
      have g2 := g 2 _ rfl
      have g3 := g 3 _ rfl
      have g4 := g 4 _ rfl
      have g5 := g 5 _ rfl
      simp only [c3, c9, c37, c32, e0, e1, e2, e3, e4, e5, List.drop_succ_cons, List.drop_zero, List.take_succ_cons, List.take_zero] at g0 g1 g2 g3 g4 g5
      obtain ⟨a0, k0, _⟩ := rd_int Tryz.underlying3 _ _ _ g0 (wt 0 _ _ rfl e0)
      obtain ⟨a1, k1, q1⟩ := rd_int Tryz.underlying3 _ _ _ g1 (wt 1 _ _ rfl e1)
      obtain ⟨a2, k2, q2⟩ := rd_string Tryz.underlying9 _ _ _ g2 (wt 2 _ _ rfl e2)
      obtain ⟨a3, k3, q3⟩ := rd_string Tryz.underlying9 _ _ _ g3 (wt 3 _ _ rfl e3)
      obtain ⟨a4, k4, q4, _⟩ := rd_slice (d := Kd.int .u8) Tryz.underlying32 (by kernel_rfl) (rd_int Tryz.underlying5) _ _ _ g4 (wt 4 _ _ rfl e4)
      obtain ⟨a5, k5, q5, _⟩ := rd_slice (d := Kd.int .i64) Tryz.underlying33 (by kernel_rfl) (rd_int Tryz.underlying3) _ _ _ g5 (wt 5 _ _ rfl e5)
      exact ⟨⟨a0, a1, a2, a3, a4, a5⟩, ⟨[v0], [v1, v2, v3, v4, v5], rfl, k0, [v1], [v2, v3, v4, v5], rfl, k1, [v2], [v3, v4, v5], rfl, k2, [v3], [v4, v5], rfl, k3, [v4], [v5], rfl, k4, k5⟩, ⟨q2, q3, q1, q4, q5⟩⟩
    · cases h
/-- A row of ops among the arguments. -/
theorem open_ops {A : Option Addr} {len cap : Nat} {x : DataW H × List MemPlace} {ts : List TypeId} {ds : List (DataW H)} {j n : Nat} (hsz : (DataW.weightsEach Tryz.prog ts ds).all (· ≤ reachBytes) = true) (hj : ts[j]? = some 22) (hd : ds[j]? = some x.1)
    (h : DataW.trod enc Tryz.prog w base sp held n 22 [.slice A len cap] = some x) : ∃ l : List S35, len = l.length ∧ Kd.C k35 w A l.length l ∧ l.length ≤ cap ∧ l.length ≤ maxLen ∧ ∀ o ∈ l, Sm o := by
  obtain ⟨l, ⟨A2, c2, e, hc, hC⟩, hm, hq⟩ := rd_slice (d := k35) Tryz.underlying22 (by kernel_rfl) rd_op _ _ _ h (fun b hb => by
    have := List.all_eq_true.1 hsz _ (DataW.weights_mem_each hj hd b hb)
    simpa using this)
  simp only [List.cons.injEq, Value.slice.injEq, and_true] at e
  obtain ⟨rfl, rfl, rfl⟩ := e
  exact ⟨l, rfl, hC, hc, hm, hq⟩
end
end Go.Proofs.YtpcfnkmljchiiaaGreatDoor.DRow
