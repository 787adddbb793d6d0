/- Steps towards RDiskAll: DRd. -/
import Derived.Test.YtpcfnkmljchiiaaGreatDoorZ15
set_option linter.unusedVariables false
set_option linter.unusedSimpArgs false
/- The document's disk in the heap; its step. -/
namespace Go.Proofs.YtpcfnkmljchiiaaGreatDoor.DRd
open Go Go.RowKit Go.Maps Go.Proofs.YtpcfnkmljchiiaaGreatDoorW.PrintWords Go.Proofs.YtpcfnkmljchiiaaGreatDoorW.PrintLast DPl DAt DRf DRn
/-- The kinds of blocks that the document's disk writes. -/
def rkT (t : TypeId) : Bool := t == 47 || t == 48 || t == 51 || t == 144 || t == 147
def rk : Obj → Bool
  | .cells _ t _ => rkT t
  | _ => false
/-- A call has turned nothing but blocks of the document's kinds, from B on. -/
structure RTurn (B : Nat) (w w' : World) : Prop where
  os : w'.os = w.os
  tape : w'.tape = w.tape
  output : w'.output = w.output
  size : w.heap.size ≤ w'.heap.size
  low : ∀ k, k < B → k < w.heap.size → w'.heap[k]? = w.heap[k]?
  kind : ∀ (k : Nat) (o : Obj), w.heap[k]? = some o → rk o = false → w'.heap[k]? = some o
variable {B : Nat} {a b c w w' w1 : World}
theorem RTurn.refl (B : Nat) (w : World) : RTurn B w w := ⟨rfl, rfl, rfl, Nat.le_refl _, fun _ _ _ => rfl, fun _ _ h _ => h⟩
theorem RTurn.trans (h : RTurn B a b) (k : RTurn B b c) : RTurn B a c :=
  ⟨k.os.trans h.os, k.tape.trans h.tape, k.output.trans h.output, Nat.le_trans h.size k.size, fun i hi hs => (k.low i hi (Nat.lt_of_lt_of_le hs h.size)).trans (h.low i hi hs), fun i o ho hd => k.kind i o (h.kind i o ho hd) hd⟩
theorem RTurn.of_below (hb : Below w.heap.size w w') : RTurn B w w' :=
  ⟨hb.os, hb.tape, hb.output, hb.size, fun k _ hs => hb.block k hs, fun k o ho _ => (hb.block k (blk_lt ho)).trans ho⟩
theorem RTurn.setCell (h : RTurn B a w) {g : Nat} {cs : Array Value} {t : TypeId} {m : Nat × Nat} (hg : w.heap[g]? = some (.cells cs t m)) (ht : rkT t = true) (hB : B ≤ g) (i : Nat) (u : Value) : RTurn B a (w.setCell ⟨g, i, none⟩ u) := by
  have hk : ∀ k, k ≠ g → (w.setCell ⟨g, i, none⟩ u).heap[k]? = w.heap[k]? := fun k hk => Below.heap_setCell w ⟨g, i, none⟩ u k hk
  refine h.trans ⟨rfl, rfl, rfl, by simp [World.setCell], fun k h1 h2 => hk k (by omega), fun k o ho hd => ?_⟩
  by_cases e : k = g
  · subst e
    rw [hg] at ho
    obtain rfl := Option.some.inj ho
    exact absurd hd (by simp [rk, ht])
  · exact (hk k e).trans ho
theorem RTurn.toBelow (h : RTurn B a w) (hB : B ≤ a.heap.size) : Below B a w := ⟨h.os, h.tape, h.output, h.size, fun k hk => h.low k hk (by omega)⟩
/-- The document's struct: files, the sure names and their numbers, open steps, quota, armed, off, steps. -/
def rdO (fv nv iv ov : Value) (q ar : Int) (off : Bool) (st : Int) : Obj := .cells #[fv, nv, iv, ov, .int .i64 q, .int .i64 ar, .bool off, .int .i64 st] 47 (0, 0)
def rstepD (D : Dsk) : Int × Dsk := if D.armed = 0 then (8, offD D) else (0, stepD D)
set_option maxRecDepth 100000 in
set_option maxHeartbeats 8000000 in
/-- step: only the struct's own cells are turned. -/
theorem rstep_calls (p : Nat) (D : Dsk) (fv nv iv ov : Value) (w : World) (ho : w.heap[p]? = some (rdO fv nv iv ov D.quota D.armed D.off D.steps)) (hp : B ≤ p) (ha : -1 ≤ D.armed) (ha2 : D.armed ≤ 9223372036854775807) (hs0 : 0 ≤ D.steps) (hs : D.steps ≤ 1000000000) :
    Calls Tryz.prog 102 #[.pointer (some ⟨p, 0, none⟩)] w fun e w' => e = .returned (.int .i64 (rstepD D).1) ∧ w'.heap[p]? = some (rdO fv nv iv ov (rstepD D).2.quota (rstepD D).2.armed (rstepD D).2.off (rstepD D).2.steps) ∧ But w w' (some p) ∧ RTurn B w w' := by
  have HO := Aside0.mk ho
  have c5 : w.cell? ⟨p, 5, none⟩ = some (.int .i64 D.armed) := (blk_cell ho 5).trans rfl
  unfold rstepD
  by_cases h0 : D.armed = 0
  · rw [if_pos h0]
    rw [h0] at c5
    have f6 := blk_frozen ho 6
    have c6 : w.cell? ⟨p, 6, none⟩ = some (.bool D.off) := (blk_cell ho 6).trans rfl
    clear ho
    go_enter Tryz.func102, Tryz.ntmps102
    go_wp2
    go_ret
    exact ⟨rfl, blk_put HO.out 6 _ rfl, But.setCell w ⟨p, 6, none⟩ _, (RTurn.refl B w).setCell HO.out rfl hp 6 _⟩
  · rw [if_neg h0]
    obtain ⟨ar, har⟩ : ∃ ar, ar = D.armed := ⟨_, rfl⟩
    obtain ⟨st, hst⟩ : ∃ st, st = D.steps := ⟨_, rfl⟩
    have HA := Aside0.mk har
    have HS := Aside0.mk hst
    rw [← har] at c5 h0 ha ha2
    rw [← hst] at hs hs0
    have t0 : (ar == 0) = false := by simpa using h0
    have f5 := blk_frozen ho 5
    have f7 := blk_frozen ho 7
    have c7 : w.cell? ⟨p, 7, none⟩ = some (.int .i64 st) := by rw [hst]; exact (blk_cell ho 7).trans rfl
    clear har hst ho
    by_cases h1 : 0 < ar
    · have t1 : decide (0 < ar) = true := decide_eq_true h1
      have HO2 := Aside0.mk (blk_put HO.out 5 (.int .i64 (ar - 1)) rfl)
      have d7 : (w.setCell ⟨p, 5, none⟩ (.int .i64 (ar - 1))).cell? ⟨p, 7, none⟩ = some (.int .i64 st) := by rw [HS.out]; exact (blk_cell HO2.out 7).trans rfl
      have g7 := blk_frozen HO2.out 7
      go_enter Tryz.func102, Tryz.ntmps102
      go_wp2
      go_ret
      refine ⟨rfl, ?_, (But.setCell w ⟨p, 5, none⟩ _).trans (But.setCell _ ⟨p, 7, none⟩ _), ((RTurn.refl B w).setCell HO.out rfl hp 5 _).setCell HO2.out rfl hp 7 _⟩
      have e : (stepD D).armed = ar - 1 := by unfold stepD; simp only; rw [← HA.out, if_pos h1]
      rw [e, show (stepD D).steps = st + 1 by unfold stepD; simp only; rw [← HS.out]]
      exact blk_put HO2.out 7 _ rfl
    · have t1 : decide (0 < ar) = false := decide_eq_false h1
      go_enter Tryz.func102, Tryz.ntmps102
      go_wp2
      go_ret
      refine ⟨rfl, ?_, But.setCell w ⟨p, 7, none⟩ _, (RTurn.refl B w).setCell HO.out rfl hp 7 _⟩
      have e : (stepD D).armed = D.armed := by unfold stepD; simp only; rw [← HA.out, if_neg (by omega)]
      rw [e, show (stepD D).steps = st + 1 by unfold stepD; simp only; rw [← HS.out]]
      exact blk_put HO.out 7 _ rfl
end Go.Proofs.YtpcfnkmljchiiaaGreatDoor.DRd
