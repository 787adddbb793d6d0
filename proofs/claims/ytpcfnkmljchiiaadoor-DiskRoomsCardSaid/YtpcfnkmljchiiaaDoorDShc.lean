/- The library's functions that the sweep calls: maps.Values, slices.Collect, slices.Contains; maps.Clone. The layings are the kit's print. -/
import Derived.Test.YtpcfnkmljchiiaaDoorDSyn
import Derived.Shelf.SlGeneric
import Derived.Shelf.SlIter.AllValues
import Derived.Shelf.SlIterI.Collect
import Derived.Shelf.SlMaps.Clone
namespace Go.Proofs.YtpcfnkmljchiiaaDoor.DShc
open Go Go.RowKit Go.Maps Go.WideMaps Go.Shelf Go.Proofs Go.Proofs.YtpcfnkmljchiiaaDoorW.PrintWords Go.Proofs.YtpcfnkmljchiiaaDoor.DPl Go.Proofs.YtpcfnkmljchiiaaDoor.DAt Go.Proofs.YtpcfnkmljchiiaaDoor.DEnt Go.Proofs.YtpcfnkmljchiiaaDoor.DUsd
set_option linter.unusedVariables false
set_option linter.unusedSimpArgs false
def valuesL_ren : Go.Shelf.Ren := ⟨fun | 5 => 77 | 7 => 81 | n => n, fun | 23 => 55 | 27 => 9 | 3 => 3 | 25 => 118 | 0 => 0 | 24 => 117 | 33 => 133 | 4 => 4 | n => n, fun | n => n⟩
theorem valuesL : Go.Proofs.SlLaysY.n5 Tryd.prog valuesL_ren := {
  mixed := by kernel_rfl
  f5 := ⟨Tryd.f77.name, by decide, Tryd.func77.trans (congrArg some (by kernel_rfl))⟩
  f7 := ⟨Tryd.f81.name, by decide, Tryd.func81.trans (congrArg some (by kernel_rfl))⟩
  t0 := Tryd.underlying0
  a0 := Tryd.isAgg0
  z0 := Tryd.sizeOf0
  v0 := Tryd.zeroValue0
  t3 := Tryd.underlying3
  a3 := Tryd.isAgg3
  z3 := Tryd.sizeOf3
  v3 := Tryd.zeroValue3
  t4 := Tryd.underlying4
  a4 := Tryd.isAgg4
  z4 := Tryd.sizeOf4
  v4 := Tryd.zeroValue4
  t23 := Tryd.underlying55
  a23 := Tryd.isAgg55
  z23 := Tryd.sizeOf55
  v23 := Tryd.zeroValue55
  t24 := Tryd.underlying117
  a24 := Tryd.isAgg117
  z24 := Tryd.sizeOf117
  v24 := Tryd.zeroValue117
  t25 := Tryd.underlying118
  a25 := Tryd.isAgg118
  z25 := Tryd.sizeOf118
  v25 := Tryd.zeroValue118
  t27 := Tryd.underlying9
  a27 := Tryd.isAgg9
  z27 := Tryd.sizeOf9
  v27 := Tryd.zeroValue9
  t33 := Tryd.underlying133
  a33 := Tryd.isAgg133
  z33 := Tryd.sizeOf133
  v33 := Tryd.zeroValue133 }
def collectL_ren : Go.Shelf.Ren := ⟨fun | 8 => 76 | 11 => 80 | n => n, fun | 26 => 3 | 28 => 118 | 24 => 32 | 0 => 0 | 33 => 133 | 4 => 4 | n => n, fun | n => n⟩
theorem collectL : Go.Proofs.SlLaysZI.n8 Tryd.prog collectL_ren := {
  mixed := by kernel_rfl
  f8 := ⟨Tryd.f76.name, by decide, Tryd.func76.trans (congrArg some (by kernel_rfl))⟩
  f11 := ⟨Tryd.f80.name, by decide, Tryd.func80.trans (congrArg some (by kernel_rfl))⟩
  t0 := Tryd.underlying0
  a0 := Tryd.isAgg0
  z0 := Tryd.sizeOf0
  v0 := Tryd.zeroValue0
  t24 := Tryd.underlying32
  a24 := Tryd.isAgg32
  z24 := Tryd.sizeOf32
  v24 := Tryd.zeroValue32
  t26 := Tryd.underlying3
  a26 := Tryd.isAgg3
  z26 := Tryd.sizeOf3
  v26 := Tryd.zeroValue3
  t28 := Tryd.underlying118
  a28 := Tryd.isAgg118
  z28 := Tryd.sizeOf118
  v28 := Tryd.zeroValue118
  i26 := by kernel_rfl }

theorem key_inj : ∀ {N : Nms}, N.Pairwise (fun p q => p.1 ≠ q.1) → ∀ {p q : List UInt8 × Int}, p ∈ N → q ∈ N → p.1 = q.1 → p = q
  | [], _, _, _, h, _, _ => by cases h
  | a :: r, hp, p, q, h1, h2, e => by
    obtain ⟨ha, hr⟩ := List.pairwise_cons.1 hp
    rcases List.mem_cons.1 h1 with e1 | e1
    · rcases List.mem_cons.1 h2 with e2 | e2
      · rw [e1, e2]
      · rw [e1] at e; exact absurd e (ha _ e2)
    · rcases List.mem_cons.1 h2 with e2 | e2
      · rw [e2] at e; exact absurd e.symm (ha _ e1)
      · exact key_inj hr e1 e2 e
theorem keys_len (N : Nms) : (Go.strKeys (nmData N)).length = N.length := by unfold nmData Go.strKeys; simp
theorem values_calls (m : Nat) (w : World) : Calls Tryd.prog 77 #[.map (some m)] w fun e w' => e = .returned (.func (.func 81) #[] #[.pointer (some ⟨w.heap.size, 0, none⟩)]) ∧ w' = w.alloc (.cells #[.map (some m)] 55) :=
  (callsIn_wide (n := 1)).1 (AnyY.values_in (ρ := valuesL_ren) valuesL Fence.wide 1 trivial rfl (some m) w)
/-- The files' numbers that have names, in whatever order. -/
theorem collect_calls (g m : Nat) (N : Nms) (w : World) (hg : g < w.heap.size) (hc : w.cell? ⟨g, 0, none⟩ = some (.map (some m))) (hN : NamesAt w m N) (hl : N.length ≤ 1000000000) :
    Calls Tryd.prog 76 #[.func (.func 81) #[] #[.pointer (some ⟨g, 0, none⟩)]] w fun e w' => ∃ (v : Value) (xs : List Int), e = .returned v ∧ (∀ i : Int, i ∈ xs ↔ ∃ p ∈ N, p.2 = i) ∧ xs.length = N.length ∧ w'.ownsRow w.heap.size 3 1 v xs.length (nums .i64 xs) ∧ Below w.heap.size w w' := by
  have hseq := (AnyY.values_stops (ρ := valuesL_ren) { valuesL with } (H := Unit) Fence.wide 2 trivial rfl (by omega) g m N.length (nmData N) w hg hc hN).gives
  have h := AnyZI.collect_in (ρ := collectL_ren) collectL Fence.wide 4 trivial trivial rfl (by omega) 81 #[.pointer (some ⟨g, 0, none⟩)] trivial (enters_of Tryd.func81 (by kernel_rfl) rfl)
    (fun xs => ∃ ps, AnyY.AllOf (nmData N) ps ∧ xs = ps.map (·.2)) (Maps.size (nmData N)) (by rw [nmData_size]; unfold maxLen; omega) (by rw [nmData_size]; omega) w hseq
  refine ((callsIn_wide (n := 4)).1 h).mono ?_
  rintro e w' ⟨v, xs, rfl, ⟨ps, ⟨hp, hk, hv⟩, rfl⟩, hrow, hnil, hb⟩
  refine ⟨v, ps.map (·.2), rfl, fun i => ?_, ?_, ?_, hb⟩
  · constructor
    · intro hi
      obtain ⟨q, hq, rfl⟩ := List.mem_map.1 hi
      exact ⟨(q.1, q.2), mem_at (hv q hq), rfl⟩
    · rintro ⟨q, hq, rfl⟩
      have h1 : Maps.has (nmData N) (.string q.1) = true := by rw [nmData_has]; exact List.any_eq_true.2 ⟨q, hq, by simp⟩
      obtain ⟨r, hr, e⟩ := List.mem_map.1 ((hk q.1).2 h1)
      have h2 := mem_at (hv r hr)
      have this : q = (r.1, r.2) := key_inj (names_nodup hN) hq h2 e.symm
      rw [this]
      exact List.mem_map.2 ⟨r, hr, rfl⟩
  · have h1 := hp.length_eq
    rw [List.length_map] at h1 ⊢
    rw [h1]
    exact keys_len N
  · have e : (ps.map (·.2)).map encZ = nums .i64 (ps.map (·.2)) := rfl
    rw [← e]
    exact hrow
/-- maps.Clone. -/
theorem clone_calls (m : Nat) (N : Nms) (w : World) (hN : NamesAt w m N) : Calls Tryd.prog 39 #[.map (some m)] w fun e w' => e = .returned (.map (some w.heap.size)) ∧ NamesAt w' w.heap.size N ∧ Below w.heap.size w w' := by
  obtain ⟨es, clock, hb, F, hs, hD⟩ := hN
  have hq := fun w => run_eql_map_nil_sl (P := Tryd.prog) w 55 _ _ (some m) Tryd.underlying55
  have hc := run_maps_clone_sl (P := Tryd.prog) w 55 hb
  have hx := fun (args : Array Value) (W : World) => run_callFunc_extern (P := Tryd.prog) (w := W) (args := args) Tryd.func71 (by kernel_rfl) (by kernel_rfl) (by kernel_rfl) (e := Extern.MapsClone.clone) (by kernel_rfl)
  have ht := fun (v : Value) (W : World) => run_typeAssert_map_sl (P := Tryd.prog) (w := W) 55 20 _ _ v Tryd.underlying55
  go_enter Tryd.func39, Tryd.ntmps39
  go_wp2
  go_ret
  exact ⟨rfl, ⟨es, clock, heap_alloc_new w _, F, hs, hD⟩, (Below.refl _ _).alloc (Nat.le_refl _) _⟩
set_option maxRecDepth 100000 in
set_option maxHeartbeats 4000000 in
theorem index_calls (A : Option Addr) (c : Nat) (xs : List Int) (x : Int) (w : World) (hR : ReadsInt w .i64 A xs.length xs) (hl : xs.length ≤ 1000000000) :
    Calls Tryd.prog 82 #[.slice A xs.length c, .int .i64 x] w fun e w' => (∃ j : Int, e = .returned (.int .i64 j) ∧ (0 ≤ j ↔ x ∈ xs)) ∧ w' = w := by
  have HR := Aside0.mk hR
  have HL := Aside0.mk hl
  have hll : (xs.length : Int) ≤ 1000000000 := by omega
  clear hR hl
  go_enter Tryd.func82, Tryd.ntmps82
  go_wp2
  go_loop [8] (fun i => ∃ k : Nat, k ≤ xs.length ∧ i = .int .i64 k ∧ Aside0 (∀ y ∈ xs.take k, y ≠ x)) (fun i => xs.length - (Go.RowKit.intOf i).toNat)
  case atStart => exact ⟨0, Nat.zero_le _, rfl, ⟨by simp⟩⟩
  case round =>
    obtain ⟨k, hk, rfl, HA⟩ := hrel
    by_cases hlt : k < xs.length
    · have t1 : decide (k < xs.length) = true := decide_eq_true hlt
      obtain ⟨ad, ea, hcell⟩ := HR.out.at_ (k : Int) (by omega) (by omega)
      subst ea
      have hrd : Go.Proofs.YtpcfnkmljchiiaaDoorW.PrintWords.rd xs (k : Int) = xs[k] := by unfold Go.Proofs.YtpcfnkmljchiiaaDoorW.PrintWords.rd; simp [hlt]
      rw [hrd, Int.toNat_natCast] at hcell
      have HT : Aside0 (xs.take (k + 1) = xs.take k ++ [xs[k]]) := ⟨by rw [List.take_succ_eq_append_getElem hlt]⟩
      have HM := Aside0.mk (List.getElem_mem hlt)
      obtain ⟨y, hy⟩ : ∃ y, y = xs[k] := ⟨_, rfl⟩
      rw [← hy] at hcell HT HM
      clear hrd hy
      have u0 : (0 : Int) ≤ (k : Int) := by omega
      have u1 : (k : Int) < (xs.length : Int) := by omega
      by_cases he : x = y
      · subst he
        have t2 : (x == x) = true := by simp
        go_wp2
        go_ret
        exact ⟨⟨k, rfl, ⟨fun _ => HM.out, fun _ => by omega⟩⟩, rfl⟩
      · have t2 : (x == y) = false := by simpa using he
        have HE := Aside0.mk he
        clear he
        go_wp2
        go_round
        case rel => exact ⟨k + 1, by omega, by go_num, ⟨by
          rw [HT.out]
          intro z hz
          rcases List.mem_append.1 hz with h | h
          · exact HA.out z h
          · rw [List.mem_singleton.1 h]; exact fun e => HE.out e.symm⟩⟩
        case measure => simp [Go.RowKit.intOf]; omega
    · have t1 : decide (k < xs.length) = false := decide_eq_false hlt
      have HK := Aside0.mk (show k = xs.length by omega)
      go_wp2
      go_ret
      exact ⟨⟨-1, rfl, ⟨fun h => by omega, fun h => by
        have := HA.out x (by rw [HK.out, List.take_of_length_le (Nat.le_refl _)]; exact h)
        exact absurd rfl this⟩⟩, rfl⟩
theorem contains_calls (A : Option Addr) (c : Nat) (xs : List Int) (x : Int) (w : World) (hR : ReadsInt w .i64 A xs.length xs) (hl : xs.length ≤ 1000000000) :
    Calls Tryd.prog 78 #[.slice A xs.length c, .int .i64 x] w fun e w' => e = .returned (.bool (decide (x ∈ xs))) ∧ w' = w := by
  have HI := Aside0.mk (index_calls A c xs x w hR hl)
  obtain ⟨b, hb⟩ : ∃ b, b = decide (x ∈ xs) := ⟨_, rfl⟩
  rw [← hb]
  have HB := Aside0.mk hb
  clear hb hR hl
  go_enter Tryd.func78, Tryd.ntmps78
  go_wp2_with (go_at_call 82; refine HI.out.mono ?_; rintro e w1 ⟨⟨j, rfl, hj⟩, rfl⟩; have HJ := Aside0.mk hj; clear hj)
  go_ret
  exact ⟨by rw [HB.out, decide_eq_decide.2 HJ.out]; rfl, rfl⟩
end Go.Proofs.YtpcfnkmljchiiaaDoor.DShc
