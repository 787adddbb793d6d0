/- entry.do: names behind a step. -/
import Derived.Test.YtpcfnkmljchiiaaDoorDAt
import Derived.Carry
import Derived.Tactics2
import Derived.OwnWalk
namespace Go.Proofs.YtpcfnkmljchiiaaDoor.DEnt
open Go Go.RowKit Go.Maps Go.WideMaps Go.Proofs.YtpcfnkmljchiiaaDoorW.PrintWords Go.Proofs.YtpcfnkmljchiiaaDoor.DPl Go.Proofs.YtpcfnkmljchiiaaDoor.DAt
set_option linter.unusedVariables false
set_option linter.unusedSimpArgs false
theorem law : Keyed Tryd.prog 9 := string_keyed Tryd.underlying9
theorem zeroE (w : World) : (zeroValue 3).run Tryd.prog w = .ok (.int .i64 0) w := by kernel_rfl
theorem keyS (s : ByteArray) (hs : s.size ≤ 24) : keyOf Tryd.prog 9 (.string s) = some (.string s.data.toList) := keyOf_string_mk Tryd.underlying9 (by unfold maxLen; omega)
def entV (e : Ent) : Value := .agg #[.string e.name, .string e.gone, .int .i64 e.file]
set_option maxRecDepth 100000 in
set_option maxHeartbeats 4000000 in
theorem ent_calls0 (name gone : ByteArray) (file : Int) (he1 : name.size ≤ 24) (he2 : gone.size ≤ 24) (hf : file ≤ 9223372036854775807) (hf0 : -9223372036854775808 ≤ file) (m : Nat) (N : Nms) (w : World) (hN : NamesAt w m N) (hl : N.length < 9223372036854775807) :
    Calls Tryd.prog 63 #[.agg #[.string name, .string gone, .int .i64 file], .map (some m)] w fun en w' => en = .returned (.tuple #[]) ∧ NamesAt w' m (Ent.go ⟨name, gone, file⟩ N) ∧ w.grownBy w' (some m) := by
  have K1 := keyS gone he2
  have K2 := keyS name he1
  have HO := Aside0.mk (World.ownsMap.alloc (show w.ownsMap (H := Unit) Tryd.prog 9 (plainElem Tryd.prog 3) m N.length (nmData N) from hN) (.cells #[.string name, .string gone, .int .i64 file] 65))
  have HL := Aside0.mk hl
  have HM := Aside0.mk hN.lt
  have HW := Aside0.mk (WalkArith.wf_i64 (n := file) ⟨by omega, by omega⟩)
  have HD := Aside0.mk (show (delN N gone.data.toList).length < maxLen by unfold maxLen; have := len_delN N gone.data.toList; omega)
  have HMN := Aside0.mk (show some w.heap.size ≠ some m by intro e; have := Option.some.inj e; have := HM.out; omega)
  clear hN hl he1 he2 hf hf0
  by_cases h0 : 0 ≤ file
  · have HE := Aside0.mk (show Ent.go ⟨name, gone, file⟩ N = putN (delN N gone.data.toList) name.data.toList file from if_pos h0)
    have t1 : decide (0 ≤ file) = true := decide_eq_true h0
    clear h0
    go_enter Tryd.func63, Tryd.ntmps63
    go_wp2_with (first
      | (at_delete; refine wpList_delete_own _ rfl _ _ 55 9 rfl 3 law Tryd.underlying55 _ m N.length (nmData N) rfl HO.out _ _ rfl K1 ?_; intro w1 hown1 hturn1; rw [← nmData_del] at hown1; have g0 := hturn1.grown.cell (a := ⟨w.heap.size, 0, none⟩) (v := .string name) (World.cell?_alloc_new _ _ _ _) HMN.out; have g2 := hturn1.grown.cell (a := ⟨w.heap.size, 2, none⟩) (v := .int .i64 file) (World.cell?_alloc_new _ _ _ _) HMN.out; have HT1 := Aside0.mk hturn1; have HO1 := Aside0.mk (names_of hown1); clear hturn1 hown1)
      | (at_mapUpdate; refine wpList_mapUpdate_own _ rfl _ _ _ 55 rfl 9 3 law Tryd.underlying55 _ m _ _ rfl HO1.out HD.out _ _ _ rfl rfl K2 _ [] (plainElem_int Tryd.underlying3 HW.out) ?_; intro w2 hown2 hgrow2; rw [← nmData_put] at hown2; have HG2 := Aside0.mk hgrow2; have HO2 := Aside0.mk (names_of hown2); clear hgrow2 hown2))
    go_end0
    exact ⟨rfl, by rw [HE.out]; exact HO2.out, (World.grownBy_alloc _ _ _).trans (HT1.out.grown.trans HG2.out)⟩
  · have HE := Aside0.mk (show Ent.go ⟨name, gone, file⟩ N = delN N gone.data.toList from if_neg h0)
    have t1 : decide (0 ≤ file) = false := decide_eq_false h0
    clear h0
    go_enter Tryd.func63, Tryd.ntmps63
    go_wp2_with (first
      | (at_delete; refine wpList_delete_own _ rfl _ _ 55 9 rfl 3 law Tryd.underlying55 _ m N.length (nmData N) rfl HO.out _ _ rfl K1 ?_; intro w1 hown1 hturn1; rw [← nmData_del] at hown1; have g0 := hturn1.grown.cell (a := ⟨w.heap.size, 0, none⟩) (v := .string name) (World.cell?_alloc_new _ _ _ _) HMN.out; have g2 := hturn1.grown.cell (a := ⟨w.heap.size, 2, none⟩) (v := .int .i64 file) (World.cell?_alloc_new _ _ _ _) HMN.out; have HT1 := Aside0.mk hturn1; have HO1 := Aside0.mk (names_of hown1); clear hturn1 hown1))
    go_end0
    exact ⟨rfl, by rw [HE.out]; exact HO1.out, (World.grownBy_alloc _ _ _).trans HT1.out.grown⟩
theorem ent_calls (e : Ent) (he1 : e.name.size ≤ 24) (he2 : e.gone.size ≤ 24) (hf : e.file ≤ 9223372036854775807) (hf0 : -9223372036854775808 ≤ e.file) (m : Nat) (N : Nms) (w : World) (hN : NamesAt w m N) (hl : N.length < 9223372036854775807) :
    Calls Tryd.prog 63 #[entV e, .map (some m)] w fun en w' => en = .returned (.tuple #[]) ∧ NamesAt w' m (e.go N) ∧ w.grownBy w' (some m) := ent_calls0 e.name e.gone e.file he1 he2 hf hf0 m N w hN hl
end Go.Proofs.YtpcfnkmljchiiaaDoor.DEnt
