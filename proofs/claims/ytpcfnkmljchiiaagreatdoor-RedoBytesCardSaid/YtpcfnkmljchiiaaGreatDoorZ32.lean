/- Steps towards RBoth: DLay. -/
import Derived.Shelf.SlIter.Sorted
import Derived.Shelf.SlIter.Nil
import Derived.Shelf.SlGeneric
import Derived.Shelf.SortM.Plain
import Derived.Shelf.SortM.SortNone
import Derived.Test.YtpcfnkmljchiiaaGreatDoorZ12
import Derived.Test.YtpcfnkmljchiiaaGreatDoorZ31
set_option linter.unusedVariables false
set_option linter.unusedSimpArgs false
/- The library's sorted keys of a map, laid at this program (the layings are the kit's print). -/
namespace Go.Proofs.YtpcfnkmljchiiaaGreatDoor.DLay
open Go Go.RowKit Go.Maps Go.Sort Go.Shelf Go.Proofs DPl DAt DDo DRl DRn DLsp DRdp Go.Proofs.YtpcfnkmljchiiaaGreatDoorW.PrintWords
def keysA_ren : Go.Shelf.Ren := ⟨fun | 7 => 61 | 10 => 110 | n => n, fun | 23 => 83 | 26 => 9 | 3 => 3 | 28 => 101 | 0 => 0 | 27 => 100 | 33 => 120 | 4 => 4 | n => n, fun | n => n⟩
theorem keysA : Go.Proofs.SlLaysZ.n7 Tryz.prog keysA_ren := {
  mixed := by kernel_rfl
  f7 := ⟨Tryz.f61.name, by decide, Tryz.func61.trans (congrArg some (by kernel_rfl))⟩
  f10 := ⟨Tryz.f110.name, by decide, Tryz.func110.trans (congrArg some (by kernel_rfl))⟩
  t0 := Tryz.underlying0
  a0 := Tryz.isAgg0
  z0 := Tryz.sizeOf0
  v0 := Tryz.zeroValue0
  t4 := Tryz.underlying4
  a4 := Tryz.isAgg4
  z4 := Tryz.sizeOf4
  v4 := Tryz.zeroValue4
  t23 := Tryz.underlying83
  a23 := Tryz.isAgg83
  z23 := Tryz.sizeOf83
  v23 := Tryz.zeroValue83
  t26 := Tryz.underlying9
  a26 := Tryz.isAgg9
  z26 := Tryz.sizeOf9
  v26 := Tryz.zeroValue9
  t27 := Tryz.underlying100
  a27 := Tryz.isAgg100
  z27 := Tryz.sizeOf100
  v27 := Tryz.zeroValue100
  t28 := Tryz.underlying101
  a28 := Tryz.isAgg101
  z28 := Tryz.sizeOf101
  v28 := Tryz.zeroValue101
  t33 := Tryz.underlying120
  a33 := Tryz.isAgg120
  z33 := Tryz.sizeOf120
  v33 := Tryz.zeroValue120 }
def sortedA_ren : Go.Shelf.Ren := ⟨fun | 6 => 60 | 8 => 108 | 9 => 109 | 11 => 130 | 13 => 132 | 12 => 131 | 23 => 149 | 24 => 150 | 14 => 140 | 15 => 141 | 16 => 142 | 17 => 143 | 18 => 144 | 19 => 145 | 20 => 146 | 21 => 147 | 22 => 148 | 25 => 151 | 26 => 152 | 27 => 153 | 28 => 154 | 29 => 155 | 30 => 156 | 31 => 157 | n => n, fun | 26 => 9 | 28 => 101 | 24 => 37 | 0 => 0 | 3 => 3 | 37 => 126 | 48 => 171 | 50 => 203 | 4 => 4 | 40 => 195 | 39 => 194 | 45 => 136 | 5 => 5 | 9 => 9 | 51 => 204 | 55 => 150 | 57 => 209 | 58 => 210 | 33 => 120 | n => n, fun | n => n⟩
theorem sortedA : Go.Proofs.SlLaysZ.n6 Tryz.prog sortedA_ren := {
  mixed := by kernel_rfl
  f6 := ⟨Tryz.f60.name, by decide, Tryz.func60.trans (congrArg some (by kernel_rfl))⟩
  f8 := ⟨Tryz.f108.name, by decide, Tryz.func108.trans (congrArg some (by kernel_rfl))⟩
  f11 := ⟨Tryz.f130.name, by decide, Tryz.func130.trans (congrArg some (by kernel_rfl))⟩
  t0 := Tryz.underlying0
  a0 := Tryz.isAgg0
  z0 := Tryz.sizeOf0
  v0 := Tryz.zeroValue0
  t24 := Tryz.underlying37
  a24 := Tryz.isAgg37
  z24 := Tryz.sizeOf37
  v24 := Tryz.zeroValue37
  t26 := Tryz.underlying9
  a26 := Tryz.isAgg9
  z26 := Tryz.sizeOf9
  v26 := Tryz.zeroValue9
  t28 := Tryz.underlying101
  a28 := Tryz.isAgg101
  z28 := Tryz.sizeOf101
  v28 := Tryz.zeroValue101
  i26 := by kernel_rfl }
def sortA_ren : Go.Shelf.Ren := ⟨fun | 6 => 109 | 8 => 132 | 9 => 131 | 19 => 149 | 20 => 150 | 21 => 140 | 22 => 141 | 23 => 142 | 24 => 143 | 25 => 144 | 26 => 145 | 27 => 146 | 28 => 147 | 29 => 148 | 36 => 151 | 31 => 152 | 32 => 153 | 37 => 154 | 38 => 155 | 39 => 156 | 41 => 157 | n => n, fun | 27 => 37 | 29 => 9 | 3 => 3 | 32 => 126 | 26 => 37 | 0 => 0 | 44 => 171 | 46 => 203 | 4 => 4 | 36 => 195 | 35 => 194 | 41 => 136 | 5 => 5 | 9 => 9 | 53 => 204 | 57 => 150 | 63 => 209 | 64 => 210 | n => n, fun | n => n⟩
theorem sortA : Go.Proofs.SlLaysM.n6 Tryz.prog sortA_ren := {
  mixed := by kernel_rfl
  f6 := ⟨Tryz.f109.name, by decide, Tryz.func109.trans (congrArg some (by kernel_rfl))⟩
  f8 := Tryz.func132.trans (congrArg some (by kernel_rfl))
  f9 := ⟨Tryz.f131.name, by decide, Tryz.func131.trans (congrArg some (by kernel_rfl))⟩
  f19 := Tryz.func149.trans (congrArg some (by kernel_rfl))
  f20 := Tryz.func150.trans (congrArg some (by kernel_rfl))
  f21 := ⟨Tryz.f140.name, by decide, Tryz.func140.trans (congrArg some (by kernel_rfl))⟩
  f22 := ⟨Tryz.f141.name, by decide, Tryz.func141.trans (congrArg some (by kernel_rfl))⟩
  f23 := ⟨Tryz.f142.name, by decide, Tryz.func142.trans (congrArg some (by kernel_rfl))⟩
  f24 := ⟨Tryz.f143.name, by decide, Tryz.func143.trans (congrArg some (by kernel_rfl))⟩
  f25 := ⟨Tryz.f144.name, by decide, Tryz.func144.trans (congrArg some (by kernel_rfl))⟩
  f26 := ⟨Tryz.f145.name, by decide, Tryz.func145.trans (congrArg some (by kernel_rfl))⟩
  f27 := ⟨Tryz.f146.name, by decide, Tryz.func146.trans (congrArg some (by kernel_rfl))⟩
  f28 := ⟨Tryz.f147.name, by decide, Tryz.func147.trans (congrArg some (by kernel_rfl))⟩
  f29 := ⟨Tryz.f148.name, by decide, Tryz.func148.trans (congrArg some (by kernel_rfl))⟩
  f31 := Tryz.func152.trans (congrArg some (by kernel_rfl))
  f32 := Tryz.func153.trans (congrArg some (by kernel_rfl))
  f36 := ⟨Tryz.f151.name, by decide, Tryz.func151.trans (congrArg some (by kernel_rfl))⟩
  f37 := ⟨Tryz.f154.name, by decide, Tryz.func154.trans (congrArg some (by kernel_rfl))⟩
  f38 := ⟨Tryz.f155.name, by decide, Tryz.func155.trans (congrArg some (by kernel_rfl))⟩
  f39 := ⟨Tryz.f156.name, by decide, Tryz.func156.trans (congrArg some (by kernel_rfl))⟩
  f41 := ⟨Tryz.f157.name, by decide, Tryz.func157.trans (congrArg some (by kernel_rfl))⟩
  t0 := Tryz.underlying0
  a0 := Tryz.isAgg0
  z0 := Tryz.sizeOf0
  v0 := Tryz.zeroValue0
  t3 := Tryz.underlying3
  a3 := Tryz.isAgg3
  z3 := Tryz.sizeOf3
  v3 := Tryz.zeroValue3
  t4 := Tryz.underlying4
  a4 := Tryz.isAgg4
  z4 := Tryz.sizeOf4
  v4 := Tryz.zeroValue4
  t5 := Tryz.underlying5
  a5 := Tryz.isAgg5
  z5 := Tryz.sizeOf5
  v5 := Tryz.zeroValue5
  t9 := Tryz.underlying9
  a9 := Tryz.isAgg9
  z9 := Tryz.sizeOf9
  v9 := Tryz.zeroValue9
  t26 := Tryz.underlying37
  a26 := Tryz.isAgg37
  z26 := Tryz.sizeOf37
  v26 := Tryz.zeroValue37
  t27 := Tryz.underlying37
  a27 := Tryz.isAgg37
  z27 := Tryz.sizeOf37
  v27 := Tryz.zeroValue37
  t29 := Tryz.underlying9
  a29 := Tryz.isAgg9
  z29 := Tryz.sizeOf9
  v29 := Tryz.zeroValue9
  t32 := Tryz.underlying126
  a32 := Tryz.isAgg126
  z32 := Tryz.sizeOf126
  v32 := Tryz.zeroValue126
  t35 := Tryz.underlying194
  a35 := Tryz.isAgg194
  z35 := Tryz.sizeOf194
  v35 := Tryz.zeroValue194
  t36 := Tryz.underlying195
  a36 := Tryz.isAgg195
  z36 := Tryz.sizeOf195
  v36 := Tryz.zeroValue195
  t41 := Tryz.underlying136
  a41 := Tryz.isAgg136
  z41 := Tryz.sizeOf136
  v41 := Tryz.zeroValue136
  t44 := Tryz.underlying171
  a44 := Tryz.isAgg171
  z44 := Tryz.sizeOf171
  v44 := Tryz.zeroValue171
  t46 := Tryz.underlying203
  a46 := Tryz.isAgg203
  z46 := Tryz.sizeOf203
  v46 := Tryz.zeroValue203
  t53 := Tryz.underlying204
  a53 := Tryz.isAgg204
  z53 := Tryz.sizeOf204
  v53 := Tryz.zeroValue204
  t57 := Tryz.underlying150
  a57 := Tryz.isAgg150
  z57 := Tryz.sizeOf150
  v57 := Tryz.zeroValue150
  t63 := Tryz.underlying209
  a63 := Tryz.isAgg209
  z63 := Tryz.sizeOf209
  v63 := Tryz.zeroValue209
  t64 := Tryz.underlying210
  a64 := Tryz.isAgg210
  z64 := Tryz.sizeOf210
  v64 := Tryz.zeroValue210 }
theorem sortsA (m : Nat) : AnyZ.SortsIn Tryz.prog sortedA_ren Fence.wide m :=
  ⟨fun blk off cap ss W hH hblk hsz => callsIn_wide.2 (AnyM.slices_Sort_string sortA blk off cap ss W hH hblk hsz),
   fun p cap W => callsIn_wide.2 (AnyM.slices_Sort_string_none sortA p cap W)⟩
theorem keys_data {N : Nms} : strKeys (nmData N) = N.map Prod.fst := by
  unfold nmData strKeys
  simp [strOf]
/-- maps.Keys. -/
theorem keys_calls (m : Nat) (w : World) : Calls Tryz.prog 61 #[.map (some m)] w fun e w' => e = .returned (.func (.func 110) #[] #[.pointer (some ⟨w.heap.size, 0, none⟩)]) ∧ w' = w.alloc (.cells #[.map (some m)] 83) :=
  (callsIn_wide (n := 5)).1 (AnyZ.keys_in keysA Fence.wide 5 trivial rfl (some m) w)
/-- slices.Sorted of them. -/
theorem sorted_calls (m : Nat) (N : Nms) (w : World) (h : NamesAt w m N) (hN : N.length ≤ 1000000000) (hri : Rising N) :
    Calls Tryz.prog 60 #[.func (.func 110) #[] #[.pointer (some ⟨w.heap.size, 0, none⟩)]] (w.alloc (.cells #[.map (some m)] 83)) fun e w' => ∃ A c, e = .returned (.slice A N.length c) ∧ N.length ≤ c ∧ Kd.R Kd.string 9 w' w.heap.size (fun _ => True) (.slice A N.length c) (namesL N) ∧ Below w.heap.size w w' := by
  have hbl := World.ownsMap.lt h
  have hsz : Maps.size (nmData N) = N.length := nmData_size N
  have hseq : SeqGives Fence.wide 2 Tryz.prog 110 #[.pointer (some ⟨w.heap.size, 0, none⟩)] encStr (fun ss => ss.Perm (strKeys (nmData N))) (Maps.size (nmData N)) (w.alloc (.cells #[.map (some m)] 83)) :=
    AnyZ.keys_gives (ρ := keysA_ren) { keysA with } Fence.wide _ trivial rfl (by omega) w.heap.size m N.length (nmData N) _ (by simp) (by simp) (by
      obtain ⟨es, clock, hb, Ft, hs, hD⟩ := h
      exact ⟨es, clock, (Below.heap_alloc _ _ m hbl).trans hb, Ft, hs, hD⟩)
  have cS := AnyZ.sorted_in sortedA Fence.wide 5 trivial trivial trivial trivial rfl (by omega) (sortsA _) (enters_of Tryz.func109 (by kernel_rfl) rfl) 110 #[.pointer (some ⟨w.heap.size, 0, none⟩)] trivial (enters_of Tryz.func110 (by kernel_rfl) rfl) _ _ (by rw [hsz]; unfold maxLen; omega) (by rw [hsz]; omega) _ hseq
  refine (callsIn_wide.1 cS).mono ?_
  rintro e w' ⟨v, ss, rfl, hS, hrow, hnil, hb⟩
  rw [keys_data] at hS
  rw [keys_sorted hri hS] at hrow
  have hl : ss.length = N.length := by rw [hS.length_eq, List.length_map]
  rw [hl] at hrow
  have he : (N.map Prod.fst).map encStr = encs Value.string (namesL N) := by
    unfold namesL encs
    rw [List.map_map, List.map_map]
    rfl
  rw [he, show N.length = (namesL N).length from (names_len N).symm] at hrow
  have hR : Kd.R Kd.string 9 w' _ (fun _ => True) v (namesL N) := Kd.R_of_own hrow (fun _ _ => trivial)
  obtain ⟨A, c, rfl, hc, hC⟩ := Kd.R_reads hR
  have hR2 := (show Kd.R Kd.string 9 w' w.heap.size (fun _ => True) (.slice A (namesL N).length c) (namesL N) from Kd.R_lower hR (by simp))
  rw [names_len] at hc hR2 ⊢
  exact ⟨A, c, rfl, hc, hR2, ((Below.refl _ w).alloc (Nat.le_refl _) _).trans (hb.mono (by simp))⟩
end Go.Proofs.YtpcfnkmljchiiaaGreatDoor.DLay
