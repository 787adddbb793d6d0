/- postbagref19.Large: a text with capital letters. -/
import Derived.Test.YtjggdkcfpdhoaaaGreatDoorBase
namespace Go.Proofs.YtjggdkcfpdhoaaaGreatDoor.RefLarge
open Go Go.RowKit Go.Proofs.YtjggdkcfpdhoaaaGreatDoorW.PrintWords Go.Proofs.YtjggdkcfpdhoaaaGreatDoorW.SRows
set_option linter.unusedVariables false
set_option linter.unusedSimpArgs false
def capI (c : Int) : Int := if 97 ≤ c ∧ c ≤ 122 then c - 32 else c
def refLargeB (s : ByteArray) : ByteArray := strOfNums ((bytesOf s).map capI)
theorem cp_step (xs : List Int) (k : Nat) (hk : k < xs.length) : ((xs.take k).map capI ++ xs.drop k).set k (capI (xs.getD k 0)) = (xs.take (k + 1)).map capI ++ xs.drop (k + 1) := by
  rw [List.take_add_one, List.getElem?_eq_getElem hk, List.drop_eq_getElem_cons hk, List.getD_eq_getElem?_getD, List.getElem?_eq_getElem hk]
  have : ((xs.take k).map capI).length = k := by simp; omega
  rw [List.set_append_right _ _ (by omega), this]
  simp only [Nat.sub_self, List.set_cons_zero, List.map_append, Option.toList_some, List.map_cons, List.map_nil, List.append_assoc, List.singleton_append, Option.getD_some]
theorem cp_at (xs : List Int) (k : Nat) (hk : k < xs.length) : ((xs.take k).map capI ++ xs.drop k).getD k 0 = xs.getD k 0 := by
  have : ((xs.take k).map capI).length = k := by simp; omega
  rw [List.getD_eq_getElem?_getD, List.getD_eq_getElem?_getD, List.getElem?_append_right (by omega), this, Nat.sub_self, List.getElem?_drop, Nat.add_zero]
theorem cp_len (xs : List Int) (k : Nat) : ((xs.take k).map capI ++ xs.drop k).length = xs.length := by simp; omega
set_option maxHeartbeats 2000000 in
theorem refLarge_calls (a0 : ByteArray) (hs : a0.size ≤ 1000000) (w : World) :
    Calls Tryz.prog 20 #[.string a0] w fun e w' => e = .returned (.string (refLargeB a0)) ∧ Below w.heap.size w w' := by
  obtain ⟨r, hr⟩ : ∃ r, r = refLargeB a0 := ⟨_, rfl⟩
  have HR := Aside0.mk hr.symm
  rw [← hr]
  clear hr
  have hcv := Lib.run_convert_string_bytes (P := Tryz.prog) w 9 57 5 a0 Tryz.underlying9 Tryz.underlying57 Tryz.underlying5
  obtain ⟨cap, hcap⟩ : ∃ c, c = grownCap w a0.size 0 5 := ⟨_, rfl⟩
  have hcs : a0.size ≤ cap := by rw [hcap]; exact grownCap_ge w _ _ _
  rw [← hcap] at hcv
  clear hcap
  have hrow := SRow.new w 5 a0 (by omega)
  have hbel : Below w.heap.size w (Lib.bytesWorld w 5 a0) := (Below.refl _ w).grown (bytes_grown w _ a0) (Nat.le_refl _) (fun k e => by cases e)
  obtain ⟨W1, hW1⟩ : ∃ x, x = Lib.bytesWorld w 5 a0 := ⟨_, rfl⟩
  rw [← hW1] at hcv hrow hbel
  clear hW1
  obtain ⟨xs, hxs⟩ : ∃ x, x = bytesOf a0 := ⟨_, rfl⟩
  have hlen : xs.length = a0.size := by rw [hxs, bytesOf_length]
  have hrange : ∀ k, k < xs.length → 0 ≤ xs.getD k 0 ∧ xs.getD k 0 ≤ 255 := fun k hk => by
    rw [List.getD_eq_getElem?_getD, List.getElem?_eq_getElem hk, Option.getD_some]
    exact bytesOf_range a0 _ (by rw [← hxs]; exact List.getElem_mem hk)
  have hfin : refLargeB a0 = strOfNums (xs.map capI) := by rw [refLargeB, ← hxs]
  rw [← hxs] at hrow
  have HX := Aside0.mk hfin
  have HN := Aside0.mk hrange
  have HW := Aside0.mk hrow
  have HB := Aside0.mk hbel
  have HL := Aside0.mk hlen
  have hle : (a0.size : Int) ≤ 1000000 := by omega
  clear hfin hrange hrow hbel hlen hxs hs
  go_enter Tryz.func20, Tryz.ntmps20
  go_wp2
  go_loopw [9] (fun i wr => ∃ k : Nat, k ≤ a0.size ∧ i = .int .i64 k ∧ Aside0 (SRow (Value.int .u8) 0 wr 5 w.heap.size ((xs.take k).map capI ++ xs.drop k)) ∧ Aside0 (Below w.heap.size w wr)) (fun i _ => a0.size - (intOf i).toNat)
  case atStart => exact ⟨0, Nat.zero_le _, rfl, ⟨by simpa using HW.out⟩, HB⟩
  case round =>
    clear HW HB
    obtain ⟨k, hk, rfl, HW, HB⟩ := hrel
    by_cases hlt : k < a0.size
    · have hx : k < xs.length := by rw [HL.out]; exact hlt
      have hcell := HW.out.cell k (by rw [cp_len]; exact hx)
      have hfree := HW.out.free k (by rw [cp_len]; exact hx)
      have hb0 := HN.out k hx
      have hset := HW.out.set k (by rw [cp_len]; exact hx) (capI (xs.getD k 0))
      rw [cp_at xs k hx] at hcell
      rw [cp_step xs k hx] at hset
      have HS := Aside0.mk hset
      have HBS := Aside0.mk (show Below w.heap.size w (wr.setCell ⟨w.heap.size, k, none⟩ (.int .u8 (capI (xs.getD k 0)))) from HB.out.setCell (Nat.le_refl _) _)
      have hsame : ¬ (97 ≤ xs.getD k 0 ∧ xs.getD k 0 ≤ 122) → (xs.take k).map capI ++ xs.drop k = (xs.take (k + 1)).map capI ++ xs.drop (k + 1) := fun hn => by
        rw [← cp_step xs k hx, capI, if_neg hn, ← cp_at xs k hx]
        have hl : k < ((xs.take k).map capI ++ xs.drop k).length := by rw [cp_len]; exact hx
        rw [List.getD_eq_getElem?_getD, List.getElem?_eq_getElem hl, Option.getD_some, List.set_getElem_self]
      have HE := Aside0.mk hsame
      have t1 : decide (k < a0.size) = true := decide_eq_true hlt
      have t2 : decide ((k : Int) < (a0.size : Int)) = true := decide_eq_true (by omega)
      clear hset hx hsame
      obtain ⟨c, hc⟩ : ∃ c, c = xs.getD k 0 := ⟨_, rfl⟩
      rw [← hc] at hcell hb0 HS HBS HE
      clear hc
      by_cases hu1 : 97 ≤ c
      · by_cases hu2 : c ≤ 122
        · have el : capI c = c - 32 := if_pos ⟨hu1, hu2⟩
          rw [el] at HS HBS
          clear el HE
          go_wp2
          go_roundw
          case rel => exact ⟨k + 1, by omega, by go_num, HS, HBS⟩
          case measure => simp [intOf]; omega
        · go_wp2
          go_roundw
          case rel => exact ⟨k + 1, by omega, by go_num, by rw [← HE.out (fun h => hu2 h.2)]; exact HW, HB⟩
          case measure => simp [intOf]; omega
      · go_wp2
        go_roundw
        case rel => exact ⟨k + 1, by omega, by go_num, by rw [← HE.out (fun h => hu1 h.1)]; exact HW, HB⟩
        case measure => simp [intOf]; omega
    · have hks : k = a0.size := by omega
      subst hks
      have t1 : decide (a0.size < a0.size) = false := decide_eq_false (Nat.lt_irrefl _)
      have hC := HW.out.C (h1 := fun _ => rfl)
      rw [List.take_of_length_le (by rw [HL.out]; exact Nat.le_refl _), List.drop_of_length_le (by rw [HL.out]; exact Nat.le_refl _), List.append_nil, List.length_map, HL.out] at hC
      have hcv2 := Kd.C_string (P := Tryz.prog) (c := cap) Tryz.underlying57 Tryz.underlying5 Tryz.underlying9 hC
      have HB2 := HB
      clear hC HW hlt
      go_wp2
      go_ret
      exact ⟨by rw [← HR.out, HX.out]; rfl, HB2.out⟩
theorem refLarge_eq (s : ByteArray) : refLargeB s = Large.largeB s := by
  have e : capI = Large.upI := funext fun c => by
    unfold capI Large.upI
    split <;> omega
  rw [refLargeB, Large.largeB, e]
end Go.Proofs.YtjggdkcfpdhoaaaGreatDoor.RefLarge
