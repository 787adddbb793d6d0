/- The law SmtpCodes: its walk. -/
import Derived.Test.YtjggdkcfpdhoaaaDoorRest
import Derived.Test.YtjggdkcfpdhoaaaDoorAlive
namespace Go.Proofs.YtjggdkcfpdhoaaaDoor.LCodes
open Go Go.RowKit Go.Proofs.YtjggdkcfpdhoaaaDoorW.PrintWords Go.Proofs.YtjggdkcfpdhoaaaDoor.Dots Go.Proofs.YtjggdkcfpdhoaaaDoor.Path Go.Proofs.YtjggdkcfpdhoaaaDoor.Number Go.Proofs.YtjggdkcfpdhoaaaDoor.Rest Go.Proofs.YtjggdkcfpdhoaaaDoor.Alive
set_option linter.unusedVariables false
set_option linter.unusedSimpArgs false
theorem valL_snoc (l : List Int) (c : Int) : valL (l ++ [c]) = 10 * valL l + (c - 48) := by simp [valL]
theorem take_snoc (l : List Int) (k : Nat) (h : k < l.length) : l.take (k + 1) = l.take k ++ [l.getD k 0] := by
  rw [List.take_add_one, List.getElem?_eq_getElem h, List.getD_eq_getElem?_getD, List.getElem?_eq_getElem h]
  rfl
theorem code_no (s : ByteArray) (h3 : 3 ≤ s.size) (k : Nat) (hk : k < 3) (h : digI ((bytesOf s).getD k 0) = false) : codeV s = 0 := by
  rw [codeV, if_pos h3, numV, if_neg]
  intro hn
  rw [numF, Bool.and_eq_true, Bool.and_eq_true] at hn
  have h2 := hn.2.2
  rw [bytesOf_cut, List.drop_zero, Nat.sub_zero, List.all_eq_true] at h2
  have hl : k < ((bytesOf s).take 3).length := by rw [List.length_take, bytesOf_length]; omega
  have h4 := h2 _ (List.getElem_mem hl)
  rw [List.getElem_take] at h4
  rw [List.getD_eq_getElem?_getD, List.getElem?_eq_getElem (by rw [bytesOf_length]; omega)] at h
  rw [Option.getD_some] at h
  rw [h] at h4
  cases h4
theorem code_yes (s : ByteArray) (h3 : 3 ≤ s.size) (h : ((bytesOf s).take 3).all digI = true) : codeV s = valL ((bytesOf s).take 3) := by
  have e : bytesOf (s.extract 0 3) = (bytesOf s).take 3 := by rw [bytesOf_cut, List.drop_zero, Nat.sub_zero]
  have z : (s.extract 0 3).size = 3 := by rw [ByteArray.size_extract]; omega
  have hf : numF (s.extract 0 3) = true := by rw [numF, z, e, h]; rfl
  rw [codeV, if_pos h3, numV, if_pos hf, e]
set_option maxRecDepth 100000 in
set_option maxHeartbeats 4000000 in
theorem law_calls (s : ByteArray) (hs : s.size ≤ 9223372036854775807) (t : Nat) (pv : Value) (w : World) (hA : AW (.iface t pv) w) :
    Calls Tryd.prog 5 #[.string s] w fun e w' => e = .returned (.bool true) ∧ Below w.heap.size w w' := by
  have HAL := Aside0.mk (alive_calls t pv w hA)
  have HC := Aside0.mk (fun W => code_calls s W)
  clear hA
  by_cases h3 : 3 ≤ s.size
  · have HNO := Aside0.mk (code_no s h3)
    have HYES := Aside0.mk (code_yes s h3)
    obtain ⟨cv, hcv⟩ : ∃ x, x = codeV s := ⟨_, rfl⟩
    rw [← hcv] at HC HNO HYES
    clear hcv
    have t1 : decide (3 ≤ (s.size : Int)) = true := decide_eq_true (by omega)
    go_enter Tryd.func5, Tryd.ntmps5
    go_wp2_with (go_at_call 7; refine HAL.out.mono ?_; rintro e w1 ⟨rfl, hb1⟩; have HB1 := Aside0.mk hb1; clear hb1)
    go_loopw [3, 10] (fun v i wr => ∃ (k : Nat) (q : Int), k ≤ 3 ∧ i = .int .i64 k ∧ v = .int .i64 q ∧ 0 ≤ q ∧ (k = 0 → q = 0) ∧ (k ≤ 1 → q ≤ 9) ∧ (k ≤ 2 → q ≤ 99) ∧ wr = w1 ∧ Aside0 (q = valL ((bytesOf s).take k)) ∧ Aside0 (((bytesOf s).take k).all digI = true)) (fun v i _ => 3 - (intOf i).toNat)
    case atStart => exact ⟨0, 0, by omega, rfl, rfl, by omega, fun _ => rfl, fun _ => by omega, fun _ => by omega, rfl, ⟨rfl⟩, ⟨rfl⟩⟩
    case round =>
      obtain ⟨k, q, hk, rfl, rfl, hq0, hqa, hqb, hqc, rfl, HQ, HD⟩ := hrel
      by_cases hlt : k < 3
      · have hx := bt_is s k (by omega)
        have hbt := btD_at s k (by omega)
        have hrg := bt_range s k (by omega)
        obtain ⟨c, hc⟩ : ∃ c, c = bt s (k : Int) := ⟨_, rfl⟩
        rw [← hc] at hx hbt hrg
        have HBT := Aside0.mk hbt
        clear hbt hc
        have t2 : decide ((k : Int) < 3) = true := decide_eq_true (by omega)
        have hks : k < s.size := by omega
        by_cases h48 : c < 48
        · skip
          have HZ := Aside0.mk (HNO.out k hlt (by rw [← HBT.out]; rw [digI, decide_eq_false (by omega)]; rfl))
          go_wp2_with (go_at_call 10; refine (HC.out _).mono ?_; rintro e w2 ⟨rfl, hb2⟩; have HB2 := Aside0.mk hb2; clear hb2)
          go_ret
          exact ⟨by rw [HZ.out]; rfl, HB1.out.trans (HB2.out.mono HB1.out.size)⟩
        · by_cases h57 : 57 < c
          · skip
            have HZ := Aside0.mk (HNO.out k hlt (by rw [← HBT.out]; rw [digI, decide_eq_false (p := c ≤ 57) (by omega), Bool.and_false]))
            go_wp2_with (go_at_call 10; refine (HC.out _).mono ?_; rintro e w2 ⟨rfl, hb2⟩; have HB2 := Aside0.mk hb2; clear hb2)
            go_ret
            exact ⟨by rw [HZ.out]; rfl, HB1.out.trans (HB2.out.mono HB1.out.size)⟩
          · have hw1 : wrap64 (10 * q) = 10 * q := by unfold wrap64; omega
            have hw2 : wrap64 (10 * q + (c - 48)) = 10 * q + (c - 48) := by unfold wrap64; omega
            have HQ2 := Aside0.mk (show 10 * q + (c - 48) = valL ((bytesOf s).take (k + 1)) by rw [take_snoc _ _ (by rw [bytesOf_length]; exact hks), valL_snoc, ← HQ.out, ← HBT.out])
            have HD2 := Aside0.mk (show ((bytesOf s).take (k + 1)).all digI = true by rw [take_snoc _ _ (by rw [bytesOf_length]; exact hks), List.all_append, HD.out, ← HBT.out, Bool.true_and, List.all_cons, List.all_nil, Bool.and_true, digI, decide_eq_true (show 48 ≤ c by omega), decide_eq_true (show c ≤ 57 by omega)]; rfl)
            go_wp2
            go_roundw
            case rel => exact ⟨k + 1, 10 * q + (c - 48), by omega, by go_num, by go_num, by omega, fun h => by omega, fun h => by have := hqa (by omega); omega, fun h => by have := hqb (by omega); omega, by trivial, HQ2, HD2⟩
            case measure => simp [intOf]; omega
      · have hk3 : k = 3 := by omega
        subst hk3
        have HY := Aside0.mk ((HYES.out HD.out).trans HQ.out.symm)
        clear hqa hqb hqc
        go_wp2_with (go_at_call 10; refine (HC.out _).mono ?_; rintro e w2 ⟨rfl, hb2⟩; have HB2 := Aside0.mk hb2; clear hb2)
        go_ret
        exact ⟨by rw [HY.out]; simp, HB1.out.trans (HB2.out.mono HB1.out.size)⟩
  · have hz : codeV s = 0 := if_neg h3
    rw [hz] at HC
    clear hz
    have t1 : decide (3 ≤ (s.size : Int)) = false := decide_eq_false (by omega)
    go_enter Tryd.func5, Tryd.ntmps5
    go_wp2_with (first
      | (go_at_call 7; refine HAL.out.mono ?_; rintro e w1 ⟨rfl, hb1⟩; have HB1 := Aside0.mk hb1; clear hb1)
      | (go_at_call 10; refine (HC.out _).mono ?_; rintro e w2 ⟨rfl, hb2⟩; have HB2 := Aside0.mk hb2; clear hb2))
    go_ret
    exact ⟨rfl, HB1.out.trans (HB2.out.mono HB1.out.size)⟩
end Go.Proofs.YtjggdkcfpdhoaaaDoor.LCodes
