/- The law SmtpDots: its walk. -/
import Derived.Test.YtjggdkcfpdhoaaaDoorData
import Derived.Test.YtjggdkcfpdhoaaaDoorAlive
namespace Go.Proofs.YtjggdkcfpdhoaaaDoor.LDots
open Go Go.RowKit Go.Proofs.YtjggdkcfpdhoaaaDoorW.PrintWords Go.Proofs.YtjggdkcfpdhoaaaDoor.Rest Go.Proofs.YtjggdkcfpdhoaaaDoor.Alive Go.Proofs.YtjggdkcfpdhoaaaDoor.Reply Go.Proofs.YtjggdkcfpdhoaaaDoor.Data
set_option linter.unusedVariables false
set_option linter.unusedSimpArgs false
theorem mk_append (l : List UInt8) (b : ByteArray) : (⟨l.toArray⟩ : ByteArray) ++ b = ⟨(l ++ b.data.toList).toArray⟩ := by
  apply ByteArray.ext
  have : ((⟨l.toArray⟩ : ByteArray) ++ b).data = l.toArray ++ b.data := ByteArray.data_append
  rw [this]
  simp
theorem data_eq (ls : List ByteArray) : dataB ls = (⟨(accD ls ls.length).toArray⟩ : ByteArray) ++ (⟨#[46, 13, 10]⟩ : ByteArray) := by
  rw [dataB, mk_append, mk_append, mk_append]
  have : crlf.data.toList = [13, 10] := rfl
  rw [this]
  simp
def wantB (ls : List ByteArray) (k : Nat) : ByteArray := ⟨(accD ls k).toArray⟩
theorem wantB_succ (ls : List ByteArray) (k : Nat) : wantB ls (k + 1) = wantB ls k ++ (stuffB (ls.getD k ByteArray.empty) ++ (⟨#[13, 10]⟩ : ByteArray)) := by
  rw [wantB, wantB, mk_append, accD]
  rfl
theorem wantB_size (ls : List ByteArray) (k : Nat) : (wantB ls k).size = (accD ls k).length := by
  show (accD ls k).toArray.size = _
  simp
theorem un_dot : unF ⟨#[46]⟩ = false := by kernel_rfl
theorem un_ab : unF ⟨#[97, 46, 98]⟩ = true ∧ unV ⟨#[97, 46, 98]⟩ = ⟨#[97, 46, 98]⟩ := ⟨by kernel_rfl, by kernel_rfl⟩
set_option maxRecDepth 100000 in
set_option maxHeartbeats 4000000 in
theorem law_calls (ls : List ByteArray) (A : Option Addr) (cp : Nat) (t : Nat) (pv : Value) (w : World) (hA : AW (.iface t pv) w) (hSl : SliceS A ls w) :
    Calls Tryd.prog 6 #[.slice A ls.length cp] w fun e w' => e = .returned (.bool true) ∧ Below w.heap.size w w' := by
  have HAL := Aside0.mk (alive_calls t pv w hA)
  have HSL := Aside0.mk hSl
  obtain ⟨n, hn⟩ : ∃ n, n = ls.length := ⟨_, rfl⟩
  rw [← hn]
  have HN := Aside0.mk hn
  have HDA : Aside0 (n ≤ 100 → (∀ l ∈ ls, l.size ≤ 1000) → ∀ W, SliceS A ls W → Calls Tryd.prog 13 #[.slice A n cp] W fun e w' => e = .returned (.string (wantB ls n ++ (⟨#[46, 13, 10]⟩ : ByteArray))) ∧ Below W.heap.size W w') :=
    ⟨fun h1 h2 W h3 => by rw [hn, wantB, ← data_eq]; exact data_calls ls (by rw [← hn]; exact h1) h2 A cp W h3⟩
  have HU1 := Aside0.mk (fun W => unstuff_calls ⟨#[46]⟩ W)
  have HU2 := Aside0.mk (fun W => unstuff_calls ⟨#[97, 46, 98]⟩ W)
  rw [un_dot] at HU1
  rw [un_ab.1, un_ab.2] at HU2
  clear hA hSl hn
  by_cases h100 : n ≤ 100
  · have t1 : decide (100 < (n : Int)) = false := decide_eq_false (by omega)
    go_enter Tryd.func6, Tryd.ntmps6
    go_wp2_with (go_at_call 7; refine HAL.out.mono ?_; rintro e w1 ⟨rfl, hb1⟩; have HB1 := Aside0.mk hb1; clear hb1)
    go_loopw [3, 20] (fun v i wr => ∃ k : Nat, k ≤ n ∧ i = .int .i64 k ∧ v = .string (wantB ls k) ∧ wr = w1 ∧ Aside0 (∀ j, j < k → (ls.getD j ByteArray.empty).size ≤ 1000)) (fun v i _ => n - (intOf i).toNat)
    case atStart => exact ⟨0, Nat.zero_le _, rfl, rfl, rfl, ⟨fun j hj => by omega⟩⟩
    case round =>
      obtain ⟨k, hk, rfl, rfl, rfl, HJ⟩ := hrel
      by_cases hlt : k < n
      · obtain ⟨ad, rfl, hc⟩ := HSL.out.below HB1.out (by rw [← HN.out]; omega)
        have hcell := hc k (by rw [← HN.out]; exact hlt)
        have t4 : decide ((k : Int) < (n : Int)) = true := decide_eq_true (by omega)
        by_cases hz : (ls.getD k ByteArray.empty).size ≤ 1000
        · have hws := wantB_succ ls k
          have hwz : (wantB ls k).size ≤ 110000 := by
            rw [wantB_size]
            have := accD_size ls k HJ.out
            omega
          have HJ2 := Aside0.mk (show ∀ j, j < k + 1 → (ls.getD j ByteArray.empty).size ≤ 1000 from fun j hj => by
            rcases Nat.lt_or_ge j k with h | h
            · exact HJ.out j h
            · have : j = k := by omega
              rw [this]; exact hz)
          obtain ⟨l, hl⟩ : ∃ x, x = ls.getD k ByteArray.empty := ⟨_, rfl⟩
          rw [← hl] at hcell hz hws
          have hsl := stuff_size l
          have hsu := stuff_un l
          have HST := Aside0.mk (fun W => stuff_calls l (by omega) W)
          have HUN := Aside0.mk (fun W => unstuff_calls (stuffB l) W)
          rw [hsu.1, hsu.2] at HUN
          obtain ⟨s, hs⟩ : ∃ x, x = stuffB l := ⟨_, rfl⟩
          rw [← hs] at hws hsl HST HUN
          have HW := Aside0.mk hws
          obtain ⟨wk, hwk⟩ : ∃ x, x = wantB ls k := ⟨_, rfl⟩
          rw [← hwk] at HW hwz ⊢
          clear hl hc hs hws hsu hwk
          have t5 : decide (1000 < (l.size : Int)) = false := decide_eq_false (by omega)
          have t6 : decide (1000 < l.size) = false := decide_eq_false (by omega)
          have t7 : wrap64 ((l.size : Int) + 1) = l.size + 1 := by unfold wrap64; omega
          have t8 : decide ((l.size : Int) + 1 < (s.size : Int)) = false := decide_eq_false (by omega)
          have f1 : ¬ 9223372036854775807 < s.size + 2 := by omega
          have f2 : ¬ 9223372036854775807 < wk.size + (s.size + 2) := by omega
          have t9 : (l.toList == l.toList) = true := by simp
          go_wp2_with (first
            | (go_at_call 11; refine (HST.out _).mono ?_; rintro e w2 ⟨rfl, rfl⟩)
            | (go_at_call 12; refine (HUN.out _).mono ?_; rintro e w2 ⟨rfl, rfl⟩))
          go_roundw
          case rel => exact ⟨k + 1, by omega, by go_num, by rw [HW.out], by trivial, HJ2⟩
          case measure => simp [intOf]; omega
        · skip
          obtain ⟨l, hl⟩ : ∃ x, x = ls.getD k ByteArray.empty := ⟨_, rfl⟩
          rw [← hl] at hcell hz
          clear hl hc
          have t5 : decide (1000 < (l.size : Int)) = true := decide_eq_true (by omega)
          have t6 : decide (1000 < l.size) = true := decide_eq_true (by omega)
          go_wp2
          go_ret
          exact ⟨rfl, HB1.out⟩
      · have hks : k = n := by omega
        subst hks
        have t4 : decide ((k : Int) < (k : Int)) = false := decide_eq_false (by omega)
        have HD := Aside0.mk (HDA.out h100 (fun l hl => by
          obtain ⟨j, hj, rfl⟩ := List.mem_iff_getElem.1 hl
          have h9 := HJ.out j (by rw [HN.out]; exact hj)
          rw [List.getD_eq_getElem?_getD, List.getElem?_eq_getElem hj] at h9
          exact h9))
        have HSL1 := Aside0.mk (HSL.out.below HB1.out)
        have hwz : (wantB ls k).size ≤ 110000 := by
          rw [wantB_size]
          have := accD_size ls k HJ.out
          omega
        obtain ⟨wk, hwk⟩ : ∃ x, x = wantB ls k := ⟨_, rfl⟩
        rw [← hwk] at HD hwz ⊢
        clear hwk
        have f1 : ¬ 9223372036854775807 < wk.size + 3 := by omega
        go_wp2_with (first
          | (go_at_call 12; first | (with_reducible refine (HU1.out _).mono ?_; rintro e w2 ⟨rfl, rfl⟩) | (with_reducible refine (HU2.out _).mono ?_; rintro e w2 ⟨rfl, rfl⟩))
          | (go_at_call 13; refine (HD.out _ HSL1.out).mono ?_; rintro e w3 ⟨rfl, hb3⟩; have HB3 := Aside0.mk (HB1.out.trans (hb3.mono HB1.out.size)); clear hb3))
        go_ret
        exact ⟨by simp, HB3.out⟩
  · have t1 : decide (100 < (n : Int)) = true := decide_eq_true (by omega)
    go_enter Tryd.func6, Tryd.ntmps6
    go_wp2_with (go_at_call 7; refine HAL.out.mono ?_; rintro e w1 ⟨rfl, hb1⟩; have HB1 := Aside0.mk hb1; clear hb1)
    go_ret
    exact ⟨rfl, HB1.out⟩
end Go.Proofs.YtjggdkcfpdhoaaaDoor.LDots
