/- The law SmtpSizes: its walk. -/
import Derived.Test.YtjggdkcfpdhoaaaDoorQSizes
import Derived.Test.YtjggdkcfpdhoaaaDoorAlive
import Derived.Laws.BitsLemmas
namespace Go.Proofs.YtjggdkcfpdhoaaaDoor.LSizes
open Go Go.RowKit Go.Proofs.YtjggdkcfpdhoaaaDoorW.PrintWords Go.Proofs.YtjggdkcfpdhoaaaDoor.Take Go.Proofs.YtjggdkcfpdhoaaaDoor.Number Go.Proofs.YtjggdkcfpdhoaaaDoor.Opt Go.Proofs.YtjggdkcfpdhoaaaDoor.Parse Go.Proofs.YtjggdkcfpdhoaaaDoor.QSizes Go.Proofs.YtjggdkcfpdhoaaaDoor.Alive
set_option linter.unusedVariables false
set_option linter.unusedSimpArgs false
theorem mask_nat (n0 : Int) : ∃ m : Nat, m < 2147483648 ∧ bits .and .i64 n0 2147483647 = m := by
  have h : bits .and .i64 n0 2147483647 = IntKind.i64.wrap (((BitVec.ofInt 64 n0).toNat &&& (BitVec.ofInt 64 2147483647).toNat : Nat) : Int) := by
    rw [← BitVec.toNat_and]
    rfl
  have h2 : (BitVec.ofInt 64 2147483647).toNat = 2147483647 := by decide
  rw [h2] at h
  have h3 : (BitVec.ofInt 64 n0).toNat &&& 2147483647 ≤ 2147483647 := Nat.and_le_right
  refine ⟨(BitVec.ofInt 64 n0).toNat &&& 2147483647, by omega, ?_⟩
  rw [h, IntKind.wrap_i64]
  omega
theorem one_string (w : World) (b : UInt8) (W : World) (hc : W.cell? ⟨w.heap.size, 0, none⟩ = some (.int .u8 (b.toNat : Int))) :
    (convert 31 9 (.slice (some ⟨w.heap.size, 0, none⟩) 1 1)).run Tryd.prog W = .ok (.string (mkB [b])) W := by
  have h := string_of_reads (P := Tryd.prog) (w := W) (src := 31) (dst := 9) (e := 5) (A := some ⟨w.heap.size, 0, none⟩) (n := 1) (c := 1) (xs := [(b.toNat : Int)]) Tryd.underlying31 Tryd.underlying5 Tryd.underlying9
    ⟨rfl, by decide, fun _ => ⟨_, rfl, fun j hj => by
      obtain rfl : j = 0 := by omega
      exact hc⟩⟩
  rw [h]
  have e : strOfNums [(b.toNat : Int)] = mkB [b] := by
    rw [strOfNums, mkB]
    simp
  rw [e]
def intV : Value → Nat
  | .int _ n => n.toNat
  | _ => 0
def sV : Value → Nat
  | .string s => 1 - s.size
  | _ => 0
set_option maxRecDepth 100000 in
set_option maxHeartbeats 4000000 in
theorem law_calls (n0 : Int) (b1 : -9223372036854775808 ≤ n0) (b2 : n0 ≤ 9223372036854775807) (t : Nat) (pv : Value) (w : World) (hA : AW (.iface t pv) w) :
    Calls Tryd.prog 4 #[.int .i64 n0] w fun e w' => e = .returned (.bool true) ∧ Below w.heap.size w w' := by
  have HAL := Aside0.mk (alive_calls t pv w hA)
  have HA := Aside0.mk hA
  clear hA
  obtain ⟨n, hn, hmask⟩ := mask_nat n0
  go_enter Tryd.func4, Tryd.ntmps4
  go_wp2_with (go_at_call 7; refine HAL.out.mono ?_; rintro e w1 ⟨rfl, hb1⟩; have HB1 := Aside0.mk hb1; have HA1 := Aside0.mk (HA.out.below hb1); clear hb1)
  clear hmask b1 b2 HAL HA
  go_loopw [3, 4] (fun v i wr => ∃ (k : Nat) (D : List UInt8), k ≤ n ∧ i = .int .i64 k ∧ v = .string (mkB D) ∧ Aside0 (DW n k D) ∧ Aside0 (Below w.heap.size w wr) ∧ Aside0 (AW (.iface t pv) wr)) (fun v i _ => intV i + sV v)
  case atStart => exact ⟨n, [], Nat.le_refl _, rfl, rfl, ⟨DW.start n⟩, HB1, HA1⟩
  case round =>
    clear HA1
    obtain ⟨k, D, hk, rfl, rfl, HD, HB, HA⟩ := hrel
    by_cases hgo : 0 < k ∨ D = []
    · have HD2 := Aside0.mk (HD.out.step hgo)
      have hDs := Aside0.mk (HD.out.size hn)
      obtain ⟨s, hs⟩ : ∃ s, s = mkB D := ⟨_, rfl⟩
      have hse : s.toList.isEmpty = D.isEmpty := by rw [hs, mk_list]
      have hsz : s.size = D.length := by rw [hs, mk_size]
      have HS := Aside0.mk hs
      have hcat : mkB (UInt8.ofNat (48 + k % 10) :: D) = mkB [UInt8.ofNat (48 + k % 10)] ++ s := by rw [hs, mk_app]; rfl
      have HCAT := Aside0.mk hcat
      have hD10 := hDs.out
      rw [← hs]
      clear hs hcat hDs
      have hu : (UInt8.ofNat (48 + k % 10)).toNat = 48 + k % 10 := by rw [UInt8.toNat_ofNat']; omega
      have hcv := one_string wr (UInt8.ofNat (48 + k % 10)) (wr.alloc (.cells #[.int .u8 (48 + (k : Int) % 10)] 5)) (by
        rw [World.cell?_alloc_new, hu]
        have e : ((48 + k % 10 : Nat) : Int) = 48 + (k : Int) % 10 := by omega
        rw [e]
        rfl)
      obtain ⟨s1, hs1⟩ : ∃ s, s = mkB [UInt8.ofNat (48 + k % 10)] := ⟨_, rfl⟩
      have hz1 : s1.size = 1 := by rw [hs1, mk_size]; rfl
      rw [← hs1] at hcv HCAT
      have HBN := Aside0.mk (HB.out.trans (((Below.refl _ wr).alloc (Nat.le_refl _) (.cells #[.int .u8 (48 + (k : Int) % 10)] 5)).mono HB.out.size))
      have HAN := Aside0.mk (HA.out.below ((Below.refl _ wr).alloc (Nat.le_refl _) (.cells #[.int .u8 (48 + (k : Int) % 10)] 5)))
      clear hs1 hu
      have hkk : k < 2147483648 := by omega
      have hsm : s.size ≤ 10 := by omega
      have f1 : ¬ 9223372036854775807 < s1.size + s.size := by omega
      by_cases hk0 : 0 < k
      · have t1 : decide (0 < (k : Int)) = true := decide_eq_true (by omega)
        have t2 : decide (0 < k) = true := decide_eq_true hk0
        clear hgo
        go_wp2
        go_roundw
        case rel => exact ⟨k / 10, _, by omega, by go_num, by rw [HCAT.out], HD2, HBN, HAN⟩
        case measure => simp only [intV, sV, ByteArray.size_append]; omega
      · have t1 : decide (0 < (k : Int)) = false := decide_eq_false (by omega)
        have t2 : decide (0 < k) = false := decide_eq_false hk0
        have hDe : D = [] := hgo.resolve_left hk0
        have hk00 : k = 0 := by omega
        have hse2 : s.toList.isEmpty = true := by rw [hse, hDe]; rfl
        have hs0 : s.size = 0 := by rw [hsz, hDe]; rfl
        have hl0 : s.toList = [] := by simpa using hse2
        have h48 : (48 + (k : Int) % 10) = 48 := by omega
        rw [h48] at hcv HBN HAN
        clear hgo hse hsz h48
        go_wp2
        go_roundw
        case rel => exact ⟨k / 10, _, by omega, by go_num, by rw [HCAT.out], HD2, HBN, HAN⟩
        case measure => simp only [intV, sV, ByteArray.size_append]; omega
    · have hk0 : k = 0 := by omega
      have hDn : D ≠ [] := fun h => hgo (.inr h)
      subst hk0
      have HR := Aside0.mk (HD.out.done hDn)
      have hD10 := HD.out.size hn
      have hln : mkB (lineL D) = (⟨#[77, 65, 73, 76, 32, 70, 82, 79, 77, 58, 60, 62, 32, 83, 73, 90, 69, 61]⟩ : ByteArray) ++ mkB D := by
        have := mk_app [77, 65, 73, 76, 32, 70, 82, 79, 77, 58, 60, 62, 32, 83, 73, 90, 69, 61] D
        rw [show (⟨#[77, 65, 73, 76, 32, 70, 82, 79, 77, 58, 60, 62, 32, 83, 73, 90, 69, 61]⟩ : ByteArray) = mkB [77, 65, 73, 76, 32, 70, 82, 79, 77, 58, 60, 62, 32, 83, 73, 90, 69, 61] from rfl, this]
        rfl
      have HP := Aside0.mk (fun W (hW : W.cell? ⟨1, 0, none⟩ = some (.iface t pv)) => parse_calls (mkB (lineL D)) (by rw [mk_size, lineL, rest1]; simp [mailL]; omega) t pv W hW)
      rw [HR.out, hln] at HP
      obtain ⟨s, hs⟩ : ∃ s, s = mkB D := ⟨_, rfl⟩
      have hse : s.toList.isEmpty = false := by
        rw [hs, mk_list]
        cases D with
        | nil => exact absurd rfl hDn
        | cons b D => rfl
      have hsz : s.size ≤ 10 := by rw [hs, mk_size]; exact hD10
      have hl0 : ¬ s.toList = [] := by
        intro h
        rw [h] at hse
        cases hse
      rw [← hs] at HP ⊢
      clear hs hln HR HD hgo hDn hk hD10
      have f1 : ¬ 9223372036854775807 < s.size + 18 := by omega
      have f2 : ¬ 9223372036854775807 < 18 + s.size := by omega
      by_cases h9 : n ≤ 999999999
      · have t1 : decide (999999999 < (n : Int)) = false := decide_eq_false (by omega)
        have t2 : decide (999999999 < n) = false := decide_eq_false (by omega)
        rw [if_pos h9] at HP
        simp only [cmdV, mailC0, emptyC, emptyB] at HP
        go_wp2_with (go_at_call 8; refine (HP.out _ HA.out.e).mono ?_; rintro e w2 ⟨rfl, hb2⟩; have HB2 := Aside0.mk (HB.out.trans (hb2.mono HB.out.size)); clear hb2)
        go_ret
        exact ⟨by simp, HB2.out.trans (((Below.refl _ w2).alloc (Nat.le_refl _) _).mono HB2.out.size)⟩
      · have t1 : decide (999999999 < (n : Int)) = true := decide_eq_true (by omega)
        have t2 : decide (999999999 < n) = true := decide_eq_true (by omega)
        rw [if_neg h9] at HP
        simp only [cmdV, emptyC, emptyB] at HP
        go_wp2_with (go_at_call 8; refine (HP.out _ HA.out.e).mono ?_; rintro e w2 ⟨rfl, hb2⟩; have HB2 := Aside0.mk (HB.out.trans (hb2.mono HB.out.size)); clear hb2)
        go_ret
        exact ⟨by simp, HB2.out.trans (((Below.refl _ w2).alloc (Nat.le_refl _) _).mono HB2.out.size)⟩
end Go.Proofs.YtjggdkcfpdhoaaaDoor.LSizes
