/- The law SmtpReplies: its walk. -/
import Derived.Test.YtjggdkcfpdhoaaaGreatDoorRRep
import Derived.Test.YtjggdkcfpdhoaaaGreatDoorAlive
import Derived.Test.YtjggdkcfpdhoaaaGreatDoorNum
import Derived.Test.YtjggdkcfpdhoaaaGreatDoorOpenC
namespace Go.Proofs.YtjggdkcfpdhoaaaGreatDoor.LReplies
open Go Go.RowKit Go.Proofs.YtjggdkcfpdhoaaaGreatDoorW.PrintWords Go.Proofs.YtjggdkcfpdhoaaaGreatDoorW.PrintMore Go.Proofs.YtjggdkcfpdhoaaaGreatDoor.Number Go.Proofs.YtjggdkcfpdhoaaaGreatDoor.Reply Go.Proofs.YtjggdkcfpdhoaaaGreatDoor.NL Go.Proofs.YtjggdkcfpdhoaaaGreatDoor.Rep Go.Proofs.YtjggdkcfpdhoaaaGreatDoor.RRep Go.Proofs.YtjggdkcfpdhoaaaGreatDoor.CodeT Go.Proofs.YtjggdkcfpdhoaaaGreatDoor.Alive Go.Proofs.YtjggdkcfpdhoaaaGreatDoor.Is
set_option linter.unusedVariables false
set_option linter.unusedSimpArgs false
/-- What the walk keeps: the program's variables, the sentinels, the list. -/
structure LR (w : World) (A : Option Addr) (l : List ByteArray) (E : Int → Addr) (W : World) : Prop where
  a : AW (errV E (some 2)) W
  e : Errs All W E
  s : SliceN A l W
  b : Below w.heap.size w W
theorem LR.below {w W W2 : World} {A : Option Addr} {l : List ByteArray} {E : Int → Addr} (h : LR w A l E W) (hb : Below W.heap.size W W2) : LR w A l E W2 :=
  ⟨h.a.below hb, h.e.below hb, h.s.below hb, h.b.trans (hb.mono h.b.size)⟩
theorem LR.drew {w W : World} {A : Option Addr} {l : List ByteArray} {E : Int → Addr} (h : LR w A l E W) : LR w A l E W.drew := h.below ((Below.refl _ W).drew)
theorem not_end (c : UInt8) : (((c.toNat : Int) != 10) && ((c.toNat : Int) != 13)) = !(endB c) := by
  have h : ∀ n : Nat, n < 256 → (((((UInt8.ofNat n).toNat : Nat) : Int) != 10) && ((((UInt8.ofNat n).toNat : Nat) : Int) != 13)) = !(endB (UInt8.ofNat n)) := by decide +kernel
  have := h c.toNat c.toNat_lt
  rwa [UInt8.ofNat_toNat] at this
set_option maxRecDepth 100000 in
set_option maxHeartbeats 8000000 in
theorem few_calls (code : Int) (ca : -9223372036854775808 ≤ code) (cb : code ≤ 9223372036854775807) (l : List ByteArray) (h100 : l.length ≤ 100) (A : Option Addr) (cp : Nat) (E : Int → Addr) (w : World) (hA : AW (errV E (some 2)) w) (hE : Errs All w E) (hS : SliceN A l w) :
    Calls Tryz.prog 4 #[.int .i64 code, .slice A l.length cp] w fun e w' => e = .returned (.bool true) ∧ Below w.heap.size w w' := by
  have HAL := Aside0.mk (alive_calls 151 (.pointer (some (E 2))) w hA)
  have HREP := Aside0.mk (fun hsz W (h : LR w A l E W) => reply_all code l h100 hsz A cp 151 (.pointer (some (E 1))) (errV E (some 2)) W (h.e.var 1 ⟨by decide, by decide⟩) h.a.e h.a.tab h.s)
  have HREF := Aside0.mk (fun (h1 : 100 ≤ code) (h2 : code ≤ 999) hsz W (h : LR w A l E W) => refReply_calls code h1 h2 l h100 hsz A cp W h.s)
  have HCODE := Aside0.mk (fun s W => code_calls s W)
  have HCR := Aside0.mk (fun (h1 : 100 ≤ code) (h2 : code ≤ 999) => code_reply code h1 h2 l)
  have HNUM := Aside0.mk (fun c (hc : c = 1 ∨ c = 2) W (h : LR w A l E W) => num_calls (some c) c E W h.e (by rcases hc with rfl | rfl <;> rfl))
  have HLR := Aside0.mk (show LR w A l E w from ⟨hA, hE, hS, Below.refl _ _⟩)
  obtain ⟨n, hn⟩ : ∃ n, n = l.length := ⟨_, rfl⟩
  have HN := Aside0.mk hn
  rw [← hn] at HREP HREF h100 ⊢
  have t1 : decide (100 < (n : Int)) = false := decide_eq_false (by omega)
  have t2 : decide (100 < n) = false := decide_eq_false (by omega)
  clear hA hE hS hn
  go_enter Tryz.func4, Tryz.ntmps4
  go_wp2_with (go_at_call 6; refine HAL.out.mono ?_; rintro e w1 ⟨rfl, hb1⟩; have HLR1 := Aside0.mk (HLR.out.below hb1); clear hb1)
  clear HAL HLR
  go_loopw [5, 18] (fun v i wr => ∃ k : Nat, k ≤ n ∧ i = .int .i64 k ∧ v = .bool (!(l.take k).any hasNL) ∧ Aside0 (LR w A l E wr) ∧ Aside0 (∀ j, j < k → (l.getD j ByteArray.empty).size ≤ 1000)) (fun _ i _ => n - (intOf i).toNat)
  case atStart => exact ⟨0, Nat.zero_le _, rfl, rfl, HLR1, ⟨fun j hj => by omega⟩⟩
  case round =>
    clear HLR1
    obtain ⟨k, hk, rfl, rfl, HLR, HSZ⟩ := hrel
    by_cases hlt : k < n
    · obtain ⟨b, o, rfl, hcs⟩ := HLR.out.s (by rw [← HN.out]; omega)
      have hcell := hcs k (by rw [← HN.out]; exact hlt)
      have hmem : l.getD k ByteArray.empty ∈ l := by rw [List.getD_eq_getElem?_getD, List.getElem?_eq_getElem (by rw [← HN.out]; exact hlt)]; exact List.getElem_mem _
      have htk : (l.take (k + 1)).any hasNL = ((l.take k).any hasNL || hasNL (l.getD k ByteArray.empty)) := by
        rw [List.take_add_one, List.any_append, List.getD_eq_getElem?_getD, List.getElem?_eq_getElem (by rw [← HN.out]; exact hlt)]
        simp
      obtain ⟨d, hd⟩ : ∃ d, d = (l.take k).any hasNL := ⟨_, rfl⟩
      obtain ⟨s, hs⟩ : ∃ s, s = l.getD k ByteArray.empty := ⟨_, rfl⟩
      have HS := Aside0.mk hs
      rw [← hs] at hcell htk
      rw [← hd] at htk ⊢
      have HTK := Aside0.mk htk
      have t4 : decide ((k : Int) < (n : Int)) = true := decide_eq_true (by omega)
      clear hcs hmem htk hd hs HREP HREF HCODE HCR HNUM
      by_cases h10 : s.size ≤ 1000
      · have u1 : decide (1000 < (s.size : Int)) = false := decide_eq_false (by omega)
        have u2 : decide (1000 < s.size) = false := decide_eq_false (by omega)
        go_wp2
        go_loopw [5, 27] (fun v i wr2 => ∃ m : Nat, m ≤ s.size ∧ i = .int .i64 m ∧ v = .bool (!(d || (s.data.toList.take m).any endB)) ∧ wr2 = wr) (fun _ i _ => s.size - (intOf i).toNat)
        case atStart => exact ⟨0, Nat.zero_le _, rfl, by simp, rfl⟩
        case round =>
          obtain ⟨m, hm, rfl, rfl, rfl⟩ := hrel
          by_cases hlm : m < s.size
          · have t6 : decide ((m : Int) < (s.size : Int)) = true := decide_eq_true (by omega)
            have hgl : m < s.data.toList.length := by simpa using hlm
            have hget : s.data.toList[m]? = some (s[m]'hlm) := by rw [List.getElem?_eq_getElem hgl]; rfl
            obtain ⟨b0, hb0⟩ : ∃ x, x = (d || (s.data.toList.take m).any endB) := ⟨_, rfl⟩
            have HSTEP := Aside0.mk (show (d || (s.data.toList.take (m + 1)).any endB) = (b0 || endB (s[m]'hlm)) by
              rw [List.take_add_one, hget, List.any_append, ← Bool.or_assoc, ← hb0]; simp)
            rw [← hb0]
            clear hb0 hget
            cases b0 with
            | true =>
              go_wp2
              go_roundw
              case rel => exact ⟨m + 1, by omega, by go_num, by rw [HSTEP.out]; rfl, trivial⟩
              case measure => simp [intOf]; omega
            | false =>
              have hne := not_end (s[m]'hlm)
              cases hx : ((((s[m]'hlm).toNat : Nat) : Int) != 10) with
              | false =>
                rw [hx, Bool.false_and] at hne
                have HNE := Aside0.mk hne
                clear hne
                go_wp2
                go_roundw
                case rel => exact ⟨m + 1, by omega, by go_num, by rw [HSTEP.out, Bool.false_or, ← HNE.out], trivial⟩
                case measure => simp [intOf]; omega
              | true =>
                rw [hx, Bool.true_and] at hne
                have HNE := Aside0.mk hne
                clear hne
                go_wp2
                go_roundw
                case rel => exact ⟨m + 1, by omega, by go_num, by rw [HSTEP.out, Bool.false_or, ← HNE.out], trivial⟩
                case measure => simp [intOf]; omega
          · have hms : m = s.size := by omega
            subst hms
            have t6 : decide ((s.size : Int) < (s.size : Int)) = false := decide_eq_false (by omega)
            have hnl : (s.data.toList.take s.size).any endB = hasNL s := by rw [List.take_of_length_le (by simp)]; rfl
            rw [hnl]
            go_wp2
            go_roundw
            case rel => exact ⟨k + 1, by omega, by go_num, by rw [HTK.out], HLR, ⟨fun j hj => by
              by_cases hjk : j < k
              · exact HSZ.out j hjk
              · have hjk2 : j = k := by omega
                rw [hjk2, ← HS.out]
                exact h10⟩⟩
            case measure => simp [intOf]; omega
      · have u1 : decide (1000 < (s.size : Int)) = true := decide_eq_true (by omega)
        have u2 : decide (1000 < s.size) = true := decide_eq_true (by omega)
        go_wp2
        go_ret
        exact ⟨rfl, HLR.out.b⟩
    · have hkn : k = n := by omega
      subst hkn
      have hsz : ∀ s ∈ l, s.size ≤ 1000 := fun s hs => by
        obtain ⟨j, hj, rfl⟩ := List.mem_iff_getElem.1 hs
        have := HSZ.out j (by rw [HN.out]; exact hj)
        rwa [List.getD_eq_getElem?_getD, List.getElem?_eq_getElem hj] at this
      have htk : l.take k = l := by rw [HN.out, List.take_length]
      rw [htk]
      have HR := Aside0.mk (HREP.out hsz)
      have t4 : decide ((k : Int) < (k : Int)) = false := decide_eq_false (by omega)
      obtain ⟨d, hd⟩ : ∃ d, d = l.any hasNL := ⟨_, rfl⟩
      by_cases hc : code < 100 ∨ 999 < code
      · have hv : replyV (.iface 151 (.pointer (some (E 1)))) (errV E (some 2)) code l = .tuple #[.string ⟨#[]⟩, .iface 151 (.pointer (some (E 1)))] := if_pos hc
        rw [hv] at HR
        have HN1 := Aside0.mk (HNUM.out 1 (.inl rfl))
        rw [errV_some] at HN1
        clear hd hsz htk hv HNUM HREP HREF HCODE HCR
        by_cases hc1 : code < 100
        · have t5 : decide (code < 100) = true := decide_eq_true hc1
          clear hc
          go_wp2_with (first
            | (go_at_call 9; refine (HR.out _ HLR.out).mono ?_; rintro e w2 ⟨rfl, hb2⟩; have HLR2 := Aside0.mk (HLR.out.below hb2); clear hb2)
            | (go_at_call 10; refine (HN1.out _ HLR2.out).mono ?_; rintro e w3 ⟨rfl, hb3⟩; have HLR3 := Aside0.mk (HLR2.out.below hb3); clear hb3))
          go_ret
          exact ⟨by simp, HLR3.out.b⟩
        · have t5 : decide (code < 100) = false := decide_eq_false hc1
          have t6 : decide (999 < code) = true := decide_eq_true (by omega)
          clear hc
          go_wp2_with (first
            | (go_at_call 9; refine (HR.out _ HLR.out).mono ?_; rintro e w2 ⟨rfl, hb2⟩; have HLR2 := Aside0.mk (HLR.out.below hb2); clear hb2)
            | (go_at_call 10; refine (HN1.out _ HLR2.out).mono ?_; rintro e w3 ⟨rfl, hb3⟩; have HLR3 := Aside0.mk (HLR2.out.below hb3); clear hb3))
          go_ret
          exact ⟨by simp, HLR3.out.b⟩
      · have t5 : decide (code < 100) = false := decide_eq_false (by omega)
        have t6 : decide (999 < code) = false := decide_eq_false (by omega)
        have hx : 100 ≤ code := by omega
        have hy : code ≤ 999 := by omega
        cases hd2 : l.any hasNL with
        | true =>
          have hv : replyV (.iface 151 (.pointer (some (E 1)))) (errV E (some 2)) code l = .tuple #[.string ⟨#[]⟩, errV E (some 2)] := (if_neg hc).trans (if_pos hd2)
          rw [hv] at HR
          have HN1 := Aside0.mk (HNUM.out 2 (.inr rfl))
          rw [errV_some] at HN1 HR
          clear hd hsz htk hv HNUM HREP HREF HCODE HCR hd2
          go_wp2_with (first
            | (go_at_call 9; refine (HR.out _ HLR.out).mono ?_; rintro e w2 ⟨rfl, hb2⟩; have HLR2 := Aside0.mk (HLR.out.below hb2); clear hb2)
            | (go_at_call 10; refine (HN1.out _ HLR2.out).mono ?_; rintro e w3 ⟨rfl, hb3⟩; have HLR3 := Aside0.mk (HLR2.out.below hb3); clear hb3))
          go_ret
          exact ⟨by simp, HLR3.out.b⟩
        | false =>
          have hv : replyV (.iface 151 (.pointer (some (E 1)))) (errV E (some 2)) code l = .tuple #[.string (replyB code (linesR l)), .nilIface] := (if_neg hc).trans (if_neg (by rw [hd2]; simp))
          rw [hv] at HR
          have HF := Aside0.mk (HREF.out hx hy hsz)
          have HK := Aside0.mk (HCODE.out (replyB code (linesR l)))
          rw [HCR.out hx hy] at HK
          obtain ⟨r, hr⟩ : ∃ r, r = replyB code (linesR l) := ⟨_, rfl⟩
          rw [← hr] at HR HF HK
          clear hd hr hsz htk hv HNUM HREP HREF HCODE HCR hd2
          go_wp2_with (first
            | (go_at_call 9; refine (HR.out _ HLR.out).mono ?_; rintro e w2 ⟨rfl, hb2⟩; have HLR2 := Aside0.mk (HLR.out.below hb2); clear hb2)
            | (go_at_call 11; refine (HF.out _ HLR2.out).mono ?_; rintro e w3 ⟨rfl, hb3⟩; have HLR3 := Aside0.mk (HLR2.out.below hb3); clear hb3)
            | (go_at_call 12; refine (HK.out _).mono ?_; rintro e w4 ⟨rfl, hb4⟩; have HLR4 := Aside0.mk (HLR3.out.below hb4); clear hb4))
          go_ret
          exact ⟨by simp, HLR4.out.b⟩
theorem slice_plain {A : Option Addr} {l : List ByteArray} {W : World} (h : OpenC.SliceS A l W) : SliceN A l W := fun hl => by
  obtain ⟨ad, rfl, hc⟩ := h hl
  have h0 := hc 0 hl
  obtain ⟨b, o, s⟩ := ad
  cases s with
  | none =>
    refine ⟨b, o, rfl, fun j hj => ?_⟩
    have h1 := hc j hj
    unfold Addr.add at h1
    split at h1
    · rename_i hj0
      rw [hj0] at h1 ⊢
      exact h1
    · exact h1
  | some x =>
    rw [Addr.add, if_pos rfl, World.cell?] at h0
    split at h0
    · simp at h0
    · cases h0
set_option maxRecDepth 100000 in
theorem law_calls (code : Int) (ca : -9223372036854775808 ≤ code) (cb : code ≤ 9223372036854775807) (l : List ByteArray) (A : Option Addr) (cp : Nat) (E : Int → Addr) (w : World) (hA : AW (errV E (some 2)) w) (hE : Errs All w E) (hS : OpenC.SliceS A l w) :
    Calls Tryz.prog 4 #[.int .i64 code, .slice A l.length cp] w fun e w' => e = .returned (.bool true) ∧ Below w.heap.size w w' := by
  by_cases h100 : l.length ≤ 100
  · exact few_calls code ca cb l h100 A cp E w hA hE (slice_plain hS)
  · have HAL := Aside0.mk (alive_calls 151 (.pointer (some (E 2))) w hA)
    obtain ⟨n, hl⟩ : ∃ n, n = l.length := ⟨_, rfl⟩
    rw [← hl] at h100 ⊢
    have t1 : decide (100 < (n : Int)) = true := decide_eq_true (by omega)
    have t2 : decide (100 < n) = true := decide_eq_true (by omega)
    clear hl hS hA hE
    go_enter Tryz.func4, Tryz.ntmps4
    go_wp2_with (go_at_call 6; refine HAL.out.mono ?_; rintro e w1 ⟨rfl, hb1⟩; have HB1 := Aside0.mk hb1; clear hb1)
    go_ret
    exact ⟨rfl, HB1.out⟩
end Go.Proofs.YtjggdkcfpdhoaaaGreatDoor.LReplies
