/- boxes.Match's own walks: the predicate that it hands to DeleteFunc makes rows of its own; IndexFunc and DeleteFunc at it. -/
import Derived.Test.YthlofokgbogndabGBoxesx2
import Derived.Lib.SlKept
import Derived.Lib.OwnBridge
import Derived.Lib.SliceRun
import Derived.Lib.SlicesCompact
import Derived.Sort.OwnSorted
namespace Go.Proofs.Ythlofokgbogndab.GBoxes
open Go.RowKit Go.Sort Go.Proofs.YthlofokgbogndabW.PrintWords
set_option linter.unusedVariables false
set_option linter.unusedSimpArgs false
def strB (u : List UInt8) : ByteArray := ⟨u.toArray⟩
theorem encStr_eq (u : List UInt8) : encStr u = .string (strB u) := rfl
/-- The predicate: it answers what the pattern does not fit. -/
theorem clo_calls (pat : ByteArray) (Bp : Nat) (u : List UInt8) (b : Bool) (W : World) (hc : W.cell? ⟨Bp, 0, none⟩ = some (.string pat)) (h : boxes_Fits.f pat (strB u) = some b) :
    Calls Try.prog 22 #[.string (strB u), .pointer (some ⟨Bp, 0, none⟩)] W fun e w' => e = .returned (.bool (!b)) ∧ Below W.heap.size W w' := by
  have HF := Aside0.mk (fun W' => boxes_Fits.calls pat (strB u) b W' h)
  clear h
  go_enter Try.func22, Try.ntmps22
  go_wp2_with (go_at_call 8; refine (HF.out _).mono ?_; rintro e w1 ⟨rfl, hb1⟩; have HB1 := Aside0.mk hb1; clear hb1)
  go_ret
  exact ⟨rfl, HB1.out⟩
/-- What a row of the call's own and the pattern's cell are, behind any of the predicate's calls. -/
structure Del (w0 : World) (B cap : Nat) (w : World) (xs : List (List UInt8)) : Prop where
  bel : Below w0.heap.size w0 w
  row : w.ownsRow w0.heap.size 9 1 (.slice (some ⟨B, 0, none⟩) xs.length cap) xs.length (xs.map encStr)
theorem Del.base {w0 w : World} {B cap : Nat} {xs : List (List UInt8)} (h : Del w0 B cap w xs) : w0.heap.size ≤ B ∧ B < w.heap.size ∧ xs.length ≤ cap ∧ cap ≤ maxLen ∧ Holds encStr w B 0 xs.toArray := by
  obtain ⟨g, c, e, h1, h2, h3, h4, h5, h6⟩ := Lib.holds_of_ownsRow h.row (by simp)
  simp only [Value.slice.injEq, Option.some.injEq, Addr.mk.injEq, true_and, and_true] at e
  obtain ⟨rfl, rfl⟩ := e
  exact ⟨h1, h2, h3, h4, h6⟩
theorem Del.below {w0 w w' : World} {B cap : Nat} {xs : List (List UInt8)} (h : Del w0 B cap w xs) (hb : Below w.heap.size w w') : Del w0 B cap w' xs := by
  refine ⟨below_step h.bel hb, ?_⟩
  have hB := h.base.2.1
  rcases h.row with ⟨h1, h2⟩
  refine ⟨h1, ?_⟩
  rcases h2 with h2 | ⟨g, c, cur, e, k1, k2, k3⟩
  · exact .inl h2
  · refine .inr ⟨g, c, cur, e, k1, ?_, k3⟩
    simp only [Value.slice.injEq, Option.some.injEq, Addr.mk.injEq, true_and, and_true] at e
    rw [← e.1] at k2 ⊢
    rw [hb.block B hB]
    exact k2
theorem Del.cellp {w0 w : World} {B cap : Nat} {xs : List (List UInt8)} (h : Del w0 B cap w xs) {a : Addr} {v : Value} (hp : w0.cell? a = some v) : w.cell? a = some v := by
  cases hk : w0.heap[a.block]? with
  | none => simp [World.cell?, hk] at hp
  | some o =>
    have := h.bel.block a.block (Array.getElem?_eq_some_iff.1 hk).1
    rw [← hp]
    simp only [World.cell?, this]
theorem Del.cell {w0 w : World} {B cap : Nat} {xs : List (List UInt8)} (h : Del w0 B cap w xs) (j : Nat) (hj : j < xs.length) : w.cell? ⟨B, j, none⟩ = some (.string (strB (xs[j]!))) ∧ w.frozen? ⟨B, j, none⟩ = false := by
  have := h.base.2.2.2.2 j (by simpa using hj)
  rw [Nat.zero_add, encStr_eq] at this
  simpa using this
set_option maxHeartbeats 2000000 in
theorem idx_calls (w0 : World) (pat : ByteArray) (Bp B cap : Nat) (ss : List (List UInt8)) (q : List UInt8 → Bool) (w : World) (hp : w0.cell? ⟨Bp, 0, none⟩ = some (.string pat)) (hD : Del w0 B cap w ss) (hq : ∀ j, j < ss.length → boxes_Fits.f pat (strB (ss[j]!)) = some (q (ss[j]!))) (hn : ss.length ≤ 1000) :
    Calls Try.prog 27 #[.slice (some ⟨B, 0, none⟩) ss.length cap, .func (.func 22) #[] #[.pointer (some ⟨Bp, 0, none⟩)]] w fun e w' => ∃ k : Nat, (∀ j, j < k → q (ss[j]!) = true) ∧ ((k = ss.length ∧ e = .returned (.int .i64 (-1))) ∨ (k < ss.length ∧ q (ss[k]!) = false ∧ e = .returned (.int .i64 k))) ∧ Del w0 B cap w' ss := by
  have HP := Aside0.mk hp
  have HD := Aside0.mk hD
  have HQ := Aside0.mk hq
  clear hp hD hq
  obtain ⟨n, hnn⟩ : ∃ n, n = ss.length := ⟨_, rfl⟩
  have HN := Aside0.mk hnn
  rw [← hnn] at hn ⊢
  clear hnn
  go_enter Try.func27, Try.ntmps27
  go_wp2
  go_loopw [8] (fun i wr => ∃ k : Nat, k ≤ n ∧ i = .int .i64 k ∧ Aside0 (∀ j, j < k → q (ss[j]!) = true) ∧ Aside0 (Del w0 B cap wr ss)) (fun i _ => n - (intOf i).toNat)
  case atStart => exact ⟨0, Nat.zero_le _, rfl, ⟨fun j hj => absurd hj (Nat.not_lt_zero j)⟩, HD⟩
  case round =>
    clear HD
    obtain ⟨k, hk, rfl, HA, HD⟩ := hrel
    by_cases hlt : k < n
    · have hlt' : k < ss.length := by rw [← HN.out]; exact hlt
      obtain ⟨hcell, _⟩ := HD.out.cell k hlt'
      have t1 : decide (k < n) = true := decide_eq_true hlt
      have t2 : decide ((k : Int) < (n : Int)) = true := decide_eq_true (by omega)
      have HC := Aside0.mk (clo_calls pat Bp (ss[k]!) _ wr (HD.out.cellp HP.out) (HQ.out k hlt'))
      obtain ⟨x, hx⟩ : ∃ x, x = ss[k]! := ⟨_, rfl⟩
      have HX := Aside0.mk hx
      rw [← hx] at hcell HC
      clear hx hlt'
      cases hb : q x with
      | true =>
        rw [hb] at HC
        have HB := Aside0.mk hb
        clear hb
        go_wp2_with (go_at_call 22; refine HC.out.mono ?_; rintro e w1 ⟨rfl, hb1⟩; have HD1 := Aside0.mk (HD.out.below hb1); clear hb1)
        go_roundw
        case rel => exact ⟨k + 1, by omega, by go_num, ⟨fun j hj => by
          by_cases e : j = k
          · rw [e, ← HX.out]; exact HB.out
          · exact HA.out j (by omega)⟩, HD1⟩
        case measure => first | (simp [intOf]; done) | (simp [intOf]; omega)
      | false =>
        rw [hb] at HC
        have HB := Aside0.mk hb
        clear hb
        go_wp2_with (go_at_call 22; refine HC.out.mono ?_; rintro e w1 ⟨rfl, hb1⟩; have HD1 := Aside0.mk (HD.out.below hb1); clear hb1)
        go_ret
        exact ⟨k, HA.out, .inr ⟨hlt, by rw [← HX.out]; exact HB.out, rfl⟩, HD1.out⟩
    · have hks : k = n := by omega
      subst hks
      have t1 : decide (k < k) = false := decide_eq_false (Nat.lt_irrefl _)
      go_wp2
      go_ret
      exact ⟨k, HA.out, .inl ⟨rfl, rfl⟩, HD.out⟩
theorem Del.set {w0 w : World} {B cap : Nat} {xs : List (List UInt8)} (h : Del w0 B cap w xs) (i : Nat) (x : List UInt8) : Del w0 B cap (w.setCell ⟨B, i, none⟩ (.string (strB x))) (xs.set i x) := by
  have hR : (Kd.scalar encStr (fun _ => rfl)).R 9 w w0.heap.size (fun _ => True) (.slice (some ⟨B, 0, none⟩) xs.length cap) xs := Kd.R_of_own h.row (fun _ _ => trivial)
  have h2 := Kd.own_of_R (Kd.R_putn hR (i : Int) x)
  refine ⟨h.bel.setCell h.base.1 _, ?_⟩
  rw [← encStr_eq]
  simpa [encs] using h2
theorem least (P : Nat → Bool) : ∀ n, (∀ j, j < n → P j = true) ∨ ∃ k, k < n ∧ P k = false ∧ ∀ j, j < k → P j = true
  | 0 => .inl fun j hj => absurd hj (Nat.not_lt_zero j)
  | n + 1 => by
    rcases least P n with h | ⟨k, h1, h2, h3⟩
    · by_cases hn : P n = true
      · refine .inl fun j hj => ?_
        by_cases e : j = n
        · rw [e]
          exact hn
        · exact h j (by omega)
      · exact .inr ⟨n, by omega, by simpa using hn, h⟩
    · exact .inr ⟨k, by omega, h2, h3⟩
/-- What stays when the row's end is cleared and the slice cut. -/
theorem Del.cut {w0 w : World} {B cap : Nat} {ss : Array (List UInt8)} {q : List UInt8 → Bool} {dk : Array (List UInt8)} {i : Nat} (h : Del w0 B cap w dk.toList) (hI : Lib.KeptInv (fun j => q (ss[j]!)) ss ss.size i dk) :
    Del w0 B cap (w.setCells B i (List.replicate (ss.size - i) (.string ByteArray.empty))) (ss.toList.filter q) := by
  have hb := h.base
  have hs : dk.size = ss.size := hI.size
  have e1 : putRow encStr (Sort.ahead w 0) B 0 dk = w := putRow_self encStr w B 0 dk (by simpa using hb.2.2.2.2)
  have e2 := Lib.putRow_setCells encStr (Sort.ahead w 0) B 0 (List.replicate (ss.size - i) ([] : List UInt8)) dk i (by have := hI.lt; simp; omega)
  have e3 := hI.done ([] : List UInt8)
  rw [e1, e3, Nat.zero_add, List.map_replicate, Lib.keptUpTo_filter] at e2
  have hlen : (ss.toList.filter q).length = i := by rw [← Lib.keptUpTo_filter]; exact hI.len
  have e4 : (encStr [] : Value) = .string ByteArray.empty := rfl
  rw [e4] at e2
  have hrow := h.row
  rw [Array.length_toList, hs] at hrow
  have hi : i ≤ ss.size := Nat.le_of_lt hI.lt
  have hr := Lib.ownsRow_putRow (q := 0) (k := i) (ys := ss.toList.filter q ++ List.replicate (ss.size - i) []) hrow (by rw [List.length_append, hlen, List.length_replicate]; omega) hi
  have ht : (ss.toList.filter q ++ List.replicate (ss.size - i) []).take i = ss.toList.filter q := by rw [← hlen, List.take_left]
  rw [ht, ← e2] at hr
  refine ⟨?_, by rw [hlen]; exact hr⟩
  rw [e2]
  exact Lib.below_putRow h.bel hb.1
set_option maxHeartbeats 4000000 in
theorem del_calls (w0 : World) (pat : ByteArray) (Bp B cap : Nat) (ss : Array (List UInt8)) (q : List UInt8 → Bool) (w : World) (hp : w0.cell? ⟨Bp, 0, none⟩ = some (.string pat)) (hD : Del w0 B cap w ss.toList) (hq : ∀ j, j < ss.size → boxes_Fits.f pat (strB (ss[j]!)) = some (q (ss[j]!))) (hn : ss.size ≤ 1000) :
    Calls Try.prog 20 #[.slice (some ⟨B, 0, none⟩) ss.size cap, .func (.func 22) #[] #[.pointer (some ⟨Bp, 0, none⟩)]] w fun e w' => e = .returned (.slice (some ⟨B, 0, none⟩) (ss.toList.filter q).length cap) ∧ Del w0 B cap w' (ss.toList.filter q) := by
  have hD0 := hD
  have tl : ∀ j, j < ss.size → ss.toList[j]! = ss[j]! := fun j hj => by rw [getElem!_pos ss j hj, getElem!_pos ss.toList j (by simpa using hj)]; simp
  have hidx := idx_calls w0 pat Bp B cap ss.toList q w hp hD (fun j hj => by rw [tl j (by simpa using hj)]; exact hq j (by simpa using hj)) (by simpa using hn)
  rw [Array.length_toList] at hidx
  have hcap : ss.size ≤ cap := by have := hD.base.2.2.1; simpa using this
  have HCAP := Aside0.mk hcap
  have hmx := hD.base.2.2.2.1
  unfold maxLen at hmx
  rcases least (fun j => q (ss[j]!)) ss.size with hall | ⟨k0, hk0, hf, hbe⟩
  · have HI : Calls Try.prog 27 #[.slice (some ⟨B, 0, none⟩) ss.size cap, .func (.func 22) #[] #[.pointer (some ⟨Bp, 0, none⟩)]] w fun e w' => e = .returned (.int .i64 (-1)) ∧ Del w0 B cap w' ss.toList := by
      refine hidx.mono fun e w' h => ?_
      obtain ⟨k, h1, h2, h3⟩ := h
      rcases h2 with ⟨_, rfl⟩ | ⟨hk, hqk, _⟩
      · exact ⟨rfl, h3⟩
      · rw [tl k hk] at hqk
        rw [hall k hk] at hqk
        cases hqk
    have hfil : ss.toList.filter q = ss.toList := by
      rw [List.filter_eq_self]
      intro x hx
      obtain ⟨j, hj, rfl⟩ := List.mem_iff_getElem.1 hx
      have hj' : j < ss.size := by simpa using hj
      have := hall j hj'
      rw [getElem!_pos ss j hj'] at this
      simpa using this
    have HX := Aside0.mk HI
    rw [hfil, Array.length_toList]
    clear hidx HI hall hfil hD hD0 hq hp tl
    go_enter Try.func20, Try.ntmps20
    go_wp2_with (go_at_call 27; refine HX.out.mono ?_; rintro e w1 ⟨rfl, hd1⟩; have HD1 := Aside0.mk hd1; clear hd1)
    go_ret
    exact ⟨rfl, HD1.out⟩
  · have HI : Calls Try.prog 27 #[.slice (some ⟨B, 0, none⟩) ss.size cap, .func (.func 22) #[] #[.pointer (some ⟨Bp, 0, none⟩)]] w fun e w' => e = .returned (.int .i64 k0) ∧ Del w0 B cap w' ss.toList := by
      refine hidx.mono fun e w' h => ?_
      obtain ⟨k, h1, h2, h3⟩ := h
      rcases h2 with ⟨hk, _⟩ | ⟨hk, hqk, rfl⟩
      · have := h1 k0 (by omega)
        rw [tl k0 hk0, hf] at this
        cases this
      · have : k = k0 := by
          rcases Nat.lt_trichotomy k k0 with hl | hl | hl
          · have h4 := hbe k hl
            rw [tl k hk] at hqk
            simp only [hqk] at h4
            cases h4
          · exact hl
          · have h4 := h1 k0 hl
            rw [tl k0 hk0, hf] at h4
            cases h4
        subst this
        exact ⟨rfl, h3⟩
    have HX := Aside0.mk HI
    have HP := Aside0.mk hp
    have HQ := Aside0.mk hq
    obtain ⟨n, hnn⟩ : ∃ n, n = ss.size := ⟨_, rfl⟩
    have HN := Aside0.mk hnn
    have HST := Aside0.mk (Lib.KeptInv.start (d := ss) (kp := fun j => q (ss[j]!)) (k0 := k0) hbe hf)
    rw [← hnn] at hn hk0 HX hcap ⊢
    have hz : ∀ W, (zeroValue 9).run Try.prog W = .ok (.string ByteArray.empty) W := fun W => Try.zeroValue9 W
    have HZ := Aside0.mk hz
    have hne1 : ((k0 : Int) == -1) = false := beq_eq_false_iff_ne.2 (by omega)
    have hne2 : ((k0 : Int) = -1) = False := eq_false (by omega)
    clear hidx HI hD hD0 hq hp tl hnn hf hbe hz
    go_enter Try.func20, Try.ntmps20
    go_wp2_with (go_at_call 27; refine HX.out.mono ?_; rintro e w1 ⟨rfl, hd1⟩; have HD1 := Aside0.mk hd1; clear hd1)
    go_loopw [5, 6] (fun s5 s6 wr => ∃ (i j : Nat) (dk : Array (List UInt8)), s5 = .int .i64 i ∧ s6 = .int .i64 j ∧ j ≤ n ∧ i < j ∧ Aside0 (Del w0 B cap wr dk.toList) ∧ Aside0 (dk.size = n) ∧ Aside0 (Lib.KeptInv (fun j => q (ss[j]!)) ss j i dk)) (fun _ i _ => n - (intOf i).toNat)
    case atStart => exact ⟨k0, k0 + 1, ss, rfl, by go_num, by omega, by omega, HD1, ⟨HN.out.symm⟩, HST⟩
    case round =>
      obtain ⟨i, j, dk, rfl, rfl, hjn, hij, HD, HS, HK⟩ := hrel
      by_cases hlt : j < n
      · have hlj : j < dk.toList.length := by rw [Array.length_toList, HS.out]; exact hlt
        have hli : i < dk.toList.length := by rw [Array.length_toList, HS.out]; omega
        obtain ⟨cj, fj⟩ := HD.out.cell j hlj
        obtain ⟨ci, fi⟩ := HD.out.cell i hli
        have ej : dk.toList[j]! = ss[j]! := by
          rw [← HK.out.high j (by omega), getElem!_pos dk j (by rw [HS.out]; exact hlt), getElem!_pos dk.toList j hlj]
          simp
        rw [ej] at cj
        have t1 : decide (j < n) = true := decide_eq_true hlt
        have t2 : decide ((j : Int) < (n : Int)) = true := decide_eq_true (by omega)
        have HC := Aside0.mk (clo_calls pat Bp (ss[j]!) _ wr (HD.out.cellp HP.out) (HQ.out j (by rw [← HN.out]; exact hlt)))
        clear hlj hli ej fj
        obtain ⟨x, hx⟩ : ∃ x, x = ss[j]! := ⟨_, rfl⟩
        have HX2 := Aside0.mk hx
        rw [← hx] at cj HC
        clear hx
        generalize dk.toList[i]! = old at ci
        cases hb : q x with
        | true =>
          rw [hb] at HC
          have HB := Aside0.mk hb
          clear hb
          go_wp2_with (go_at_call 22; refine HC.out.mono ?_; rintro e w2 ⟨rfl, hb1⟩; have HD2 := Aside0.mk (HD.out.below hb1); have ci2 := (HD2.out.cell i (by rw [Array.length_toList, HS.out]; omega)).1; have fi2 := (HD2.out.cell i (by rw [Array.length_toList, HS.out]; omega)).2; clear hb1 ci fi)
          go_roundw
          case rel => exact ⟨i + 1, j + 1, dk.setIfInBounds i x, by go_num, by go_num, by omega, by omega, ⟨by rw [Array.toList_setIfInBounds]; exact HD2.out.set i x⟩, ⟨by rw [Array.size_setIfInBounds]; exact HS.out⟩, ⟨by
            have := HK.out.keep (by rw [← HN.out]; exact hlt) (show q (ss[j]!) = true by rw [← HX2.out]; exact HB.out)
            rwa [← HX2.out] at this⟩⟩
          case measure => first | (simp [intOf]; done) | (simp [intOf]; omega)
        | false =>
          rw [hb] at HC
          have HB := Aside0.mk hb
          clear hb
          go_wp2_with (go_at_call 22; refine HC.out.mono ?_; rintro e w2 ⟨rfl, hb1⟩; have HD2 := Aside0.mk (HD.out.below hb1); clear hb1)
          go_roundw
          case rel => exact ⟨i, j + 1, dk, rfl, by go_num, by omega, by omega, HD2, HS, ⟨HK.out.skip (show q (ss[j]!) = false by rw [← HX2.out]; exact HB.out)⟩⟩
          case measure => first | (simp [intOf]; done) | (simp [intOf]; omega)
      · have hjs : j = n := by omega
        subst hjs
        have t1 : decide (j < j) = false := decide_eq_false (Nat.lt_irrefl _)
        have hcl : ∀ ty, (Builtin.clear_ #[24] ty #[.slice (some ⟨B, i, none⟩) (j - i) (cap - i)]).run Try.prog wr = .ok (.tuple #[]) (wr.setCells B i (List.replicate (j - i) (.string ByteArray.empty))) :=
          fun ty => Lib.run_clear_slice wr 24 9 ty _ Try.underlying24 HZ.out rfl rfl B i (j - i) (cap - i) (by omega) (fun t ht => by rw [(HD.out.cell (i + t) (by rw [Array.length_toList, HS.out]; omega)).1]; rfl) (fun t ht => (HD.out.cell (i + t) (by rw [Array.length_toList, HS.out]; omega)).2)
        clear hlt
        go_wp2
        go_ret
        have hK := HK.out
        have hN := HN.out
        rw [hN] at hK
        have hfin := HD.out.cut hK
        have hlen : (ss.toList.filter q).length = i := by rw [← Lib.keptUpTo_filter]; exact hK.len
        refine ⟨by rw [hlen]; rfl, ?_⟩
        rw [hN]
        exact hfin
end Go.Proofs.Ythlofokgbogndab.GBoxes
