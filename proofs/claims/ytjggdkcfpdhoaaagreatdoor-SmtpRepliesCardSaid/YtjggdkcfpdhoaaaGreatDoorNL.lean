/- strings.ContainsAny at the two bytes of a line's end, at whatever bytes. -/
import Derived.Test.YtjggdkcfpdhoaaaGreatDoorSh2
import Derived.Laws.RangeAny
import Derived.Lib.OthersKept
import Derived.Deep.QuietTactic
import Derived.BigQuiet
import Derived.Lib.Strings
import Derived.RegionTactic
namespace Go.Proofs.YtjggdkcfpdhoaaaGreatDoor.NL
open Go Go.RowKit Go.Proofs.YtjggdkcfpdhoaaaGreatDoorW.PrintWords Go.Proofs.YtjggdkcfpdhoaaaGreatDoor.Dots
set_option linter.unusedVariables false
set_option linter.unusedSimpArgs false
def endB (b : UInt8) : Bool := b == 13 || b == 10
/-- Does a text hold a byte of a line's end? -/
def hasNL (s : ByteArray) : Bool := s.data.toList.any endB
def crlfB : ByteArray := ⟨#[13, 10]⟩
/-- What a rune of more than one byte is written as: two to four bytes, none below 128. -/
theorem encode_high (r : Int) (h : 128 ≤ r) (hv : Utf8.valid r = true) : ∃ b0 b1 : UInt8, ∃ t : List UInt8, (Utf8.encode r).data.toList = b0 :: b1 :: t ∧ 128 ≤ b1.toNat ∧ t.length ≤ 2 := by
  have hr : r ≤ 1114111 := by
    simp only [Utf8.valid, Bool.or_eq_true, Bool.and_eq_true, decide_eq_true_eq] at hv
    omega
  unfold Utf8.encode
  rw [if_pos hv]
  obtain ⟨n, rfl⟩ := Int.eq_ofNat_of_zero_le (show 0 ≤ r by omega)
  have e : ((n : Nat) : Int).toNat = n := by omega
  simp only [e]
  have hn : ¬ n < 128 := by omega
  rw [if_neg hn]
  have hb : ∀ x : Nat, 128 ≤ x → x < 256 → 128 ≤ (UInt8.ofNat x).toNat := fun x h1 h2 => by rw [UInt8.toNat_ofNat']; omega
  split
  · exact ⟨_, _, [], rfl, hb _ (by omega) (by omega), by simp⟩
  · split
    · exact ⟨_, _, [UInt8.ofNat (128 + n % 64)], rfl, hb _ (by omega) (by omega), by simp⟩
    · exact ⟨_, _, [UInt8.ofNat (128 + n / 64 % 64), UInt8.ofNat (128 + n % 64)], rfl, hb _ (by omega) (by omega), by simp⟩
/-- Where a rune begins with a byte of 128 or more, all its bytes are such. -/
theorem decode_skip (s : ByteArray) (pos : Nat) (h : pos < s.size) (ha : 128 ≤ (s[pos]'h).toNat) : pos + (Utf8.decode s pos).2 ≤ s.size ∧ ∀ j, pos ≤ j → j < pos + (Utf8.decode s pos).2 → 128 ≤ (s.get! j).toNat := by
  have hn : ¬ (s[pos]'h).toNat < 128 := by omega
  have h0 : 128 ≤ (s.get! pos).toNat := by
    have := get_at s pos h
    rw [Nat.add_zero] at this
    rw [this]; exact ha
  have hc : ∀ k, (decide (pos + k < s.size) && (s.get! (pos + k)).toNat / 64 == 2) = true → pos + k < s.size ∧ 128 ≤ (s.get! (pos + k)).toNat := fun k hk => by
    rw [Bool.and_eq_true, decide_eq_true_eq, beq_iff_eq] at hk
    exact ⟨hk.1, by omega⟩
  have one : pos + 1 ≤ s.size ∧ ∀ j, pos ≤ j → j < pos + 1 → 128 ≤ (s.get! j).toNat := ⟨by omega, fun j h1 h2 => by
    obtain rfl : j = pos := by omega
    exact h0⟩
  simp only [Utf8.decode, get_at s pos h, hn, if_false]
  split
  · rename_i g
    rw [Bool.and_eq_true] at g
    have c1 := hc 1 g.2
    split
    · refine ⟨by omega, fun j h1 h2 => ?_⟩
      rcases (show j = pos ∨ j = pos + 1 by simp only at h2; omega) with rfl | rfl
      · exact h0
      · exact c1.2
    · exact one
  · split
    · rename_i g
      rw [Bool.and_eq_true, Bool.and_eq_true] at g
      have c1 := hc 1 g.1.2
      have c2 := hc 2 g.2
      split
      · refine ⟨by simp only; omega, fun j h1 h2 => ?_⟩
        rcases (show j = pos ∨ j = pos + 1 ∨ j = pos + 2 by simp only at h2; omega) with rfl | rfl | rfl
        · exact h0
        · exact c1.2
        · exact c2.2
      · exact one
    · split
      · rename_i g
        rw [Bool.and_eq_true, Bool.and_eq_true, Bool.and_eq_true] at g
        have c1 := hc 1 g.1.1.2
        have c2 := hc 2 g.1.2
        have c3 := hc 3 g.2
        split
        · refine ⟨by simp only; omega, fun j h1 h2 => ?_⟩
          rcases (show j = pos ∨ j = pos + 1 ∨ j = pos + 2 ∨ j = pos + 3 by simp only at h2; omega) with rfl | rfl | rfl | rfl
          · exact h0
          · exact c1.2
          · exact c2.2
          · exact c3.2
        · exact one
      · exact one
theorem ib_calls (c : Int) (W : World) : Calls Tryz.prog 83 #[.string ⟨#[]⟩, .int .u8 c] W fun e w' => e = .returned (.int .i64 (-1)) ∧ w' = W := Tryz.strings_IndexByte ⟨#[]⟩ c W
theorem quiet_add_same {P : Program} {f : FuncId} {args : Array Value} {w : World} {a n : Nat} {v : Value}
    (h : Calls P f args (w.drewN (a + n)) fun e w' => e = .returned v ∧ w' = w.drewN (a + n)) :
    Calls P f args (w.drewN (a + n)) fun e w'' => e = .returned v ∧ ∃ m, w'' = w.drewN (a + m) :=
  h.mono fun _ _ ⟨he, hm⟩ => ⟨he, n, hm⟩
theorem zero116 (w : World) : (zeroValue 88).run Tryz.prog w = .ok (.agg (Array.replicate 256 (.bool false))) w := by kernel_rfl
set_option maxRecDepth 100000 in
set_option maxHeartbeats 8000000 in
/-- strings.IndexRune at a rune of more than one byte: it doesn't stand in a line's end. -/
theorem rune_calls (r : Int) (h0 : 128 ≤ r) (h1 : r ≤ 2147483647) (w : World) :
    Calls Tryz.prog 58 #[.string ⟨#[13, 10]⟩, .int .i32 r] w fun e w' => e = .returned (.int .i64 (-1)) ∧ Below w.heap.size w w' := by
  have t0 : decide (0 ≤ r) = true := decide_eq_true (by omega)
  have t1 : decide (r < 128) = false := decide_eq_false (by omega)
  by_cases hE : r = 65533
  · subst hE
    go_enter Tryz.func58, Tryz.ntmps58
    go_wp2
    go_loopg [5, 6] 2 (fun g _ _ wx => ∃ i : Nat, i + g = 2 ∧ wx = w.iter ⟨#[13, 10]⟩ i)
    case atStart => exact ⟨0, by omega, rfl⟩
    case round =>
      obtain ⟨i, hig, rfl⟩ := hrel
      cases gk with
      | zero =>
        obtain rfl : i = 2 := by omega
        have hnx := fun ty => run_next_end (P := Tryz.prog) w ⟨#[13, 10]⟩ 2 ty (by decide)
        go_wp2
        go_ret
        exact ⟨rfl, (Below.refl _ w).alloc (Nat.le_refl _) _⟩
      | succ g =>
        rcases (show i = 0 ∨ i = 1 by omega) with rfl | rfl
        · have hnx := fun ty => run_next_ascii (P := Tryz.prog) w ⟨#[13, 10]⟩ 0 ty (by decide) (by decide)
          go_wp2
          go_roundg g
          case measure => omega
          case rel => exact ⟨1, by omega, rfl⟩
        · have hnx := fun ty => run_next_ascii (P := Tryz.prog) w ⟨#[13, 10]⟩ 1 ty (by decide) (by decide)
          go_wp2
          go_roundg g
          case measure => omega
          case rel => exact ⟨2, by omega, rfl⟩
  · have t2 : (r == 65533) = false := by rw [beq_eq_false_iff_ne]; exact hE
    have HV := Aside0.mk (fun W => Tryz.utf8_ValidRune r W)
    cases hv : Lib.validRune r with
    | false =>
      rw [hv] at HV
      go_enter Tryz.func58, Tryz.ntmps58
      go_wp2_with (go_at_call 84; refine (HV.out _).mono ?_; rintro e w' ⟨rfl, rfl⟩)
      go_ret
      exact ⟨rfl, Below.refl _ _⟩
    | true =>
      rw [hv] at HV
      go_enter Tryz.func58, Tryz.ntmps58
      go_upto_region 2 with (go_at_call 84; refine (HV.out _).mono ?_; rintro e w' ⟨rfl, rfl⟩)
      go_step3
      have hval : Utf8.valid r = true := by
        unfold Lib.validRune at hv
        have h3 := of_decide_eq_true hv
        unfold Utf8.valid
        rcases h3 with ⟨a, b⟩ | ⟨a, b⟩
        · rw [decide_eq_true a, decide_eq_true b]; rfl
        · rw [decide_eq_true (show 0xE000 ≤ r by omega), decide_eq_true b]; simp
      obtain ⟨c0, c1, tl, hen, hc1, htl⟩ := encode_high r h0 hval
      have hsz : (Utf8.encode r).size = 2 + tl.length := by
        rw [← data_length, hen]; simp; omega
      have hx1 : ∀ h : 1 < (Utf8.encode r).size, ((((Utf8.encode r)[1]'h).toNat : Nat) : Int) = (c1.toNat : Int) := fun h => by
        have e := data_length (Utf8.encode r)
        have h2 : (Utf8.encode r).data.toList[1]? = some ((Utf8.encode r)[1]'h) := by
          rw [List.getElem?_eq_getElem (by rw [e]; exact h)]
          rfl
        rw [hen] at h2
        have h3 : c1 = (Utf8.encode r)[1]'h := by simpa using h2
        rw [← h3]
      obtain ⟨en, hend⟩ : ∃ en, en = Utf8.encode r := ⟨_, rfl⟩
      rw [← hend] at hsz hx1 hen
      go_upto_region 2 with (fail)
      rw [← hend]
      clear hend
      have hwz : wrap64 ((en.size : Int) - 1) = ((1 + tl.length : Nat) : Int) := by unfold wrap64; omega
      by_cases ht : tl.length = 0
      · have hwz1 : wrap64 ((en.size : Int) - 1) = 1 := by rw [hwz, ht]; rfl
        have hs2 : en.size = 2 := by omega
        obtain ⟨hl2, hx⟩ : ∃ h : 1 < en.size, (((en[1]'h).toNat : Nat) : Int) = (c1.toNat : Int) := ⟨by omega, hx1 _⟩
        have hc2 : (128 : Int) ≤ (c1.toNat : Int) := by omega
        obtain ⟨c, hc⟩ : ∃ c : Int, c = (c1.toNat : Int) := ⟨_, rfl⟩
        rw [← hc] at hx hc2
        clear hwz hx1 hsz hen hc hc1 htl ht
        go_wp2
        refine wp_loop_rounds 1 ?_
        rw [rounds_succ]
        go_wp2
        go_step3
        have t3 : ((10 : Int) == c) = false := by rw [beq_eq_false_iff_ne]; omega
        have t4 : ((10 : Int) != c) = true := by rw [bne_iff_ne]; omega
        have t5 : ∀ h : 1 < (⟨#[13, 10]⟩ : ByteArray).size, ((((⟨#[13, 10]⟩ : ByteArray)[1]'h).toNat : Nat) : Int) = 10 := fun _ => rfl
        go_wp2
        go_quiet (fail)
        go_wp2
        have HIB := Aside0.mk (fun W => ib_calls c W)
        have s1 : IntKind.i64.wrap ((1 : Int) + 1) = 2 := by decide
        obtain ⟨W1, hW1⟩ : ∃ W1, W1 = w'.drewN nq := ⟨_, rfl⟩
        have HBW : Aside0 (Below w'.heap.size w' W1) := ⟨by rw [hW1]; exact pw_below_drewN (Below.refl _ _) _⟩
        rw [← hW1]
        clear hW1
        go_quiet ((go_at_call 83; exact Calls.quiet_of_same (Tryz.strings_IndexByte _ _ _)))
        have hib : ∀ x, Lib.indexByte ((⟨#[13, 10]⟩ : ByteArray).extract 2 2).data.toList x = -1 := fun x => rfl
        have hib2 : ∀ x, Lib.indexByte ((⟨#[13, 10]⟩ : ByteArray).extract 2 (⟨#[13, 10]⟩ : ByteArray).size).data.toList x = -1 := fun x => rfl
        go_wp2
        rw [Exit.noGoto_ret]
        go_simp
        go_ret
        exact ⟨rfl, pw_below_drewN HBW.out _⟩
      · clear hx1 hen hc1
        have h3 : 3 ≤ en.size := by omega
        have h4 : en.size ≤ 4 := by omega
        have t5 : decide ((en.size : Int) - 1 < 2) = false := decide_eq_false (by omega)
        clear hwz hsz htl ht
        go_wp2
        refine wp_loop_rounds 1 ?_
        rw [rounds_succ]
        go_wp2
        rw [Exit.noGoto_ret]
        go_simp
        go_ret
        exact ⟨rfl, Below.refl _ _⟩
theorem below_iter {B : Nat} {w wx : World} (h : Below B w wx) {k : Nat} (hk : B ≤ k) (s : ByteArray) (p : Nat) : Below B w (wx.iterAt k s p) :=
  ⟨h.os, h.tape, h.output, by rw [Lib.iterAt_size]; exact h.size, fun i hi => (Lib.iterAt_other _ _ _ _ _ (by omega)).trans (h.block i hi)⟩
theorem end_one (x : UInt8) : (0 ≤ Lib.indexByte [13, 10] x) ↔ endB x = true := by
  have h : ∀ n : Fin 256, decide (0 ≤ Lib.indexByte [13, 10] (UInt8.ofNat n.val)) = endB (UInt8.ofNat n.val) := by decide +kernel
  have h1 := h ⟨x.toNat, x.toNat_lt⟩
  have e : UInt8.ofNat x.toNat = x := by simp
  simp only [e] at h1
  rw [← h1, decide_eq_true_eq]
/-- No byte of a line's end among the first i. -/
def NoEnd (s : ByteArray) (i : Nat) : Prop := ∀ j, j < i → j < s.size → endB (s.get! j) = false
theorem get_in (s : ByteArray) (j : Nat) (h : j < s.size) : s.get! j ∈ s.data.toList := by
  have e : s.get! j = s[j]'h := by
    have := get_at s j h
    rw [Nat.add_zero] at this
    exact this
  rw [e]
  have hl : j < s.data.toList.length := by rw [data_length]; exact h
  have : s[j]'h = s.data.toList[j]'hl := rfl
  rw [this]
  exact List.getElem_mem hl
theorem no_all (s : ByteArray) (i : Nat) (hi : s.size ≤ i) (h : NoEnd s i) : hasNL s = false := by
  rw [hasNL, List.any_eq_false]
  intro x hx
  obtain ⟨j, hj, rfl⟩ := List.mem_iff_getElem.1 hx
  have hjs : j < s.size := by rw [data_length] at hj; exact hj
  have h1 := h j (by omega) hjs
  have e : s.get! j = s[j]'hjs := by
    have := get_at s j hjs
    rw [Nat.add_zero] at this
    exact this
  rw [e] at h1
  have e2 : s[j]'hjs = s.data.toList[j]'hj := rfl
  rw [e2] at h1
  rw [h1]; decide
theorem has_one (s : ByteArray) (j : Nat) (hj : j < s.size) (h : endB (s.get! j) = true) : hasNL s = true := by
  rw [hasNL, List.any_eq_true]
  exact ⟨_, get_in s j hj, h⟩
set_option maxRecDepth 100000 in
set_option maxHeartbeats 8000000 in
/-- strings.IndexAny at a line's end, a text of at most 8 bytes. -/
theorem short_calls (s : ByteArray) (h8 : s.size ≤ 8) (w : World) :
    Calls Tryz.prog 42 #[.string s, .string ⟨#[13, 10]⟩] w fun e w' => (∃ n : Int, e = .returned (.int .i64 n) ∧ (0 ≤ n ↔ hasNL s = true)) ∧ Below w.heap.size w w' := by
  have h8z : decide ((8 : Int) < (s.size : Int)) = false := decide_eq_false (by omega)
  have HSH := Aside0.mk (fun W => Tryz.strings_shouldUseASCIISet (s.size : Int) W)
  rw [h8z] at HSH
  clear h8z
  go_enter Tryz.func42, Tryz.ntmps42
  go_wp2_with (go_at_call 59; refine (HSH.out _).mono ?_; rintro e w' ⟨rfl, rfl⟩)
  obtain ⟨w, rfl⟩ : ∃ x, x = w' := ⟨_, rfl⟩
  have hI0 : (w.iter s 0).heap[w.heap.size]? = some (.stringIter s 0) := World.iter_heap w s 0
  have HB0 := Aside0.mk (show Below w.heap.size w (w.iter s 0) from (Below.refl _ w).alloc (Nat.le_refl _) _)
  have HI0 := Aside0.mk hI0
  have HN0 := Aside0.mk (show NoEnd s 0 from fun j hj => by omega)
  clear hI0 HSH
  go_loopg [9, 10] s.size (fun g _ _ wx => ∃ i : Nat, i ≤ s.size ∧ s.size ≤ i + g ∧ Aside0 (NoEnd s i) ∧ Aside0 (wx.heap[w.heap.size]? = some (.stringIter s i)) ∧ Aside0 (Below w.heap.size w wx))
  case atStart => exact ⟨0, Nat.zero_le _, by omega, HN0, HI0, HB0⟩
  case round =>
    clear HB0 HI0 HN0
    obtain ⟨i, hi, hig, HN, HI, HB⟩ := hrel
    by_cases hlt : i < s.size
    · cases gk with
      | zero => omega
      | succ g =>
        by_cases ha : (s[i]'hlt).toNat < 128
        · have hnx := fun ty => Lib.run_next_ascii_at (P := Tryz.prog) wr w.heap.size s i ty HI.out hlt ha
          have HI2 := Aside0.mk (Lib.iterAt_heap wr w.heap.size s i (i + 1) HI.out)
          have HB2 := Aside0.mk (below_iter HB.out (Nat.le_refl _) s (i + 1))
          have hge : s.get! i = s[i]'hlt := by
            have := get_at s i hlt
            rw [Nat.add_zero] at this
            exact this
          have HONE := Aside0.mk (has_one s i hlt)
          have HSTEP := Aside0.mk (show endB (s[i]'hlt) = false → NoEnd s (i + 1) from fun h j hj hjs => by
            rcases Nat.lt_or_ge j i with h1 | h1
            · exact HN.out j h1 hjs
            · obtain rfl : j = i := by omega
              rw [hge]; exact h)
          rw [hge] at HONE
          obtain ⟨b, hb⟩ : ∃ b, b = s[i]'hlt := ⟨_, rfl⟩
          rw [← hb] at hnx ha HONE HSTEP
          have HEB := Aside0.mk (end_one b)
          have HR := Aside0.mk (fun W => Tryz.strings_IndexRune_ascii ⟨#[13, 10]⟩ (b.toNat : Int) W (by omega) (by omega))
          have hbk : ((b.toNat : Int)).toNat.toUInt8 = b := by simp
          rw [hbk] at HR
          have HR : Aside0 (∀ W, Calls Tryz.prog 58 #[.string ⟨#[13, 10]⟩, .int .i32 (b.toNat : Int)] W fun e w' => e = .returned (.int .i64 (Lib.indexByte [13, 10] b)) ∧ w' = W) := ⟨HR.out⟩
          obtain ⟨x, hx⟩ : ∃ x, x = Lib.indexByte [13, 10] b := ⟨_, rfl⟩
          rw [← hx] at HR HEB
          clear hb hge hbk hx HI HB
          by_cases hx0 : 0 ≤ x
          · have HT := Aside0.mk (HONE.out (HEB.out.1 hx0))
            have t1 : decide (0 ≤ x) = true := decide_eq_true hx0
            go_wp2_with (go_at_call 58; refine (HR.out _).mono ?_; rintro e w2 ⟨rfl, rfl⟩)
            go_ret
            exact ⟨⟨_, rfl, ⟨fun _ => HT.out, fun _ => by omega⟩⟩, HB2.out⟩
          · have hn0 : endB b = false := by
              cases h9 : endB b with
              | false => rfl
              | true => exact absurd (HEB.out.2 h9) hx0
            have HN2 := Aside0.mk (HSTEP.out hn0)
            have t1 : decide (0 ≤ x) = false := decide_eq_false hx0
            clear hn0
            go_wp2_with (go_at_call 58; refine (HR.out _).mono ?_; rintro e w2 ⟨rfl, rfl⟩)
            go_roundg g
            case measure => omega
            case rel => exact ⟨i + 1, by omega, by omega, HN2, HI2, HB2⟩
        · have hnx := fun ty => Lib.run_next_any_at (P := Tryz.prog) wr w.heap.size s i ty HI.out hlt
          have hd := decode_high s i hlt (by omega)
          have hle := decode_le s i
          have hsk := decode_skip s i hlt (by omega)
          obtain ⟨r, hr⟩ : ∃ r, r = (Utf8.decode s i).1 := ⟨_, rfl⟩
          obtain ⟨n, hn⟩ : ∃ n, n = (Utf8.decode s i).2 := ⟨_, rfl⟩
          rw [← hr] at hd hle hnx
          rw [← hn] at hd hsk hnx
          have HI2 := Aside0.mk (Lib.iterAt_heap wr w.heap.size s i (i + n) HI.out)
          have HB2 := Aside0.mk (below_iter HB.out (Nat.le_refl _) s (i + n))
          have HN2 := Aside0.mk (show NoEnd s (i + n) from fun j hj hjs => by
            rcases Nat.lt_or_ge j i with h1 | h1
            · exact HN.out j h1 hjs
            · have h2 := hsk.2 j h1 hj
              rw [endB, Bool.or_eq_false_iff]
              constructor <;> (rw [beq_eq_false_iff_ne]; intro e; rw [e] at h2; exact absurd h2 (by decide)))
          have hin := hsk.1
          have hn1 := hd.2
          have HR := Aside0.mk (fun W => rune_calls (r : Int) (by omega) (by omega) W)
          have hszK : w.heap.size < (wr.iterAt w.heap.size s (i + n)).heap.size := by
            rw [Lib.iterAt_size]
            exact (Array.getElem?_eq_some_iff.1 HI.out).1
          have HK := Aside0.mk hszK
          clear hr hn hsk hd hle HI HB hszK
          go_wp2_with (go_at_call 58; refine (HR.out _).mono ?_; rintro e w2 ⟨rfl, hb2⟩; have HI3 := Aside0.mk ((hb2.block w.heap.size HK.out).trans HI2.out); have HB3 := Aside0.mk (HB2.out.trans (hb2.mono HB2.out.size)); clear hb2)
          go_roundg g
          case measure => omega
          case rel => exact ⟨i + n, by omega, by omega, HN2, HI3, HB3⟩
    · have hnx := fun ty => Lib.run_next_end_at (P := Tryz.prog) wr w.heap.size s i ty HI.out hlt
      have HF := Aside0.mk (no_all s i (by omega) HN.out)
      go_wp2
      go_ret
      exact ⟨⟨_, rfl, ⟨fun h => absurd h (by decide), fun h => by rw [HF.out] at h; cases h⟩⟩, HB.out⟩
theorem index_has : ∀ l : List UInt8, (0 ≤ Lib.indexAny l [13, 10]) ↔ l.any endB = true
  | [] => by simp [Lib.indexAny]
  | b :: l => by
    have ih := index_has l
    have hge := Lib.indexAny_ge [13, 10] l
    have hb : ([13, 10] : List UInt8).contains b = endB b := by
      rw [endB, List.contains_cons, List.contains_cons]
      simp
    rw [Lib.indexAny, hb, List.any_cons]
    cases h : endB b with
    | true => simp
    | false =>
      rw [if_neg (by decide), Bool.false_or, ← ih]
      by_cases hm : Lib.indexAny l [13, 10] = -1
      · rw [hm]; simp
      · have : (Lib.indexAny l [13, 10] == -1) = false := by simpa using hm
        rw [this, if_neg (by decide)]
        omega
/-- strings.IndexAny at a line's end: is there such a byte? -/
theorem index_calls (s : ByteArray) (hs : s.size ≤ 1000000) (w : World) :
    Calls Tryz.prog 42 #[.string s, .string ⟨#[13, 10]⟩] w fun e w' => (∃ n : Int, e = .returned (.int .i64 n) ∧ (0 ≤ n ↔ hasNL s = true)) ∧ Below w.heap.size w w' := by
  by_cases h8 : s.size ≤ 8
  · exact short_calls s h8 w
  · refine (Tryz.strings_IndexAny_long zero116 s ⟨#[13, 10]⟩ w (by decide) (by omega) (by omega) (by decide) (fun j b hb => ?_)).mono ?_
    · have : b ∈ ([13, 10] : List UInt8) := List.mem_of_getElem? hb
      simp only [List.mem_cons, List.not_mem_nil, or_false] at this
      rcases this with rfl | rfl <;> decide
    · rintro e w' ⟨rfl, rfl⟩
      exact ⟨⟨_, rfl, index_has _⟩, ((Below.refl _ w).alloc (Nat.le_refl _) _).alloc (by simp) _⟩
/-- strings.ContainsAny at a line's end. -/
theorem nl_calls (s : ByteArray) (hs : s.size ≤ 1000000) (w : World) :
    Calls Tryz.prog 26 #[.string s, .string ⟨#[13, 10]⟩] w fun e w' => e = .returned (.bool (hasNL s)) ∧ Below w.heap.size w w' := by
  have HI := Aside0.mk (index_calls s hs w)
  obtain ⟨h, hh⟩ : ∃ h, h = hasNL s := ⟨_, rfl⟩
  rw [← hh] at HI ⊢
  clear hh
  go_enter Tryz.func26, Tryz.ntmps26
  go_wp2_with (go_at_call 42; refine HI.out.mono ?_; rintro e w1 ⟨⟨n, rfl, hn⟩, hb1⟩; have HN := Aside0.mk hn; have HB := Aside0.mk hb1; clear hn hb1)
  go_ret
  refine ⟨?_, HB.out⟩
  have : decide (0 ≤ n) = h := by
    rw [Bool.eq_iff_iff, decide_eq_true_eq]
    exact HN.out
  rw [← this]
  rfl
end Go.Proofs.YtjggdkcfpdhoaaaGreatDoor.NL
