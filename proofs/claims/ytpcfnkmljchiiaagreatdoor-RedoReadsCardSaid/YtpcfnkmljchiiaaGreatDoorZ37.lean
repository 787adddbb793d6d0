/- Steps towards RBoth: ORo. -/
import Derived.Test.YtpcfnkmljchiiaaGreatDoorZ26
import Derived.Test.YtpcfnkmljchiiaaGreatDoorZ28
import Derived.Test.YtpcfnkmljchiiaaGreatDoorZ31
import Derived.Test.YtpcfnkmljchiiaaGreatDoorZ36
set_option linter.unusedVariables false
set_option linter.unusedSimpArgs false
/- The document's Ops: the change of bytes. -/
namespace Go.Proofs.YtpcfnkmljchiiaaGreatDoor.ORo
open Go Go.RowKit Go.Maps Go.WideMaps Go.Proofs.YtpcfnkmljchiiaaGreatDoorW.PrintWords Go.Proofs.YtpcfnkmljchiiaaGreatDoorW.PrintLast Go.Proofs.YtpcfnkmljchiiaaGreatDoorW.PrintMore DPl DAt DNw Go.Proofs.YtpcfnkmljchiiaaGreatDoor.Is Go.Proofs.YtpcfnkmljchiiaaGreatDoor.OPl Go.Proofs.YtpcfnkmljchiiaaGreatDoor.OChk Go.Proofs.YtpcfnkmljchiiaaGreatDoor.OEnc Go.Proofs.YtpcfnkmljchiiaaGreatDoor.OByt Go.Proofs.YtpcfnkmljchiiaaGreatDoor.ORdr Go.Proofs.YtpcfnkmljchiiaaGreatDoor.ORdb Go.Proofs.YtpcfnkmljchiiaaGreatDoor.OOps Go.Proofs.YtpcfnkmljchiiaaGreatDoor.OPar Go.Proofs.YtpcfnkmljchiiaaGreatDoor.ORq Go.Proofs.YtpcfnkmljchiiaaGreatDoor.OBr Go.Proofs.YtpcfnkmljchiiaaGreatDoor.OForm Go.Proofs.YtpcfnkmljchiiaaGreatDoor.OCom
/-- What the loop carries. -/
structure RW (w0 : World) (v : Value) (acc : List Rop) (W : World) : Prop where
  bel : Below w0.heap.size w0 W
  row : Kd.R GSix.k62 62 W w0.heap.size (fun _ => True) v acc
  each : ∀ o ∈ acc, o.f1.size ≤ 255 ∧ o.f3.length ≤ 100000
  byt : ∀ o ∈ acc, Lib04.isB o.f3
/-- What the document's Ops answers. -/
def ROpsPost (R : Option (List Rop)) (e : Ending) : Prop := match R with
  | none => e = .returned (.tuple #[.slice none 0 0, .bool false])
  | some _ => ∃ v, e = .returned (.tuple #[v, .bool true])
theorem drop_getD (b : List Int) (i j : Nat) : (b.drop i).getD j 0 = b.getD (i + j) 0 := by simp [List.getD_eq_getElem?_getD, List.getElem?_drop]
theorem rd_nat (b : List Int) (i : Nat) : Go.Proofs.YtpcfnkmljchiiaaGreatDoorW.PrintWords.rd b (i : Int) = b.getD i 0 := by unfold Go.Proofs.YtpcfnkmljchiiaaGreatDoorW.PrintWords.rd; simp
theorem add_pos (ad : Addr) (n : Nat) (h : n ≠ 0) : ad.add n = ⟨ad.block, ad.off + n, none⟩ := by unfold Addr.add; rw [if_neg h]
structure Nb (L i n : Nat) : Prop where
  a0 : 0 ≤ (i : Int) + 2
  a1 : (i : Int) + 2 ≤ (i : Int) + 2 + (n : Int)
  a2 : (i : Int) + 2 + (n : Int) ≤ (L : Int)
  b0 : 0 ≤ (i : Int) + 2 + (n : Int)
  b1 : (i : Int) + 2 + (n : Int) ≤ (i : Int) + (10 + (n : Int))
  b2 : (i : Int) + (10 + (n : Int)) ≤ (L : Int)
  c1 : (i : Int) + 2 + (n : Int) ≤ (i : Int) + 10 + (n : Int)
  c2 : (i : Int) + 10 + (n : Int) ≤ (L : Int)
  f2 : wrap64 ((i : Int) + 2) = (i : Int) + 2
  f2n : wrap64 ((i : Int) + 2 + (n : Int)) = (i : Int) + 2 + (n : Int)
  f10 : wrap64 ((i : Int) + 10) = (i : Int) + 10
  f10n : wrap64 ((i : Int) + 10 + (n : Int)) = (i : Int) + (10 + (n : Int))
  g10n : wrap64 ((i : Int) + (10 + (n : Int))) = (i : Int) + (10 + (n : Int))
theorem nb_of {L i n l : Nat} (h : l = L - i) (hi : i < L) (hL : L ≤ 100000) (hn : n ≤ 255) (h10 : ¬ l < 10 + n) : Nb L i n := by
  refine ⟨by omega, by omega, by omega, by omega, by omega, by omega, by omega, by omega, wid6 _ (by omega) (by omega), wid6 _ (by omega) (by omega), wid6 _ (by omega) (by omega), ?_, wid6 _ (by omega) (by omega)⟩
  rw [wid6 _ (by omega) (by omega)]
  omega
theorem mid_eq9 (b : List Int) (i n : Nat) : (b.take ((i : Int) + 2 + (n : Int)).toNat).drop ((i : Int) + 2).toNat = ((b.drop i).drop 2).take n := by
  rw [List.drop_drop, List.drop_take, show ((i : Int) + 2).toNat = i + 2 by omega]
  congr 1
  omega
theorem mid_eq10 (b : List Int) (i n : Nat) : (b.take ((i : Int) + 10 + (n : Int)).toNat).drop ((i : Int) + 2 + (n : Int)).toNat = ((b.drop i).drop (2 + n)).take 8 := by
  rw [List.drop_drop, List.drop_take, show ((i : Int) + 2 + (n : Int)).toNat = i + (2 + n) by omega]
  congr 1
  omega
theorem min8 {l n : Nat} (h : ¬ l < 10 + n) : min 8 (l - (2 + n)) = 8 := by omega
theorem num_w {a b c d : Nat} (h0 : a ≤ 255) (h1 : b ≤ 255) (h2 : c ≤ 255) (h3 : d ≤ 255) : wrap64 (wrap64 (wrap64 (wrap64 (wrap64 (a : Int) * 16777216) + wrap64 (wrap64 (b : Int) * 65536)) + wrap64 (wrap64 (c : Int) * 256)) + wrap64 (d : Int)) = ((a * 16777216 + b * 65536 + c * 256 + d : Nat) : Int) := by
  rw [wid6 (a : Int) (by omega) (by omega), wid6 (b : Int) (by omega) (by omega), wid6 (c : Int) (by omega) (by omega), wid6 (d : Int) (by omega) (by omega), wid6 ((a : Int) * 16777216) (by omega) (by omega), wid6 ((b : Int) * 65536) (by omega) (by omega), wid6 ((c : Int) * 256) (by omega) (by omega), wid6 ((a : Int) * 16777216 + (b : Int) * 65536) (by omega) (by omega), wid6 ((a : Int) * 16777216 + (b : Int) * 65536 + (c : Int) * 256) (by omega) (by omega), wid6 _ (by omega) (by omega)]
  omega
theorem num_le9 {a b c d : Nat} (h0 : a ≤ 255) (h1 : b ≤ 255) (h2 : c ≤ 255) (h3 : d ≤ 255) : a * 16777216 + b * 65536 + c * 256 + d ≤ 4294967295 := by omega
theorem take8 (l : List Int) (m j : Nat) (hj : j < 8) : (l.drop m).getD j 0 = ((l.drop m).take 8).getD j 0 := by
  rw [List.getD_eq_getElem?_getD, List.getD_eq_getElem?_getD, List.getElem?_take, if_pos hj]
theorem drop6 (l : List Int) (n j : Nat) : (l.drop (6 + n)).getD j 0 = (l.drop (2 + n)).getD (4 + j) 0 := by
  rw [List.getD_eq_getElem?_getD, List.getD_eq_getElem?_getD, List.getElem?_drop, List.getElem?_drop, show 6 + n + j = 2 + n + (4 + j) by omega]
theorem cast9 (a b c d : Nat) : (a : Int) * 16777216 + (b : Int) * 65536 + (c : Int) * 256 + (d : Int) = ((a * 16777216 + b * 65536 + c * 256 + d : Nat) : Int) := by omega
theorem cast10 {i n i2 : Nat} (h : i2 = i + (10 + n)) : (i : Int) + (10 + (n : Int)) = (i2 : Int) := by omega
theorem le10 {L i n l i2 : Nat} (h : l = L - i) (hi : i < L) (h10 : ¬ l < 10 + n) (h2 : i2 = i + (10 + n)) : i2 ≤ L := by omega
theorem ltq {L i q : Nat} (h : i ≤ L) (h2 : L - i < q) : (L : Int) - (i : Int) < (q : Int) := by omega
theorem geq {L i q : Nat} (h : i ≤ L) (h2 : ¬ L - i < q) : ¬ (L : Int) - (i : Int) < (q : Int) := by omega
theorem addq (i q : Nat) : (i : Int) ≤ (i : Int) + (q : Int) := by omega
theorem leq {L i q : Nat} (h : i ≤ L) (h2 : ¬ L - i < q) : (i : Int) + (q : Int) ≤ (L : Int) := by omega
theorem lel {L i q : Nat} (h : i ≤ L) (h2 : ¬ L - i < q) : q ≤ L := by omega
theorem minq {L i q : Nat} (h2 : ¬ L - i < q) : min q (L - i) = q := by omega
theorem mid_eq16 (b : List Int) (i q : Nat) : (b.take ((i : Int) + (q : Int)).toNat).drop (i : Int).toNat = (b.drop i).take q := by
  rw [List.drop_take, Int.toNat_natCast]
  congr 1
  omega
theorem widq {L i q : Nat} (h : i ≤ L) (h2 : q ≤ L) (hL : L ≤ 100000) : wrap64 ((i : Int) + (q : Int)) = (i : Int) + (q : Int) := wid6 _ (by omega) (by omega)
theorem widL {L i : Nat} (h : i ≤ L) (hL : L ≤ 100000) : wrap64 ((L : Int) - (i : Int)) = (L : Int) - (i : Int) := wid6 _ (by omega) (by omega)
theorem ge1 {i n i2 q : Nat} (h : i2 = i + (10 + n)) : 1 ≤ i2 + q := by omega
theorem leq2 {L i q : Nat} (h : i ≤ L) (h2 : ¬ L - i < q) : i + q ≤ L + 1 := by omega
theorem cast2 (i q : Nat) : Value.int .i64 ((i : Int) + (q : Int)) = .int .i64 ((i + q : Nat) : Int) := rfl
theorem ltk {L i n i2 q k : Nat} (hk : L + 1 - i < k + 1) (hlt : i < L) (h : i2 = i + (10 + n)) : L + 1 - (i2 + q) < k := by omega
theorem acl {a i n i2 q : Nat} (ha : a ≤ i) (h : i2 = i + (10 + n)) : a + 1 ≤ i2 + q := by omega
theorem meas {L i n i2 q : Nat} (hlt : i < L) (h : i2 = i + (10 + n)) (h2 : i2 ≤ L) (h3 : ¬ L - i2 < q) : L + 1 - (Go.RowKit.intOf (.int .i64 ((i2 : Int) + (q : Int)))).toNat < L + 1 - (Go.RowKit.intOf (.int .i64 (i : Int))).toNat := by
  simp only [Go.RowKit.intOf]
  omega
theorem nlt {L i : Nat} (h : ¬ i < L) : ¬ (i : Int) < (L : Int) := by omega
theorem sub0 {L i : Nat} (h : ¬ i < L) : L - i = 0 := by omega
theorem encAll_max : ∀ (l : List Rop), (∀ o ∈ l, o.f1.size ≤ 255 ∧ o.f3.length ≤ 100000) → (encAll l).length ≤ 100265 * l.length
  | [], _ => by simp [encAll]
  | o :: r, h => by
    have h1 := encAll_max r (fun x hx => h x (List.mem_cons_of_mem _ hx))
    have h2 := h o (List.mem_cons_self ..)
    rw [encAll, List.length_append, encOp_len, List.length_cons]
    omega
theorem enc_total (acc : List Rop) (j : Nat) (hl : acc.length ≤ 100001) (h : ∀ o ∈ acc, o.f1.size ≤ 255 ∧ o.f3.length ≤ 100000) : (encAll (acc.take j)).length ≤ 1000000000000 := by
  have h1 := encAll_max (acc.take j) (fun o ho => h o (List.mem_of_mem_take ho))
  rw [List.length_take] at h1
  omega
theorem str_ne {x b : List Int} (hx : Lib04.isB x) (hb : Lib04.isB b) (h : x ≠ b) : strOfNums x ≠ strOfNums b := fun e => h (by rw [← bI_strOf hx, ← bI_strOf hb, e])
theorem min10 {l n : Nat} (h : ¬ l < 10 + n) : min n (l - 2) = n := by omega
theorem wid255 {k : Nat} (h : k ≤ 255) : wrap64 (k : Int) = (k : Int) := wid6 _ (by omega) (by omega)
/-- The box of a round: all else stays as at the round's start. -/
structure BoxW (wr : World) (gb : Nat) (cs : Array Value) (W : World) : Prop where
  bel : Below wr.heap.size wr W
  box : W.heap[gb]? = some (.cells cs 62 (0, 0))
  lo : wr.heap.size ≤ gb
theorem BoxW.below {wr W V : World} {gb : Nat} {cs : Array Value} (h : BoxW wr gb cs W) (hb : Below W.heap.size W V) : BoxW wr gb cs V :=
  ⟨h.bel.trans (hb.mono h.bel.size), (hb.block _ (blk_lt h.box)).trans h.box, h.lo⟩
theorem BoxW.put {wr W : World} {gb : Nat} {cs : Array Value} (h : BoxW wr gb cs W) (i : Nat) (u : Value) (cs' : Array Value) (hc : cs.setIfInBounds i u = cs') : BoxW wr gb cs' (W.setCell ⟨gb, i, none⟩ u) :=
  ⟨h.bel.setCell h.lo _, blk_put h.box i u hc, h.lo⟩
theorem lt10 {L i n l : Nat} (h : l = L - i) (hi : i < L) (h10 : l < 10 + n) : (L : Int) - (i : Int) < 10 + (n : Int) := by omega
theorem ge10 {L i n l : Nat} (h : l = L - i) (hi : i < L) (h10 : ¬ l < 10 + n) : ¬ (L : Int) - (i : Int) < 10 + (n : Int) := by omega
theorem lt2 {L i l : Nat} (h : l = L - i) (hi : i < L) (h10 : l < 2) : (L : Int) - (i : Int) < 2 := by omega
theorem ge2 {L i l : Nat} (h : l = L - i) (hi : i < L) (h10 : ¬ l < 2) : ¬ (L : Int) - (i : Int) < 2 := by omega
set_option maxRecDepth 100000 in
set_option maxHeartbeats 32000000 in
theorem rops_calls (b : List Int) (A : Option Addr) (c : Nat) (w : World) (hr : Kd.C (Kd.int .u8) w A b.length b) (hc : b.length ≤ c) (hb : Lib04.isB b) (hbl : b.length ≤ 100000) :
    Calls Tryz.prog 25 #[.slice A b.length c] w fun e w' => ROpsPost (ropsL b) e ∧ Below w.heap.size w w' := by
  have HC := Aside0.mk hr
  have HBy := Aside0.mk hb
  have HCap := Aside0.mk hc
  obtain ⟨R, hR⟩ : ∃ R, R = ropsL b := ⟨_, rfl⟩
  rw [← hR]
  have HR := Aside0.mk hR
  clear hr hb hR
  go_enter Tryz.func25, Tryz.ntmps25
  go_upto_region 2 with (fail)
  have HW0 := Aside0.mk (show RW w (.slice (some ⟨w.heap.size, 0, none⟩) 0 0) [] (w.alloc (.cells #[] 62)) from ⟨(Below.refl _ _).alloc (Nat.le_refl _) _, ⟨fun _ _ => trivial, OwnRow.lit (ps := []) (inner := []) w w.heap.size ⟨rfl, fun j p hj => by simp at hj⟩ (Nat.le_refl _) (show 0 ≤ 9223372036854775807 by decide)⟩, (fun o ho => by cases ho), (fun o ho => by cases ho)⟩)
  go_wp2
  go_loopw [5, 4] (fun iv ov wx => ∃ (i k : Nat) (acc : List Rop), 1 ≤ i ∧ i ≤ b.length + 1 ∧ iv = .int .i64 i ∧ b.length + 1 - i < k ∧ acc.length ≤ i ∧ Aside0 (RW w ov acc wx) ∧ Aside0 ((match ropsGo k (b.drop i) acc with | none => none | some L => if checkL L = none ∧ encL L = b then some L else none) = R)) (fun iv _ _ => b.length + 1 - (Go.RowKit.intOf iv).toNat)
  case atStart => exact ⟨1, b.length + 1, [], by omega, by omega, rfl, by omega, by simp, HW0, ⟨by rw [HR.out]; rfl⟩⟩
  case round =>
    obtain ⟨i, k, acc, hi1, hi, rfl, hk, hac, HA, HQ⟩ := hrel
    clear HW0
    obtain ⟨k, rfl⟩ : ∃ k', k = k' + 1 := ⟨k - 1, by omega⟩
    by_cases hlt : i < b.length
    · have t1 : decide (i < b.length) = true := decide_eq_true hlt
      have t1' : decide ((i : Int) < (b.length : Int)) = true := decide_eq_true (by omega)
      obtain ⟨l, hl⟩ : ∃ l, l = b.drop i := ⟨_, rfl⟩
      have hll : l.length = b.length - i := by rw [hl, List.length_drop]
      have HL := Aside0.mk hl
      rw [← hl] at HQ
      have HQ2 : Aside0 ((match (match rop1 l with | none => none | some (o, t) => ropsGo k t (acc ++ [o])) with | none => none | some L => if checkL L = none ∧ encL L = b then some L else none) = R) := ⟨by
        have h9 := HQ.out
        unfold ropsGo at h9
        rw [if_neg (by omega)] at h9
        exact h9⟩
      clear HQ hl
      by_cases h2 : l.length < 2
      · have t2 : decide ((b.length : Int) - (i : Int) < 2) = true := decide_eq_true (lt2 hll hlt h2)
        have HN := Aside0.mk (show R = none by rw [← HQ2.out]; unfold rop1; rw [if_pos h2])
        go_wp2
        go_ret2
        exact ⟨by rw [HN.out]; rfl, HA.out.bel⟩
      · have t2 : decide ((b.length : Int) - (i : Int) < 2) = false := decide_eq_false (ge2 hll hlt h2)
        obtain ⟨ad, hA, hA0⟩ := Kd.at_int HC.out 0 (by omega) (by omega)
        subst hA
        clear hA0
        have hc1 := Kd.at_int HC.out ((i + 1 : Nat) : Int) (by omega) (by omega)
        obtain ⟨ad', ea, x1⟩ := hc1
        obtain rfl := Option.some.inj ea
        rw [rd_nat, Int.toNat_natCast, add_pos ad (i + 1) (by omega)] at x1
        replace x1 := (HA.out.bel.cell (World.block_lt_of_cell? w _ x1)).trans x1
        obtain ⟨n, hn⟩ : ∃ n : Nat, b.getD (i + 1) 0 = n := Int.eq_ofNat_of_zero_le (Lib04.getD_B HBy.out _).1
        have hn255 : n ≤ 255 := by have := (Lib04.getD_B HBy.out (i + 1)).2; omega
        have HNm := Aside0.mk (show nmN l = n by unfold nmN; rw [HL.out, drop_getD, hn]; exact Int.toNat_natCast n)
        rw [hn] at x1
        clear hn ea
        by_cases h10 : l.length < 10 + n
        · have t3 : decide ((b.length : Int) - (i : Int) < 10 + (n : Int)) = true := decide_eq_true (lt10 hll hlt h10)
          have HN := Aside0.mk (show R = none by rw [← HQ2.out]; unfold rop1; rw [if_neg h2, HNm.out, if_pos h10])
          go_wp2
          go_ret2
          exact ⟨by rw [HN.out]; rfl, HA.out.bel⟩
        · have t3 : decide ((b.length : Int) - (i : Int) < 10 + (n : Int)) = false := decide_eq_false (ge10 hll hlt h10)
          go_upto_region 9 with (fail)
          have HNb := Aside0.mk (nb_of hll hlt hbl hn255 h10)
          have f2 := HNb.out.f2
          have f2n := HNb.out.f2n
          obtain ⟨i5, hi5, _, hz5, _⟩ := info_parts infoU8
          obtain ⟨A9, hcut9, hrd9, hcp9⟩ := print_mid_int (P := Tryz.prog) (k := .u8) 32 5 Tryz.underlying32 hi5 hz5 (some ad) c b ((i : Int) + 2) ((i : Int) + 2 + (n : Int)) HNb.out.a0 HNb.out.a1 HNb.out.a2 hc
          obtain ⟨nm, hnm⟩ : ∃ nm, nm = (b.take ((i : Int) + 2 + (n : Int)).toNat).drop ((i : Int) + 2).toNat := ⟨_, rfl⟩
          obtain ⟨c9, hc9⟩ : ∃ c9, c9 = c - ((i : Int) + 2).toNat := ⟨_, rfl⟩
          rw [← hnm, ← hc9] at hcut9
          rw [← hnm] at hrd9
          have HNM := Aside0.mk (show nm = (l.drop 2).take n by
            rw [hnm, HL.out]
            exact mid_eq9 b i n)
          have HNl := Aside0.mk (show nm.length = n by rw [HNM.out, List.length_take, List.length_drop]; exact min10 h10)
          have HCv := Aside0.mk (fun (U : World) (hU : Below w.heap.size w U) => Kd.C_string (P := Tryz.prog) (src := 32) (dst := 9) (e := 5) (w := U) (A := A9) (c := c9) Tryz.underlying32 Tryz.underlying5 Tryz.underlying9 (Kd.C_below (Kd.C_of_reads (d := (0 : Int)) (h1 := fun _ => rfl) (hrd9 w (Kd.reads_of_C (d := (0 : Int)) (h1 := fun _ => rfl) HC.out))) hU))
          have hc0 := Kd.at_int HC.out (i : Int) (Int.natCast_nonneg i) (Int.ofNat_lt.2 hlt)
          obtain ⟨ad', ea, x0⟩ := hc0
          obtain rfl := Option.some.inj ea
          rw [rd_nat, Int.toNat_natCast] at x0
          obtain ⟨kd, hkd⟩ : ∃ kd : Nat, b.getD i 0 = kd := Int.eq_ofNat_of_zero_le (Lib04.getD_B HBy.out _).1
          have hkd255 : kd ≤ 255 := by have := (Lib04.getD_B HBy.out i).2; omega
          rw [hkd] at x0
          have wk : wrap64 (kd : Int) = (kd : Int) := wid255 hkd255
          have HX0 := Aside0.mk (fun (U : World) (hU : Below w.heap.size w U) => (hU.cell (World.block_lt_of_cell? w _ x0)).trans x0)
          have HKd := Aside0.mk (show l.getD 0 0 = kd by rw [HL.out, drop_getD]; exact hkd)
          have HHr := Aside0.mk hrd9
          clear hnm hc9 hkd ea x0 hi5 hz5 hcp9 hrd9 x1
          refine start_ (n := 17) (S := fun w' => w'.cell? (ad.add i) = some (.int .u8 (kd : Int)) ∧ (convert 32 9 (.slice A9 nm.length c9)).run Tryz.prog w' = .ok (.string (strOfNums nm)) w') (ds := [16]) #[ff,ff,ff,ff,ff,ff,ff,ff,ff,ff,ff,ff,ff,ff,ff,ff,ff] (by kernel_rfl) rfl rfl ⟨(HX0.out _ (HA.out.bel.trans ((Below.refl wr.heap.size wr).drew.mono HA.out.bel.size))), (HCv.out _ (HA.out.bel.trans ((Below.refl wr.heap.size wr).drew.mono HA.out.bel.size)))⟩ (fun hHeld => ?_)
          have HBz := Aside0.mk (HA.out.bel.trans ((Below.refl wr.heap.size wr).drew.mono HA.out.bel.size))
          have HBr := Aside0.mk ((Below.refl wr.heap.size wr).drew)
          generalize wr.drew = u0 at HBz HBr hHeld ⊢
          refine pure_ (i := 0) (N := some 33) (v := ?_) (a' := ?_) #[tt,ff,ff,ff,ff,ff,ff,ff,ff,ff,ff,ff,ff,ff,ff,ff,ff] rfl rfl (by kernel_rfl) (fun _ _ _ h => h) (Or.inl ⟨by rfl, ?_⟩) ?_ ?_
          rotate_left
          · intro w'
            go_simp
            with_reducible rfl
          rotate_left
          · simp only [Act.put, pkA, pkB, pkC, i64_w, i32_w]
            rfl
          refine pure_ (i := 1) (N := some 34) (v := ?_) (a' := ?_) #[tt,tt,ff,ff,ff,ff,ff,ff,ff,ff,ff,ff,ff,ff,ff,ff,ff] rfl rfl (by kernel_rfl) (fun _ _ _ h => h) (Or.inl ⟨by rfl, ?_⟩) ?_ ?_
          rotate_left
          · intro w'
            go_simp
            with_reducible rfl
          rotate_left
          · simp only [Act.put, pkA, pkB, pkC, i64_w, i32_w]
            rfl
          refine pure_ (i := 2) (N := some 35) (v := ?_) (a' := ?_) #[tt,tt,tt,ff,ff,ff,ff,ff,ff,ff,ff,ff,ff,ff,ff,ff,ff] rfl rfl (by kernel_rfl) (fun _ _ _ h => h) (Or.inl ⟨by rfl, ?_⟩) ?_ ?_
          rotate_left
          · intro w'
            go_simp
            with_reducible rfl
          rotate_left
          · simp only [Act.put, pkA, pkB, pkC, i64_w, i32_w]
            rfl
          refine pure_ (i := 5) (N := some 38) (v := ?_) (a' := ?_) #[tt,tt,tt,ff,ff,tt,ff,ff,ff,ff,ff,ff,ff,ff,ff,ff,ff] rfl rfl (by kernel_rfl) (fun _ _ _ h => h) (Or.inl ⟨by rfl, ?_⟩) ?_ ?_
          rotate_left
          · intro w'
            go_simp
            with_reducible rfl
          rotate_left
          · simp only [Act.put, pkA, pkB, pkC, i64_w, i32_w]
            rfl
          refine pure_ (i := 6) (N := some 39) (v := ?_) (a' := ?_) #[tt,tt,tt,ff,ff,tt,tt,ff,ff,ff,ff,ff,ff,ff,ff,ff,ff] rfl rfl (by kernel_rfl) (fun _ _ _ h => h) (Or.inl ⟨by rfl, ?_⟩) ?_ ?_
          rotate_left
          · intro w'
            go_simp
            with_reducible rfl
          rotate_left
          · simp only [Act.put, pkA, pkB, pkC, i64_w, i32_w]
            rfl
          refine pure_ (i := 7) (N := some 40) (v := ?_) (a' := ?_) #[tt,tt,tt,ff,ff,tt,tt,tt,ff,ff,ff,ff,ff,ff,ff,ff,ff] rfl rfl (by kernel_rfl) (fun _ _ _ h => h) (Or.inl ⟨by rfl, ?_⟩) ?_ ?_
          rotate_left
          · intro w'
            go_simp
            with_reducible rfl
          rotate_left
          · simp only [Act.put, pkA, pkB, pkC, i64_w, i32_w]
            rfl
          refine pure_ (i := 8) (N := some 41) (v := ?_) (a' := ?_) #[tt,tt,tt,ff,ff,tt,tt,tt,tt,ff,ff,ff,ff,ff,ff,ff,ff] rfl rfl (by kernel_rfl) (fun _ _ _ h => h) (Or.inl ⟨by rfl, ?_⟩) ?_ ?_
          rotate_left
          · intro w'
            go_simp
            with_reducible rfl
          rotate_left
          · simp only [Act.put, pkA, pkB, pkC, i64_w, i32_w]
            rfl
          refine pure_ (i := 9) (N := some 42) (v := ?_) (a' := ?_) #[tt,tt,tt,ff,ff,tt,tt,tt,tt,tt,ff,ff,ff,ff,ff,ff,ff] rfl rfl (by kernel_rfl) (fun _ _ _ h => h) (Or.inl ⟨by rfl, ?_⟩) ?_ ?_
          rotate_left
          · intro w'
            go_simp
            with_reducible rfl
          rotate_left
          · simp only [Act.put, pkA, pkB, pkC, i64_w, i32_w]
            rfl
          refine pure_ (i := 10) (N := some 43) (v := ?_) (a' := ?_) #[tt,tt,tt,ff,ff,tt,tt,tt,tt,tt,tt,ff,ff,ff,ff,ff,ff] rfl rfl (by kernel_rfl) (fun _ _ _ h => h) (Or.inl ⟨by rfl, ?_⟩) ?_ ?_
          rotate_left
          · intro w'
            go_simp
            with_reducible rfl
          rotate_left
          · simp only [Act.put, pkA, pkB, pkC, i64_w, i32_w]
            rfl
          refine pure_ (i := 11) (N := some 44) (v := ?_) (a' := ?_) #[tt,tt,tt,ff,ff,tt,tt,tt,tt,tt,tt,tt,ff,ff,ff,ff,ff] rfl rfl (by kernel_rfl) (fun _ _ _ h => h) (Or.inl ⟨by rfl, ?_⟩) ?_ ?_
          rotate_left
          · intro w'
            go_simp
            with_reducible rfl
          rotate_left
          · simp only [Act.put, pkA, pkB, pkC, i64_w, i32_w]
            rfl
          refine pure_ (i := 12) (N := some 45) (v := ?_) (a' := ?_) #[tt,tt,tt,ff,ff,tt,tt,tt,tt,tt,tt,tt,tt,ff,ff,ff,ff] rfl rfl (by kernel_rfl) (fun _ _ _ h => h) (Or.inl ⟨by rfl, ?_⟩) ?_ ?_
          rotate_left
          · intro w'
            go_simp
            with_reducible rfl
          rotate_left
          · simp only [Act.put, pkA, pkB, pkC, i64_w, i32_w]
            rfl
          refine take_ (i := 3) (N := some 36) (v := ?_) (a' := ?_) #[tt,tt,tt,tt,ff,tt,tt,tt,tt,tt,tt,tt,tt,ff,ff,ff,ff] rfl rfl (by kernel_rfl) (fun _ _ _ h => h) (Or.inl ⟨by rfl, ?_⟩) hHeld ?_ ?_
          rotate_left
          · rintro w' ⟨s0, s1⟩
            go_simp
            with_reducible rfl
          rotate_left
          · simp only [Act.put, pkA, pkB, pkC, i64_w, i32_w]
            rfl
          refine take_ (i := 4) (N := some 37) (v := ?_) (a' := ?_) #[tt,tt,tt,tt,tt,tt,tt,tt,tt,tt,tt,tt,tt,ff,ff,ff,ff] rfl rfl (by kernel_rfl) (fun _ _ _ h => h) (Or.inl ⟨by rfl, ?_⟩) hHeld ?_ ?_
          rotate_left
          · rintro w' ⟨s0, s1⟩
            go_simp
            with_reducible rfl
          rotate_left
          · simp only [Act.put, pkA, pkB, pkC, i64_w, i32_w]
            rfl
          refine take_ (i := 13) (N := some 46) (v := ?_) (a' := ?_) #[tt,tt,tt,tt,tt,tt,tt,tt,tt,tt,tt,tt,tt,tt,ff,ff,ff] rfl rfl (by kernel_rfl) (fun _ _ _ h => h) (Or.inl ⟨by rfl, ?_⟩) hHeld ?_ ?_
          rotate_left
          · rintro w' ⟨s0, s1⟩
            go_simp
            with_reducible rfl
          rotate_left
          · simp only [Act.put, pkA, pkB, pkC, i64_w, i32_w]
            rfl
          refine pure_ (i := 14) (N := some 47) (v := ?_) (a' := ?_) #[tt,tt,tt,tt,tt,tt,tt,tt,tt,tt,tt,tt,tt,tt,tt,ff,ff] rfl rfl (by kernel_rfl) (fun _ _ _ h => h) (Or.inl ⟨by rfl, ?_⟩) ?_ ?_
          rotate_left
          · intro w'
            go_simp
            with_reducible rfl
          rotate_left
          · simp only [Act.put, pkA, pkB, pkC, i64_w, i32_w]
            rfl
          refine one_ (i := 15) (N := some 7) #[tt,tt,tt,tt,tt,tt,tt,tt,tt,tt,tt,tt,tt,tt,tt,tt,ff] rfl rfl (by kernel_rfl) (by decide) (fun K hK => ?_)
          refine value_ (w1 := ?_) (v := ?_) (by rfl) rfl ?_ ?_
          rotate_left 2
          · go_simp
            constructor
            · rfl
            · rfl
          have HB1 := Aside0.mk (show Below u0.heap.size u0 (u0.alloc (.cells #[.int .i64 0, .string (⟨#[]⟩ : ByteArray), .int .i64 0, .slice none 0 0] 62)) from (Below.refl _ _).alloc (Nat.le_refl _) _)
          have HBk := Aside0.mk (heap_alloc_new u0 (.cells #[.int .i64 0, .string (⟨#[]⟩ : ByteArray), .int .i64 0, .slice none 0 0] 62))
          obtain ⟨gb, hgb⟩ : ∃ gb, gb = u0.heap.size := ⟨_, rfl⟩
          have HGb := Aside0.mk (show u0.heap.size ≤ gb by rw [hgb]; exact Nat.le_refl _)
          rw [← hgb] at HBk ⊢
          clear hgb
          generalize u0.alloc (.cells #[.int .i64 0, .string (⟨#[]⟩ : ByteArray), .int .i64 0, .slice none 0 0] 62) = u1 at HB1 HBk ⊢
          have HBu := Aside0.mk (HBz.out.trans (HB1.out.mono HBz.out.size))
          have hcz0 : u1.cell? ⟨gb, 0, none⟩ = some (.int .i64 0) := (blk_cell HBk.out 0).trans rfl
          have hcz1 : u1.cell? ⟨gb, 1, none⟩ = some (.string (⟨#[]⟩ : ByteArray)) := (blk_cell HBk.out 1).trans rfl
          have hcz2 : u1.cell? ⟨gb, 2, none⟩ = some (.int .i64 0) := (blk_cell HBk.out 2).trans rfl
          have hcz3 : u1.cell? ⟨gb, 3, none⟩ = some (.slice none 0 0) := (blk_cell HBk.out 3).trans rfl
          have hfz0 := blk_frozen HBk.out 0
          have hfz1 := blk_frozen HBk.out 1
          have hfz2 := blk_frozen HBk.out 2
          have hfz3 := blk_frozen HBk.out 3
          refine hK.out _ _ ⟨(HX0.out _ HBu.out), (HCv.out _ HBu.out)⟩ (fun hHeld => ?_)
          clear hK K
          refine norm_ (a' := ?_) ?_ ?_
          rotate_left
          · show Act.put _ (some 7) _ = _
            simp only [Act.put, pkA, pkB, pkC, i64_w, i32_w]
            rfl
          refine last_ (i := 16) (N := none) #[tt,tt,tt,tt,tt,tt,tt,tt,tt,tt,tt,tt,tt,tt,tt,tt,tt] rfl rfl (by kernel_rfl) (by decide) (fun K hK => ?_)
          refine skip_ (w1 := ?_) (by rfl) rfl ?_ ?_
          rotate_left
          · go_simp
            rfl
          have HB2 := Aside0.mk (show Below u0.heap.size u0 ((((u1.setCell ⟨gb, 0, none⟩ (.int .i64 (kd : Int))).setCell ⟨gb, 1, none⟩ (.string (strOfNums nm))).setCell ⟨gb, 2, none⟩ (.int .i64 0)).setCell ⟨gb, 3, none⟩ (.slice none 0 0)) from (((HB1.out.setCell HGb.out _).setCell HGb.out _).setCell HGb.out _).setCell HGb.out _)
          have HK2 := Aside0.mk (show ((((u1.setCell ⟨gb, 0, none⟩ (.int .i64 (kd : Int))).setCell ⟨gb, 1, none⟩ (.string (strOfNums nm))).setCell ⟨gb, 2, none⟩ (.int .i64 0)).setCell ⟨gb, 3, none⟩ (.slice none 0 0)).heap[gb]? = some (.cells #[.int .i64 (kd : Int), .string (strOfNums nm), .int .i64 0, .slice none 0 0] 62 (0, 0)) from blk_put (blk_put (blk_put (blk_put HBk.out 0 _ rfl) 1 _ rfl) 2 _ rfl) 3 _ rfl)
          clear hcz0 hcz1 hcz2 hcz3 hfz0 hfz1 hfz2 hfz3 HBk HB1
          generalize ((((u1.setCell ⟨gb, 0, none⟩ (.int .i64 (kd : Int))).setCell ⟨gb, 1, none⟩ (.string (strOfNums nm))).setCell ⟨gb, 2, none⟩ (.int .i64 0)).setCell ⟨gb, 3, none⟩ (.slice none 0 0)) = u2 at HB2 HK2 ⊢
          refine hK.out _ _ ?_
          clear hK K
          refine done_ (by kernel_rfl) ?_
          have HX2 := Aside0.mk (show BoxW wr gb #[.int .i64 (kd : Int), .string (strOfNums nm), .int .i64 0, .slice none 0 0] u2 from ⟨HBr.out.trans (HB2.out.mono HBr.out.size), HK2.out, Nat.le_trans HBr.out.size HGb.out⟩)
          clear f2 f2n hcut9 wk HB2 HBu hHeld HBr HBz HGb HK2 HCv
          obtain ⟨i5, hi5, _, hz5, _⟩ := info_parts infoU8
          obtain ⟨A10, hcut10, hrd10, hcp10⟩ := print_mid_int (P := Tryz.prog) (k := .u8) 32 5 Tryz.underlying32 hi5 hz5 (some ad) c b ((i : Int) + 2 + (n : Int)) ((i : Int) + 10 + (n : Int)) HNb.out.b0 HNb.out.c1 HNb.out.c2 hc
          obtain ⟨hh, hhe⟩ : ∃ hh, hh = (b.take ((i : Int) + 10 + (n : Int)).toNat).drop ((i : Int) + 2 + (n : Int)).toNat := ⟨_, rfl⟩
          obtain ⟨c10, hc10⟩ : ∃ c10, c10 = c - ((i : Int) + 2 + (n : Int)).toNat := ⟨_, rfl⟩
          rw [← hhe, ← hc10] at hcut10
          rw [← hhe] at hrd10
          have HHe := Aside0.mk (show hh = (l.drop (2 + n)).take 8 by rw [hhe, HL.out]; exact mid_eq10 b i n)
          have HHl := Aside0.mk (show hh.length = 8 by rw [HHe.out, List.length_take, List.length_drop]; exact min8 h10)
          have HHc := Aside0.mk (hrd10 w (Kd.reads_of_C (d := (0 : Int)) (h1 := fun _ => rfl) HC.out))
          have HHB := Aside0.mk (show Lib04.isB hh by rw [HHe.out, HL.out]; exact Lib04.isB_take (Lib04.isB_drop (Lib04.isB_drop HBy.out _) _) _)
          clear hhe hc10 hi5 hz5 hrd10 hcp10
          have hcell : ∀ j : Nat, j < 8 → ∃ (x : Nat), x ≤ 255 ∧ hh.getD j 0 = x ∧ ∃ ad', A10 = some ad' ∧ w.cell? (ad'.add j) = some (.int .u8 (x : Int)) := fun j hj => by
            obtain ⟨ad', ea, hcl⟩ := ReadsInt.at_ HHc.out (j : Int) (Int.natCast_nonneg j) (by rw [HHl.out]; exact Int.ofNat_lt.2 hj)
            obtain ⟨x, hx⟩ : ∃ x : Nat, hh.getD j 0 = x := Int.eq_ofNat_of_zero_le (Lib04.getD_B HHB.out _).1
            rw [rd_nat, Int.toNat_natCast, hx] at hcl
            exact ⟨x, by have h9 := (Lib04.getD_B HHB.out j).2; rw [hx] at h9; exact Int.ofNat_le.1 h9, hx, ad', ea, hcl⟩
          obtain ⟨y0, z0, g0, ah, eA, q0⟩ := hcell 0 (by decide)
          subst eA
          obtain ⟨y1, z1, g1, ah', eA, q1⟩ := hcell 1 (by decide)
          obtain rfl := Option.some.inj eA
          obtain ⟨y2, z2, g2, ah', eA, q2⟩ := hcell 2 (by decide)
          obtain rfl := Option.some.inj eA
          obtain ⟨y3, z3, g3, ah', eA, q3⟩ := hcell 3 (by decide)
          obtain rfl := Option.some.inj eA
          obtain ⟨y4, z4, g4, ah', eA, q4⟩ := hcell 4 (by decide)
          obtain rfl := Option.some.inj eA
          obtain ⟨y5, z5, g5, ah', eA, q5⟩ := hcell 5 (by decide)
          obtain rfl := Option.some.inj eA
          obtain ⟨y6, z6, g6, ah', eA, q6⟩ := hcell 6 (by decide)
          obtain rfl := Option.some.inj eA
          obtain ⟨y7, z7, g7, ah', eA, q7⟩ := hcell 7 (by decide)
          obtain rfl := Option.some.inj eA
          have HQs := Aside0.mk (fun (U : World) (hU : Below w.heap.size w U) => (show U.cell? ah = some (.int .u8 (y0 : Int)) ∧ U.cell? (ah.add 1) = some (.int .u8 (y1 : Int)) ∧ U.cell? (ah.add 2) = some (.int .u8 (y2 : Int)) ∧ U.cell? (ah.add 3) = some (.int .u8 (y3 : Int)) ∧ U.cell? (ah.add 4) = some (.int .u8 (y4 : Int)) ∧ U.cell? (ah.add 5) = some (.int .u8 (y5 : Int)) ∧ U.cell? (ah.add 6) = some (.int .u8 (y6 : Int)) ∧ U.cell? (ah.add 7) = some (.int .u8 (y7 : Int)) from
            ⟨(hU.cell (World.block_lt_of_cell? w _ q0)).trans q0, (hU.cell (World.block_lt_of_cell? w _ q1)).trans q1, (hU.cell (World.block_lt_of_cell? w _ q2)).trans q2, (hU.cell (World.block_lt_of_cell? w _ q3)).trans q3, (hU.cell (World.block_lt_of_cell? w _ q4)).trans q4, (hU.cell (World.block_lt_of_cell? w _ q5)).trans q5, (hU.cell (World.block_lt_of_cell? w _ q6)).trans q6, (hU.cell (World.block_lt_of_cell? w _ q7)).trans q7⟩))
          have HGs := Aside0.mk (And.intro g0 (And.intro g1 (And.intro g2 (And.intro g3 (And.intro g4 (And.intro g5 (And.intro g6 g7)))))))
          rw [HHl.out] at hcut10
          clear hcell eA q0 q1 q2 q3 q4 q5 q6 q7 g0 g1 g2 g3 g4 g5 g6 g7
          go_upto_region 11 with (fail)
          clear hcut10
          have HX3 := Aside0.mk (HX2.out.below (Below.refl u2.heap.size u2).drew)
          have hp0 := HQs.out _ (HA.out.bel.trans (HX3.out.bel.mono HA.out.bel.size))
          refine start_ (n := 24) (S := fun w' => w'.cell? ah = some (.int .u8 (y0 : Int)) ∧ w'.cell? ⟨ah.block, ah.off + 1, none⟩ = some (.int .u8 (y1 : Int)) ∧ w'.cell? ⟨ah.block, ah.off + 2, none⟩ = some (.int .u8 (y2 : Int)) ∧ w'.cell? ⟨ah.block, ah.off + 3, none⟩ = some (.int .u8 (y3 : Int))) (ds := [23]) #[ff,ff,ff,ff,ff,ff,ff,ff,ff,ff,ff,ff,ff,ff,ff,ff,ff,ff,ff,ff,ff,ff,ff,ff] (by kernel_rfl) rfl rfl ⟨hp0.1, hp0.2.1, hp0.2.2.1, hp0.2.2.2.1⟩ (fun hHeld => ?_)
          have hd2 := (blk_cell HX3.out.box 2).trans (rfl : _ = some (Value.int .i64 0))
          have hf2 := blk_frozen HX3.out.box 2
          generalize u2.drew = v0 at HX3 hd2 hf2 hHeld ⊢
          refine pure_ (i := 0) (N := some 58) (v := ?_) (a' := ?_) #[tt,ff,ff,ff,ff,ff,ff,ff,ff,ff,ff,ff,ff,ff,ff,ff,ff,ff,ff,ff,ff,ff,ff,ff] rfl rfl (by kernel_rfl) (fun _ _ _ h => h) (Or.inl ⟨by rfl, ?_⟩) ?_ ?_
          rotate_left
          · intro w'
            go_simp
            with_reducible rfl
          rotate_left
          · simp only [Act.put, pkA, pkB, pkC, i64_w, i32_w]
            rfl
          refine pure_ (i := 1) (N := some 59) (v := ?_) (a' := ?_) #[tt,tt,ff,ff,ff,ff,ff,ff,ff,ff,ff,ff,ff,ff,ff,ff,ff,ff,ff,ff,ff,ff,ff,ff] rfl rfl (by kernel_rfl) (fun _ _ _ h => h) (Or.inl ⟨by rfl, ?_⟩) ?_ ?_
          rotate_left
          · intro w'
            go_simp
            with_reducible rfl
          rotate_left
          · simp only [Act.put, pkA, pkB, pkC, i64_w, i32_w]
            rfl
          refine pure_ (i := 5) (N := some 63) (v := ?_) (a' := ?_) #[tt,tt,ff,ff,ff,tt,ff,ff,ff,ff,ff,ff,ff,ff,ff,ff,ff,ff,ff,ff,ff,ff,ff,ff] rfl rfl (by kernel_rfl) (fun _ _ _ h => h) (Or.inl ⟨by rfl, ?_⟩) ?_ ?_
          rotate_left
          · intro w'
            go_simp
            with_reducible rfl
          rotate_left
          · simp only [Act.put, pkA, pkB, pkC, i64_w, i32_w]
            rfl
          refine pure_ (i := 6) (N := some 64) (v := ?_) (a' := ?_) #[tt,tt,ff,ff,ff,tt,tt,ff,ff,ff,ff,ff,ff,ff,ff,ff,ff,ff,ff,ff,ff,ff,ff,ff] rfl rfl (by kernel_rfl) (fun _ _ _ h => h) (Or.inl ⟨by rfl, ?_⟩) ?_ ?_
          rotate_left
          · intro w'
            go_simp
            with_reducible rfl
          rotate_left
          · simp only [Act.put, pkA, pkB, pkC, i64_w, i32_w]
            rfl
          refine pure_ (i := 11) (N := some 69) (v := ?_) (a' := ?_) #[tt,tt,ff,ff,ff,tt,tt,ff,ff,ff,ff,tt,ff,ff,ff,ff,ff,ff,ff,ff,ff,ff,ff,ff] rfl rfl (by kernel_rfl) (fun _ _ _ h => h) (Or.inl ⟨by rfl, ?_⟩) ?_ ?_
          rotate_left
          · intro w'
            go_simp
            with_reducible rfl
          rotate_left
          · simp only [Act.put, pkA, pkB, pkC, i64_w, i32_w]
            rfl
          refine pure_ (i := 12) (N := some 70) (v := ?_) (a' := ?_) #[tt,tt,ff,ff,ff,tt,tt,ff,ff,ff,ff,tt,tt,ff,ff,ff,ff,ff,ff,ff,ff,ff,ff,ff] rfl rfl (by kernel_rfl) (fun _ _ _ h => h) (Or.inl ⟨by rfl, ?_⟩) ?_ ?_
          rotate_left
          · intro w'
            go_simp
            with_reducible rfl
          rotate_left
          · simp only [Act.put, pkA, pkB, pkC, i64_w, i32_w]
            rfl
          refine pure_ (i := 17) (N := some 75) (v := ?_) (a' := ?_) #[tt,tt,ff,ff,ff,tt,tt,ff,ff,ff,ff,tt,tt,ff,ff,ff,ff,tt,ff,ff,ff,ff,ff,ff] rfl rfl (by kernel_rfl) (fun _ _ _ h => h) (Or.inl ⟨by rfl, ?_⟩) ?_ ?_
          rotate_left
          · intro w'
            go_simp
            with_reducible rfl
          rotate_left
          · simp only [Act.put, pkA, pkB, pkC, i64_w, i32_w]
            rfl
          refine pure_ (i := 18) (N := some 76) (v := ?_) (a' := ?_) #[tt,tt,ff,ff,ff,tt,tt,ff,ff,ff,ff,tt,tt,ff,ff,ff,ff,tt,tt,ff,ff,ff,ff,ff] rfl rfl (by kernel_rfl) (fun _ _ _ h => h) (Or.inl ⟨by rfl, ?_⟩) ?_ ?_
          rotate_left
          · intro w'
            go_simp
            with_reducible rfl
          rotate_left
          · simp only [Act.put, pkA, pkB, pkC, i64_w, i32_w]
            rfl
          refine take_ (i := 2) (N := some 60) (v := ?_) (a' := ?_) #[tt,tt,tt,ff,ff,tt,tt,ff,ff,ff,ff,tt,tt,ff,ff,ff,ff,tt,tt,ff,ff,ff,ff,ff] rfl rfl (by kernel_rfl) (fun _ _ _ h => h) (Or.inl ⟨by rfl, ?_⟩) hHeld ?_ ?_
          rotate_left
          · rintro w' ⟨s0, s1, s2, s3⟩
            go_simp
            with_reducible rfl
          rotate_left
          · simp only [Act.put, pkA, pkB, pkC, i64_w, i32_w]
            rfl
          refine pure_ (i := 3) (N := some 61) (v := ?_) (a' := ?_) #[tt,tt,tt,tt,ff,tt,tt,ff,ff,ff,ff,tt,tt,ff,ff,ff,ff,tt,tt,ff,ff,ff,ff,ff] rfl rfl (by kernel_rfl) (fun _ _ _ h => h) (Or.inl ⟨by rfl, ?_⟩) ?_ ?_
          rotate_left
          · intro w'
            go_simp
            with_reducible rfl
          rotate_left
          · simp only [Act.put, pkA, pkB, pkC, i64_w, i32_w]
            rfl
          refine pure_ (i := 4) (N := some 62) (v := ?_) (a' := ?_) #[tt,tt,tt,tt,tt,tt,tt,ff,ff,ff,ff,tt,tt,ff,ff,ff,ff,tt,tt,ff,ff,ff,ff,ff] rfl rfl (by kernel_rfl) (fun _ _ _ h => h) (Or.inl ⟨by rfl, ?_⟩) ?_ ?_
          rotate_left
          · intro w'
            go_simp
            with_reducible rfl
          rotate_left
          · simp only [Act.put, pkA, pkB, pkC, i64_w, i32_w]
            rfl
          refine take_ (i := 7) (N := some 65) (v := ?_) (a' := ?_) #[tt,tt,tt,tt,tt,tt,tt,tt,ff,ff,ff,tt,tt,ff,ff,ff,ff,tt,tt,ff,ff,ff,ff,ff] rfl rfl (by kernel_rfl) (fun _ _ _ h => h) (Or.inl ⟨by rfl, ?_⟩) hHeld ?_ ?_
          rotate_left
          · rintro w' ⟨s0, s1, s2, s3⟩
            go_simp
            with_reducible rfl
          rotate_left
          · simp only [Act.put, pkA, pkB, pkC, i64_w, i32_w]
            rfl
          refine pure_ (i := 8) (N := some 66) (v := ?_) (a' := ?_) #[tt,tt,tt,tt,tt,tt,tt,tt,tt,ff,ff,tt,tt,ff,ff,ff,ff,tt,tt,ff,ff,ff,ff,ff] rfl rfl (by kernel_rfl) (fun _ _ _ h => h) (Or.inl ⟨by rfl, ?_⟩) ?_ ?_
          rotate_left
          · intro w'
            go_simp
            with_reducible rfl
          rotate_left
          · simp only [Act.put, pkA, pkB, pkC, i64_w, i32_w]
            rfl
          refine pure_ (i := 9) (N := some 67) (v := ?_) (a' := ?_) #[tt,tt,tt,tt,tt,tt,tt,tt,tt,tt,ff,tt,tt,ff,ff,ff,ff,tt,tt,ff,ff,ff,ff,ff] rfl rfl (by kernel_rfl) (fun _ _ _ h => h) (Or.inl ⟨by rfl, ?_⟩) ?_ ?_
          rotate_left
          · intro w'
            go_simp
            with_reducible rfl
          rotate_left
          · simp only [Act.put, pkA, pkB, pkC, i64_w, i32_w]
            rfl
          refine pure_ (i := 10) (N := some 68) (v := ?_) (a' := ?_) #[tt,tt,tt,tt,tt,tt,tt,tt,tt,tt,tt,tt,tt,ff,ff,ff,ff,tt,tt,ff,ff,ff,ff,ff] rfl rfl (by kernel_rfl) (fun _ _ _ h => h) (Or.inl ⟨by rfl, ?_⟩) ?_ ?_
          rotate_left
          · intro w'
            go_simp
            with_reducible rfl
          rotate_left
          · simp only [Act.put, pkA, pkB, pkC, i64_w, i32_w]
            rfl
          refine take_ (i := 13) (N := some 71) (v := ?_) (a' := ?_) #[tt,tt,tt,tt,tt,tt,tt,tt,tt,tt,tt,tt,tt,tt,ff,ff,ff,tt,tt,ff,ff,ff,ff,ff] rfl rfl (by kernel_rfl) (fun _ _ _ h => h) (Or.inl ⟨by rfl, ?_⟩) hHeld ?_ ?_
          rotate_left
          · rintro w' ⟨s0, s1, s2, s3⟩
            go_simp
            with_reducible rfl
          rotate_left
          · simp only [Act.put, pkA, pkB, pkC, i64_w, i32_w]
            rfl
          refine pure_ (i := 14) (N := some 72) (v := ?_) (a' := ?_) #[tt,tt,tt,tt,tt,tt,tt,tt,tt,tt,tt,tt,tt,tt,tt,ff,ff,tt,tt,ff,ff,ff,ff,ff] rfl rfl (by kernel_rfl) (fun _ _ _ h => h) (Or.inl ⟨by rfl, ?_⟩) ?_ ?_
          rotate_left
          · intro w'
            go_simp
            with_reducible rfl
          rotate_left
          · simp only [Act.put, pkA, pkB, pkC, i64_w, i32_w]
            rfl
          refine pure_ (i := 15) (N := some 73) (v := ?_) (a' := ?_) #[tt,tt,tt,tt,tt,tt,tt,tt,tt,tt,tt,tt,tt,tt,tt,tt,ff,tt,tt,ff,ff,ff,ff,ff] rfl rfl (by kernel_rfl) (fun _ _ _ h => h) (Or.inl ⟨by rfl, ?_⟩) ?_ ?_
          rotate_left
          · intro w'
            go_simp
            with_reducible rfl
          rotate_left
          · simp only [Act.put, pkA, pkB, pkC, i64_w, i32_w]
            rfl
          refine pure_ (i := 16) (N := some 74) (v := ?_) (a' := ?_) #[tt,tt,tt,tt,tt,tt,tt,tt,tt,tt,tt,tt,tt,tt,tt,tt,tt,tt,tt,ff,ff,ff,ff,ff] rfl rfl (by kernel_rfl) (fun _ _ _ h => h) (Or.inl ⟨by rfl, ?_⟩) ?_ ?_
          rotate_left
          · intro w'
            go_simp
            with_reducible rfl
          rotate_left
          · simp only [Act.put, pkA, pkB, pkC, i64_w, i32_w]
            rfl
          refine take_ (i := 19) (N := some 77) (v := ?_) (a' := ?_) #[tt,tt,tt,tt,tt,tt,tt,tt,tt,tt,tt,tt,tt,tt,tt,tt,tt,tt,tt,tt,ff,ff,ff,ff] rfl rfl (by kernel_rfl) (fun _ _ _ h => h) (Or.inl ⟨by rfl, ?_⟩) hHeld ?_ ?_
          rotate_left
          · rintro w' ⟨s0, s1, s2, s3⟩
            go_simp
            with_reducible rfl
          rotate_left
          · simp only [Act.put, pkA, pkB, pkC, i64_w, i32_w]
            rfl
          refine pure_ (i := 20) (N := some 78) (v := ?_) (a' := ?_) #[tt,tt,tt,tt,tt,tt,tt,tt,tt,tt,tt,tt,tt,tt,tt,tt,tt,tt,tt,tt,tt,ff,ff,ff] rfl rfl (by kernel_rfl) (fun _ _ _ h => h) (Or.inl ⟨by rfl, ?_⟩) ?_ ?_
          rotate_left
          · intro w'
            go_simp
            with_reducible rfl
          rotate_left
          · simp only [Act.put, pkA, pkB, pkC, i64_w, i32_w]
            rfl
          refine pure_ (i := 21) (N := some 79) (v := ?_) (a' := ?_) #[tt,tt,tt,tt,tt,tt,tt,tt,tt,tt,tt,tt,tt,tt,tt,tt,tt,tt,tt,tt,tt,tt,ff,ff] rfl rfl (by kernel_rfl) (fun _ _ _ h => h) (Or.inl ⟨by rfl, ?_⟩) ?_ ?_
          rotate_left
          · intro w'
            go_simp
            with_reducible rfl
          rotate_left
          · simp only [Act.put, pkA, pkB, pkC, i64_w, i32_w]
            rfl
          refine pure_ (i := 22) (N := some 80) (v := ?_) (a' := ?_) #[tt,tt,tt,tt,tt,tt,tt,tt,tt,tt,tt,tt,tt,tt,tt,tt,tt,tt,tt,tt,tt,tt,tt,ff] rfl rfl (by kernel_rfl) (fun _ _ _ h => h) (Or.inl ⟨by rfl, ?_⟩) ?_ ?_
          rotate_left
          · intro w'
            go_simp
            with_reducible rfl
          rotate_left
          · simp only [Act.put, pkA, pkB, pkC, i64_w, i32_w]
            rfl
          refine last_ (i := 23) (N := none) #[tt,tt,tt,tt,tt,tt,tt,tt,tt,tt,tt,tt,tt,tt,tt,tt,tt,tt,tt,tt,tt,tt,tt,tt] rfl rfl (by kernel_rfl) (by decide) (fun K hK => ?_)
          refine skip_ (w1 := ?_) (by rfl) rfl ?_ ?_
          rotate_left
          · go_simp
            rfl
          rw [num_w z0 z1 z2 z3]
          obtain ⟨pl, hpl⟩ : ∃ pl : Nat, pl = y0 * 16777216 + y1 * 65536 + y2 * 256 + y3 := ⟨_, rfl⟩
          rw [← hpl]
          have HPl := Aside0.mk hpl
          have hplm : pl ≤ 4294967295 := by rw [hpl]; exact num_le9 z0 z1 z2 z3
          clear hpl hd2 hf2
          have HX4 := Aside0.mk (HX3.out.put 2 (.int .i64 (pl : Int)) #[.int .i64 (kd : Int), .string (strOfNums nm), .int .i64 (pl : Int), .slice none 0 0] rfl)
          generalize v0.setCell ⟨gb, 2, none⟩ (.int .i64 (pl : Int)) = v1 at HX4 ⊢
          refine hK.out _ _ ?_
          clear hK K
          refine done_ (by kernel_rfl) ?_
          clear hHeld HX2 HX3 hp0
          go_upto_region 12 with (fail)
          have HX5 := Aside0.mk (HX4.out.below (Below.refl v1.heap.size v1).drew)
          have hp0 := HQs.out _ (HA.out.bel.trans (HX5.out.bel.mono HA.out.bel.size))
          refine start_ (n := 23) (S := fun w' => w'.cell? ⟨ah.block, ah.off + 4, none⟩ = some (.int .u8 (y4 : Int)) ∧ w'.cell? ⟨ah.block, ah.off + 5, none⟩ = some (.int .u8 (y5 : Int)) ∧ w'.cell? ⟨ah.block, ah.off + 6, none⟩ = some (.int .u8 (y6 : Int)) ∧ w'.cell? ⟨ah.block, ah.off + 7, none⟩ = some (.int .u8 (y7 : Int))) (ds := []) #[ff,ff,ff,ff,ff,ff,ff,ff,ff,ff,ff,ff,ff,ff,ff,ff,ff,ff,ff,ff,ff,ff,ff] (by kernel_rfl) rfl rfl ⟨hp0.2.2.2.2.1, hp0.2.2.2.2.2.1, hp0.2.2.2.2.2.2.1, hp0.2.2.2.2.2.2.2⟩ (fun hHeld => ?_)
          generalize v1.drew = v2 at HX5 hHeld ⊢
          refine pure_ (i := 0) (N := some 81) (v := ?_) (a' := ?_) #[tt,ff,ff,ff,ff,ff,ff,ff,ff,ff,ff,ff,ff,ff,ff,ff,ff,ff,ff,ff,ff,ff,ff] rfl rfl (by kernel_rfl) (fun _ _ _ h => h) (Or.inl ⟨by rfl, ?_⟩) ?_ ?_
          rotate_left
          · intro w'
            go_simp
            with_reducible rfl
          rotate_left
          · simp only [Act.put, pkA, pkB, pkC, i64_w, i32_w]
            rfl
          refine pure_ (i := 1) (N := some 82) (v := ?_) (a' := ?_) #[tt,tt,ff,ff,ff,ff,ff,ff,ff,ff,ff,ff,ff,ff,ff,ff,ff,ff,ff,ff,ff,ff,ff] rfl rfl (by kernel_rfl) (fun _ _ _ h => h) (Or.inl ⟨by rfl, ?_⟩) ?_ ?_
          rotate_left
          · intro w'
            go_simp
            with_reducible rfl
          rotate_left
          · simp only [Act.put, pkA, pkB, pkC, i64_w, i32_w]
            rfl
          refine pure_ (i := 5) (N := some 86) (v := ?_) (a' := ?_) #[tt,tt,ff,ff,ff,tt,ff,ff,ff,ff,ff,ff,ff,ff,ff,ff,ff,ff,ff,ff,ff,ff,ff] rfl rfl (by kernel_rfl) (fun _ _ _ h => h) (Or.inl ⟨by rfl, ?_⟩) ?_ ?_
          rotate_left
          · intro w'
            go_simp
            with_reducible rfl
          rotate_left
          · simp only [Act.put, pkA, pkB, pkC, i64_w, i32_w]
            rfl
          refine pure_ (i := 6) (N := some 87) (v := ?_) (a' := ?_) #[tt,tt,ff,ff,ff,tt,tt,ff,ff,ff,ff,ff,ff,ff,ff,ff,ff,ff,ff,ff,ff,ff,ff] rfl rfl (by kernel_rfl) (fun _ _ _ h => h) (Or.inl ⟨by rfl, ?_⟩) ?_ ?_
          rotate_left
          · intro w'
            go_simp
            with_reducible rfl
          rotate_left
          · simp only [Act.put, pkA, pkB, pkC, i64_w, i32_w]
            rfl
          refine pure_ (i := 11) (N := some 92) (v := ?_) (a' := ?_) #[tt,tt,ff,ff,ff,tt,tt,ff,ff,ff,ff,tt,ff,ff,ff,ff,ff,ff,ff,ff,ff,ff,ff] rfl rfl (by kernel_rfl) (fun _ _ _ h => h) (Or.inl ⟨by rfl, ?_⟩) ?_ ?_
          rotate_left
          · intro w'
            go_simp
            with_reducible rfl
          rotate_left
          · simp only [Act.put, pkA, pkB, pkC, i64_w, i32_w]
            rfl
          refine pure_ (i := 12) (N := some 93) (v := ?_) (a' := ?_) #[tt,tt,ff,ff,ff,tt,tt,ff,ff,ff,ff,tt,tt,ff,ff,ff,ff,ff,ff,ff,ff,ff,ff] rfl rfl (by kernel_rfl) (fun _ _ _ h => h) (Or.inl ⟨by rfl, ?_⟩) ?_ ?_
          rotate_left
          · intro w'
            go_simp
            with_reducible rfl
          rotate_left
          · simp only [Act.put, pkA, pkB, pkC, i64_w, i32_w]
            rfl
          refine pure_ (i := 17) (N := some 98) (v := ?_) (a' := ?_) #[tt,tt,ff,ff,ff,tt,tt,ff,ff,ff,ff,tt,tt,ff,ff,ff,ff,tt,ff,ff,ff,ff,ff] rfl rfl (by kernel_rfl) (fun _ _ _ h => h) (Or.inl ⟨by rfl, ?_⟩) ?_ ?_
          rotate_left
          · intro w'
            go_simp
            with_reducible rfl
          rotate_left
          · simp only [Act.put, pkA, pkB, pkC, i64_w, i32_w]
            rfl
          refine pure_ (i := 18) (N := some 99) (v := ?_) (a' := ?_) #[tt,tt,ff,ff,ff,tt,tt,ff,ff,ff,ff,tt,tt,ff,ff,ff,ff,tt,tt,ff,ff,ff,ff] rfl rfl (by kernel_rfl) (fun _ _ _ h => h) (Or.inl ⟨by rfl, ?_⟩) ?_ ?_
          rotate_left
          · intro w'
            go_simp
            with_reducible rfl
          rotate_left
          · simp only [Act.put, pkA, pkB, pkC, i64_w, i32_w]
            rfl
          refine take_ (i := 2) (N := some 83) (v := ?_) (a' := ?_) #[tt,tt,tt,ff,ff,tt,tt,ff,ff,ff,ff,tt,tt,ff,ff,ff,ff,tt,tt,ff,ff,ff,ff] rfl rfl (by kernel_rfl) (fun _ _ _ h => h) (Or.inl ⟨by rfl, ?_⟩) hHeld ?_ ?_
          rotate_left
          · rintro w' ⟨s0, s1, s2, s3⟩
            go_simp
            with_reducible rfl
          rotate_left
          · simp only [Act.put, pkA, pkB, pkC, i64_w, i32_w]
            rfl
          refine pure_ (i := 3) (N := some 84) (v := ?_) (a' := ?_) #[tt,tt,tt,tt,ff,tt,tt,ff,ff,ff,ff,tt,tt,ff,ff,ff,ff,tt,tt,ff,ff,ff,ff] rfl rfl (by kernel_rfl) (fun _ _ _ h => h) (Or.inl ⟨by rfl, ?_⟩) ?_ ?_
          rotate_left
          · intro w'
            go_simp
            with_reducible rfl
          rotate_left
          · simp only [Act.put, pkA, pkB, pkC, i64_w, i32_w]
            rfl
          refine pure_ (i := 4) (N := some 85) (v := ?_) (a' := ?_) #[tt,tt,tt,tt,tt,tt,tt,ff,ff,ff,ff,tt,tt,ff,ff,ff,ff,tt,tt,ff,ff,ff,ff] rfl rfl (by kernel_rfl) (fun _ _ _ h => h) (Or.inl ⟨by rfl, ?_⟩) ?_ ?_
          rotate_left
          · intro w'
            go_simp
            with_reducible rfl
          rotate_left
          · simp only [Act.put, pkA, pkB, pkC, i64_w, i32_w]
            rfl
          refine take_ (i := 7) (N := some 88) (v := ?_) (a' := ?_) #[tt,tt,tt,tt,tt,tt,tt,tt,ff,ff,ff,tt,tt,ff,ff,ff,ff,tt,tt,ff,ff,ff,ff] rfl rfl (by kernel_rfl) (fun _ _ _ h => h) (Or.inl ⟨by rfl, ?_⟩) hHeld ?_ ?_
          rotate_left
          · rintro w' ⟨s0, s1, s2, s3⟩
            go_simp
            with_reducible rfl
          rotate_left
          · simp only [Act.put, pkA, pkB, pkC, i64_w, i32_w]
            rfl
          refine pure_ (i := 8) (N := some 89) (v := ?_) (a' := ?_) #[tt,tt,tt,tt,tt,tt,tt,tt,tt,ff,ff,tt,tt,ff,ff,ff,ff,tt,tt,ff,ff,ff,ff] rfl rfl (by kernel_rfl) (fun _ _ _ h => h) (Or.inl ⟨by rfl, ?_⟩) ?_ ?_
          rotate_left
          · intro w'
            go_simp
            with_reducible rfl
          rotate_left
          · simp only [Act.put, pkA, pkB, pkC, i64_w, i32_w]
            rfl
          refine pure_ (i := 9) (N := some 90) (v := ?_) (a' := ?_) #[tt,tt,tt,tt,tt,tt,tt,tt,tt,tt,ff,tt,tt,ff,ff,ff,ff,tt,tt,ff,ff,ff,ff] rfl rfl (by kernel_rfl) (fun _ _ _ h => h) (Or.inl ⟨by rfl, ?_⟩) ?_ ?_
          rotate_left
          · intro w'
            go_simp
            with_reducible rfl
          rotate_left
          · simp only [Act.put, pkA, pkB, pkC, i64_w, i32_w]
            rfl
          refine pure_ (i := 10) (N := some 91) (v := ?_) (a' := ?_) #[tt,tt,tt,tt,tt,tt,tt,tt,tt,tt,tt,tt,tt,ff,ff,ff,ff,tt,tt,ff,ff,ff,ff] rfl rfl (by kernel_rfl) (fun _ _ _ h => h) (Or.inl ⟨by rfl, ?_⟩) ?_ ?_
          rotate_left
          · intro w'
            go_simp
            with_reducible rfl
          rotate_left
          · simp only [Act.put, pkA, pkB, pkC, i64_w, i32_w]
            rfl
          refine take_ (i := 13) (N := some 94) (v := ?_) (a' := ?_) #[tt,tt,tt,tt,tt,tt,tt,tt,tt,tt,tt,tt,tt,tt,ff,ff,ff,tt,tt,ff,ff,ff,ff] rfl rfl (by kernel_rfl) (fun _ _ _ h => h) (Or.inl ⟨by rfl, ?_⟩) hHeld ?_ ?_
          rotate_left
          · rintro w' ⟨s0, s1, s2, s3⟩
            go_simp
            with_reducible rfl
          rotate_left
          · simp only [Act.put, pkA, pkB, pkC, i64_w, i32_w]
            rfl
          refine pure_ (i := 14) (N := some 95) (v := ?_) (a' := ?_) #[tt,tt,tt,tt,tt,tt,tt,tt,tt,tt,tt,tt,tt,tt,tt,ff,ff,tt,tt,ff,ff,ff,ff] rfl rfl (by kernel_rfl) (fun _ _ _ h => h) (Or.inl ⟨by rfl, ?_⟩) ?_ ?_
          rotate_left
          · intro w'
            go_simp
            with_reducible rfl
          rotate_left
          · simp only [Act.put, pkA, pkB, pkC, i64_w, i32_w]
            rfl
          refine pure_ (i := 15) (N := some 96) (v := ?_) (a' := ?_) #[tt,tt,tt,tt,tt,tt,tt,tt,tt,tt,tt,tt,tt,tt,tt,tt,ff,tt,tt,ff,ff,ff,ff] rfl rfl (by kernel_rfl) (fun _ _ _ h => h) (Or.inl ⟨by rfl, ?_⟩) ?_ ?_
          rotate_left
          · intro w'
            go_simp
            with_reducible rfl
          rotate_left
          · simp only [Act.put, pkA, pkB, pkC, i64_w, i32_w]
            rfl
          refine pure_ (i := 16) (N := some 97) (v := ?_) (a' := ?_) #[tt,tt,tt,tt,tt,tt,tt,tt,tt,tt,tt,tt,tt,tt,tt,tt,tt,tt,tt,ff,ff,ff,ff] rfl rfl (by kernel_rfl) (fun _ _ _ h => h) (Or.inl ⟨by rfl, ?_⟩) ?_ ?_
          rotate_left
          · intro w'
            go_simp
            with_reducible rfl
          rotate_left
          · simp only [Act.put, pkA, pkB, pkC, i64_w, i32_w]
            rfl
          refine take_ (i := 19) (N := some 100) (v := ?_) (a' := ?_) #[tt,tt,tt,tt,tt,tt,tt,tt,tt,tt,tt,tt,tt,tt,tt,tt,tt,tt,tt,tt,ff,ff,ff] rfl rfl (by kernel_rfl) (fun _ _ _ h => h) (Or.inl ⟨by rfl, ?_⟩) hHeld ?_ ?_
          rotate_left
          · rintro w' ⟨s0, s1, s2, s3⟩
            go_simp
            with_reducible rfl
          rotate_left
          · simp only [Act.put, pkA, pkB, pkC, i64_w, i32_w]
            rfl
          refine pure_ (i := 20) (N := some 101) (v := ?_) (a' := ?_) #[tt,tt,tt,tt,tt,tt,tt,tt,tt,tt,tt,tt,tt,tt,tt,tt,tt,tt,tt,tt,tt,ff,ff] rfl rfl (by kernel_rfl) (fun _ _ _ h => h) (Or.inl ⟨by rfl, ?_⟩) ?_ ?_
          rotate_left
          · intro w'
            go_simp
            with_reducible rfl
          rotate_left
          · simp only [Act.put, pkA, pkB, pkC, i64_w, i32_w]
            rfl
          refine pure_ (i := 21) (N := some 102) (v := ?_) (a' := ?_) #[tt,tt,tt,tt,tt,tt,tt,tt,tt,tt,tt,tt,tt,tt,tt,tt,tt,tt,tt,tt,tt,tt,ff] rfl rfl (by kernel_rfl) (fun _ _ _ h => h) (Or.inl ⟨by rfl, ?_⟩) ?_ ?_
          rotate_left
          · intro w'
            go_simp
            with_reducible rfl
          rotate_left
          · simp only [Act.put, pkA, pkB, pkC, i64_w, i32_w]
            rfl
          refine pure_ (i := 22) (N := some 9) (v := ?_) (a' := ?_) #[tt,tt,tt,tt,tt,tt,tt,tt,tt,tt,tt,tt,tt,tt,tt,tt,tt,tt,tt,tt,tt,tt,tt] rfl rfl (by kernel_rfl) (fun _ _ _ h => h) (Or.inl ⟨by rfl, ?_⟩) ?_ ?_
          rotate_left
          · intro w'
            go_simp
            with_reducible rfl
          rotate_left
          · simp only [Act.put, pkA, pkB, pkC, i64_w, i32_w]
            rfl
          refine done_ (by kernel_rfl) ?_
          rw [num_w z4 z5 z6 z7]
          obtain ⟨q, hq⟩ : ∃ q : Nat, q = y4 * 16777216 + y5 * 65536 + y6 * 256 + y7 := ⟨_, rfl⟩
          rw [← hq]
          have hqm : q ≤ 4294967295 := by rw [hq]; exact num_le9 z4 z5 z6 z7
          have HQe := Aside0.mk hq
          clear hq hHeld hp0 HX4
          have HPn := Aside0.mk (show n4 (l.drop (2 + n)) = pl by
            unfold n4
            rw [take8 l (2 + n) 0 (by decide), take8 l (2 + n) 1 (by decide), take8 l (2 + n) 2 (by decide), take8 l (2 + n) 3 (by decide), ← HHe.out, HGs.out.1, HGs.out.2.1, HGs.out.2.2.1, HGs.out.2.2.2.1, HPl.out]
            exact cast9 y0 y1 y2 y3)
          have HSz := Aside0.mk (show szN l = q by
            unfold szN
            rw [HNm.out]
            have e9 : n4 (l.drop (6 + n)) = q := by
              unfold n4
              rw [drop6 l n 0, drop6 l n 1, drop6 l n 2, drop6 l n 3, take8 l (2 + n) 4 (by decide), take8 l (2 + n) 5 (by decide), take8 l (2 + n) 6 (by decide), take8 l (2 + n) 7 (by decide), ← HHe.out, HGs.out.2.2.2.2.1, HGs.out.2.2.2.2.2.1, HGs.out.2.2.2.2.2.2.1, HGs.out.2.2.2.2.2.2.2, HQe.out]
              exact cast9 y4 y5 y6 y7
            rw [e9]
            exact Int.toNat_natCast q)
          go_upto_region 14 with (fail)
          obtain ⟨i2, hi2⟩ : ∃ i2 : Nat, i2 = i + (10 + n) := ⟨_, rfl⟩
          rw [show (i : Int) + (10 + (n : Int)) = (i2 : Int) from cast10 hi2]
          have hi2l : i2 ≤ b.length := le10 hll hlt h10 hi2
          have HI2 := Aside0.mk hi2
          clear hi2
          have HDr := Aside0.mk (show l.drop (10 + n) = b.drop i2 by rw [HL.out, List.drop_drop, HI2.out])
          by_cases hqb : b.length - i2 < q
          · have t4 : decide ((b.length : Int) - (i2 : Int) < (q : Int)) = true := decide_eq_true (ltq hi2l hqb)
            have HN := Aside0.mk (show R = none by rw [← HQ2.out]; unfold rop1; rw [if_neg h2, HNm.out, if_neg h10, HDr.out, HSz.out, if_pos (by rw [List.length_drop]; exact hqb)])
            have t4w : decide (wrap64 ((b.length : Int) - (i2 : Int)) < (q : Int)) = true := by rw [widL hi2l hbl]; exact t4
            clear hqb
            go_wp2
            go_ret2
            exact ⟨by rw [HN.out]; rfl, HA.out.bel.trans (HX5.out.bel.mono HA.out.bel.size)⟩
          · have t4 : decide ((b.length : Int) - (i2 : Int) < (q : Int)) = false := decide_eq_false (geq hi2l hqb)
            have t4w : decide (wrap64 ((b.length : Int) - (i2 : Int)) < (q : Int)) = false := by rw [widL hi2l hbl]; exact t4
            have HQb := Aside0.mk hqb
            obtain ⟨i5, hi5, _, hz5, _⟩ := info_parts infoU8
            obtain ⟨A16, hcut16, hrd16, hcp16⟩ := print_mid_int (P := Tryz.prog) (k := .u8) 32 5 Tryz.underlying32 hi5 hz5 (some ad) c b (i2 : Int) ((i2 : Int) + (q : Int)) (Int.natCast_nonneg i2) (addq i2 q) (leq hi2l hqb) hc
            obtain ⟨bs, hbs⟩ : ∃ bs, bs = (b.take ((i2 : Int) + (q : Int)).toNat).drop (i2 : Int).toNat := ⟨_, rfl⟩
            obtain ⟨c16, hc16⟩ : ∃ c16, c16 = c - (i2 : Int).toNat := ⟨_, rfl⟩
            rw [← hbs, ← hc16] at hcut16
            rw [← hbs] at hrd16
            have HBs := Aside0.mk (show bs = (l.drop (10 + n)).take q by rw [hbs, HDr.out]; exact mid_eq16 b i2 q)
            have HBl := Aside0.mk (show bs.length = q by rw [HBs.out, HDr.out, List.length_take, List.length_drop]; exact minq hqb)
            have HBc := Aside0.mk (Kd.C_of_reads (d := (0 : Int)) (h1 := fun _ => rfl) (hrd16 w (Kd.reads_of_C (d := (0 : Int)) (h1 := fun _ => rfl) HC.out)))
            have hql : q ≤ b.length := lel hi2l hqb
            have HWq := Aside0.mk (widq hi2l hql hbl)
            have hcut16w := hcut16
            rw [← HWq.out] at hcut16w
            clear hbs hc16 hi5 hz5 hrd16 hcp16 hqb
            have HB6 := Aside0.mk (show Below v2.heap.size v2 (v2.alloc (.cells #[] 5)) from (Below.refl _ _).alloc (Nat.le_refl _) _)
            have HX6 := Aside0.mk (HX5.out.below HB6.out)
            have HR6 := Aside0.mk (show Kd.R (Kd.int .u8) 5 (v2.alloc (.cells #[] 5)) wr.heap.size (fun _ => True) (.slice (some ⟨v2.heap.size, 0, none⟩) 0 0) [] from ⟨fun _ _ => trivial, OwnRow.lit (ps := []) (inner := []) v2 wr.heap.size ⟨rfl, fun j p hj => by simp at hj⟩ HX5.out.bel.size (show 0 ≤ 9223372036854775807 by decide)⟩)
            have HC6 := Aside0.mk (Kd.C_below HBc.out (HA.out.bel.trans (HX6.out.bel.mono HA.out.bel.size)))
            have hgl := blk_lt HX5.out.box
            have hb2 := (blk_cell HX6.out.box 3).trans (rfl : _ = some (Value.slice none 0 0))
            go_upto_region 17 with ((with_reducible refine gate_builtin (b := .append) (xs := #[.tmp 113, .tmp 119]) rfl ?_); at_builtin; refine Kd.R_append_rows (Kd.int .u8) (w0 := wr) (W := v2.alloc (.cells #[] 5)) wr.heap.size rfl (.tmp 113) (.tmp 119) 32 5 (.int .u8 0) 1 rfl Tryz.underlying32 infoU8 rfl (by decide) (by omega) (.slice (some ⟨v2.heap.size, 0, none⟩) 0 0) [] bs _ _ _ (fun _ => True) (fun _ => False) rfl rfl ?aO ?aR (fun _ _ h => h) (fun _ h => h.elim) ?aF ?aB ?aS ?aL ?_; (case aO => exact HR6.out); (case aR => exact HC6.out); (case aF => exact fun _ _ => trivial); (case aB => exact HX6.out.bel); (case aS => exact HX6.out.bel.size); (case aL => have := HBl.out; simp only [List.length_nil]; omega); intro vb w7 ho hb hg hat; have HX7 := Aside0.mk (show BoxW wr gb #[.int .i64 (kd : Int), .string (strOfNums nm), .int .i64 (pl : Int), .slice none 0 0] w7 from ⟨hb, (hg.block _ (blk_lt HX6.out.box) (not_own HR6.out HX6.out.box)).trans HX6.out.box, HX6.out.lo⟩); have HV7 := Aside0.mk (show Kd.R (Kd.int .u8) 5 w7 wr.heap.size (fun _ => True) vb bs from ho); obtain ⟨Av, cv, rfl⟩ := Kd.R_slice HV7.out; have d3 := (blk_cell HX7.out.box 3).trans (rfl : _ = some (Value.slice none 0 0)); have f3 := blk_frozen HX7.out.box 3; clear ho hb hg hat)
            have HX8 := Aside0.mk (HX7.out.put 3 (.slice Av bs.length cv) #[.int .i64 (kd : Int), .string (strOfNums nm), .int .i64 (pl : Int), .slice Av bs.length cv] rfl)
            have HV8 := Aside0.mk (show Kd.R (Kd.int .u8) 5 (w7.setCell ⟨gb, 3, none⟩ (.slice Av bs.length cv)) wr.heap.size (fun _ => True) (.slice Av bs.length cv) bs from R_row HV7.out (But.setCell w7 ⟨gb, 3, none⟩ _) (Not.cells (t := 62) (fun g hg => by obtain rfl := Option.some.inj hg; exact ⟨_, _, HX7.out.box⟩) (fun q hq e => by subst e; revert hq; decide)))
            clear d3 f3 HX7 HV7 HX6 HR6 HC6 HB6 HX5 hcut16 hcut16w hgl hb2 t4 t4w
            generalize w7.setCell ⟨gb, 3, none⟩ (.slice Av bs.length cv) = w8 at HX8 HV8 ⊢
            have g0 := (blk_cell HX8.out.box 0).trans (rfl : _ = some (Value.int .i64 (kd : Int)))
            have g1 := (blk_cell HX8.out.box 1).trans (rfl : _ = some (Value.string (strOfNums nm)))
            have g2 := (blk_cell HX8.out.box 2).trans (rfl : _ = some (Value.int .i64 (pl : Int)))
            have g3 := (blk_cell HX8.out.box 3).trans (rfl : _ = some (Value.slice Av bs.length cv))
            have HRw := Aside0.mk (Kd.R_below HA.out.row HX8.out.bel)
            have HVw := Aside0.mk (Kd.R_lower HV8.out HA.out.bel.size)
            have HBe := Aside0.mk (HA.out.bel.trans (HX8.out.bel.mono HA.out.bel.size))
            have haL : acc.length ≤ 100001 := Nat.le_trans hac (Nat.le_trans hi (Nat.succ_le_succ hbl))
            go_wp2_with ((with_reducible refine gate_builtin (b := .append) (xs := #[.tmp 125, .tmp 127]) rfl ?_); at_builtin; refine Kd.R_append GSix.k62 (w0 := w) (W := w8) w.heap.size rfl (.tmp 125) (.tmp 127) 54 62 (.agg #[.int .i64 0, .string ⟨#[]⟩, .int .i64 0, .slice none 0 0]) 56 rfl Tryz.underlying54 infoOp rfl (by decide) (by omega) u4 acc ⟨(kd : Int), strOfNums nm, (pl : Int), bs⟩ [.int .i64 (kd : Int), .string (strOfNums nm), .int .i64 (pl : Int), .slice Av bs.length cv] (fun _ => True) (fun k_ => True ∧ some k_ ≠ u4.ownBlock) rfl ?aX ?aP (fun _ h => h) (fun _ _ => trivial) ?aO ?aB ?aS ?aL ?_; (case aX => rfl); (case aP => exact GSix.k62_mkM w8 _ _ ⟨(kd : Int), strOfNums nm, (pl : Int), bs⟩ (bytes_apart2 HVw.out HRw.out)); (case aO => exact HRw.out); (case aB => exact HBe.out); (case aS => exact HBe.out.size); (case aL => omega); intro v9 w9 ho9 hb9 hg9 hat9; have HO9 := Aside0.mk ho9; have HB9 := Aside0.mk hb9; clear ho9 hb9 hg9 hat9)
            have HN := Aside0.mk (show RW w v9 (acc ++ [⟨(kd : Int), strOfNums nm, (pl : Int), bs⟩]) w9 from ⟨HB9.out, HO9.out, fun o ho => by
              rcases List.mem_append.1 ho with ho | ho
              · exact HA.out.each o ho
              · obtain rfl : o = ⟨(kd : Int), strOfNums nm, (pl : Int), bs⟩ := by simpa using ho
                exact ⟨by show (strOfNums nm).size ≤ _; rw [strOfNums_size, HNl.out]; exact hn255, by show bs.length ≤ _; rw [HBl.out]; exact Nat.le_trans hql hbl⟩, fun o ho => by
              rcases List.mem_append.1 ho with ho | ho
              · exact HA.out.byt o ho
              · obtain rfl : o = ⟨(kd : Int), strOfNums nm, (pl : Int), bs⟩ := by simpa using ho
                show Lib04.isB bs
                rw [HBs.out, HDr.out]
                exact Lib04.isB_take (Lib04.isB_drop HBy.out _) _⟩)
            have HRp := Aside0.mk (show rop1 l = some (⟨(kd : Int), strOfNums nm, (pl : Int), bs⟩, b.drop (i2 + q)) by
              unfold rop1
              rw [if_neg h2, HNm.out, if_neg h10, HSz.out, if_neg (by rw [HDr.out, List.length_drop]; exact HQb.out), HKd.out, ← HNM.out, HPn.out, ← HBs.out, HDr.out, List.drop_drop])
            have HQ3 := Aside0.mk (show (match ropsGo k (b.drop (i2 + q)) (acc ++ [⟨(kd : Int), strOfNums nm, (pl : Int), bs⟩]) with | none => none | some L => if checkL L = none ∧ encL L = b then some L else none) = R by
              have h9 := HQ2.out
              rw [HRp.out] at h9
              exact h9)
            clear g0 g1 g2 g3
            exact ⟨⟨i2 + q, k, _, ge1 HI2.out, leq2 hi2l HQb.out, cast2 i2 q, ltk hk hlt HI2.out, by rw [List.length_append]; exact acl hac HI2.out, HN, HQ3⟩, meas hlt HI2.out hi2l HQb.out⟩
    · have t1 : decide (i < b.length) = false := decide_eq_false hlt
      have t1' : decide ((i : Int) < (b.length : Int)) = false := decide_eq_false (nlt hlt)
      have HRe := Aside0.mk (show R = if checkL acc = none ∧ encL acc = b then some acc else none by
        have h9 := HQ.out
        unfold ropsGo at h9
        rw [if_pos (by rw [List.length_drop]; exact sub0 hlt)] at h9
        exact h9.symm)
      obtain ⟨A5, c5, rfl⟩ := Kd.R_slice HA.out.row
      have HC5 := Aside0.mk (Kd.R_reads' HA.out.row).2
      have haL : acc.length ≤ 100001 := Nat.le_trans hac (Nat.le_trans hi (Nat.succ_le_succ hbl))
      clear HQ hac
      obtain ⟨kf, hkf⟩ := form_f acc (by omega) (fun o ho => ⟨by have := (HA.out.each o ho).1; omega, by have := (HA.out.each o ho).2; omega⟩)
      have HCv := Aside0.mk (fun (U : World) (hU : Below w.heap.size w U) => Kd.C_string (P := Tryz.prog) (src := 32) (dst := 9) (e := 5) (w := U) (A := A) (c := c) Tryz.underlying32 Tryz.underlying5 Tryz.underlying9 (Kd.C_below HC.out hU))
      have HFo := Aside0.mk (fun (U : World) (hU : Below wr.heap.size wr U) => GSix.postbagref06_Form.calls kf A5 c5 acc _ U (Kd.C_below HC5.out.2 hU) HC5.out.1 hkf)
      have HBy2 := Aside0.mk (fun (U : World) (hU : Below wr.heap.size wr U) => rbytes_calls acc A5 c5 U (Kd.C_below HC5.out.2 hU) HC5.out.1 (by omega) (fun o ho => ⟨by have := (HA.out.each o ho).1; omega, by have := (HA.out.each o ho).2; omega⟩) (fun j => enc_total acc j haL HA.out.each))
      clear hkf
      have HBd := Aside0.mk ((Below.refl wr.heap.size wr).drew)
      by_cases hck : checkL acc = none
      · have HCk := Aside0.mk hck
        rw [show decide (checkL acc = none) = true from decide_eq_true hck] at HFo
        clear hck
        go_upto_region 19 with (fail)
        refine start_ (n := 11) (S := fun w' => (convert 32 9 (.slice A b.length c)).run Tryz.prog w' = .ok (.string (strOfNums b)) w') (ds := []) #[ff,ff,ff,ff,ff,ff,ff,ff,ff,ff,ff] (by kernel_rfl) rfl rfl ((HCv.out _ (HA.out.bel.trans (HBd.out.mono HA.out.bel.size)))) (fun hHeld => ?_)
        generalize wr.drew = u0 at HBd hHeld ⊢
        refine pure_ (i := 0) (N := some 129) (v := ?_) (a' := ?_) #[tt,ff,ff,ff,ff,ff,ff,ff,ff,ff,ff] rfl rfl (by kernel_rfl) (fun _ _ _ h => h) (Or.inl ⟨by rfl, ?_⟩) ?_ ?_
        rotate_left
        · intro w'
          go_simp
          with_reducible rfl
        rotate_left
        · simp only [Act.put, pkA, pkB, pkC, i64_w, i32_w]
          rfl
        refine one_ (i := 1) (N := some 130) #[tt,tt,ff,ff,ff,ff,ff,ff,ff,ff,ff] rfl rfl (by kernel_rfl) (by decide) (fun K hK => ?_)
        refine goes_ Tryz.func19 (by kernel_rfl) rfl #[.slice A5 acc.length c5] (by rfl) rfl rfl (by simp only [List.map_toArray, List.map_cons, List.map_nil]; rfl) ?_
        with_reducible refine (HFo.out u0 HBd.out).mono ?_
        rintro e u1 ⟨rfl, hb⟩
        refine ⟨_, rfl, ?_⟩
        have HB1 := Aside0.mk (HBd.out.trans (hb.mono HBd.out.size))
        clear hb
        refine hK.out _ _ ((HCv.out _ (HA.out.bel.trans (HB1.out.mono HA.out.bel.size)))) (fun hHeld => ?_)
        clear hK K
        refine norm_ (a' := ?_) ?_ ?_
        rotate_left
        · show Act.put _ (some 130) _ = _
          simp only [Act.put, pkA, pkB, pkC, i64_w, i32_w]
          rfl
        refine pure_ (i := 2) (N := some 131) (v := ?_) (a' := ?_) #[tt,tt,tt,ff,ff,ff,ff,ff,ff,ff,ff] rfl rfl (by kernel_rfl) (fun _ _ _ h => h) (Or.inl ⟨by rfl, ?_⟩) ?_ ?_
        rotate_left
        · intro w'
          go_simp
          with_reducible rfl
        rotate_left
        · simp only [Act.put, pkA, pkB, pkC, i64_w, i32_w]
          rfl
        refine pure_ (i := 3) (N := some 132) (v := ?_) (a' := ?_) #[tt,tt,tt,tt,ff,ff,ff,ff,ff,ff,ff] rfl rfl (by kernel_rfl) (fun _ _ _ h => h) (Or.inl ⟨by rfl, ?_⟩) ?_ ?_
        rotate_left
        · intro w'
          go_simp
          with_reducible rfl
        rotate_left
        · simp only [Act.put, pkA, pkB, pkC, i64_w, i32_w]
          rfl
        refine pure_ (i := 4) (N := some 133) (v := ?_) (a' := ?_) #[tt,tt,tt,tt,tt,ff,ff,ff,ff,ff,ff] rfl rfl (by kernel_rfl) (fun _ _ _ h => h) (Or.inl ⟨by rfl, ?_⟩) ?_ ?_
        rotate_left
        · intro w'
          go_simp
          with_reducible rfl
        rotate_left
        · simp only [Act.put, pkA, pkB, pkC, i64_w, i32_w]
          rfl
        refine pure_ (i := 7) (N := some 136) (v := ?_) (a' := ?_) #[tt,tt,tt,tt,tt,ff,ff,tt,ff,ff,ff] rfl rfl (by kernel_rfl) (fun _ _ _ h => h) (Or.inl ⟨by rfl, ?_⟩) ?_ ?_
        rotate_left
        · intro w'
          go_simp
          with_reducible rfl
        rotate_left
        · simp only [Act.put, pkA, pkB, pkC, i64_w, i32_w]
          rfl
        refine take_ (i := 8) (N := some 137) (v := ?_) (a' := ?_) #[tt,tt,tt,tt,tt,ff,ff,tt,tt,ff,ff] rfl rfl (by kernel_rfl) (fun _ _ _ h => h) (Or.inl ⟨by rfl, ?_⟩) hHeld ?_ ?_
        rotate_left
        · intro w' s0
          go_simp
          with_reducible rfl
        rotate_left
        · simp only [Act.put, pkA, pkB, pkC, i64_w, i32_w]
          rfl
        refine one_ (i := 5) (N := some 134) #[tt,tt,tt,tt,tt,tt,ff,tt,tt,ff,ff] rfl rfl (by kernel_rfl) (by decide) (fun K hK => ?_)
        refine goes_ Tryz.func22 (by kernel_rfl) rfl #[.slice A5 acc.length c5] (by rfl) rfl rfl (by simp only [List.map_toArray, List.map_cons, List.map_nil]; rfl) ?_
        with_reducible refine (HBy2.out u1 HB1.out).mono ?_
        rintro e u2 ⟨vb, rfl, ho, hb⟩
        refine ⟨_, rfl, ?_⟩
        obtain ⟨A6, c6, rfl⟩ := Kd.R_slice ho
        have HB2 := Aside0.mk (HB1.out.trans (hb.mono HB1.out.size))
        have cv6 := Kd.C_string (P := Tryz.prog) (src := 32) (dst := 9) (e := 5) (w := u2) (A := A6) (c := c6) Tryz.underlying32 Tryz.underlying5 Tryz.underlying9 (Kd.R_reads' ho).2.2
        clear hb ho
        refine hK.out _ _ ((HCv.out _ (HA.out.bel.trans (HB2.out.mono HA.out.bel.size)))) (fun hHeld => ?_)
        clear hK K
        refine norm_ (a' := ?_) ?_ ?_
        rotate_left
        · show Act.put _ (some 134) _ = _
          simp only [Act.put, pkA, pkB, pkC, i64_w, i32_w]
          rfl
        refine one_ (i := 6) (N := some 135) #[tt,tt,tt,tt,tt,tt,tt,tt,tt,ff,ff] rfl rfl (by kernel_rfl) (by decide) (fun K hK => ?_)
        refine value_ (w1 := ?_) (v := ?_) (by rfl) rfl ?_ ?_
        rotate_left 2
        · go_simp
          constructor
          · rfl
          · rfl
        refine hK.out _ _ ((HCv.out _ (HA.out.bel.trans (HB2.out.mono HA.out.bel.size)))) (fun hHeld => ?_)
        clear hK K
        refine norm_ (a' := ?_) ?_ ?_
        rotate_left
        · show Act.put _ (some 135) _ = _
          simp only [Act.put, pkA, pkB, pkC, i64_w, i32_w]
          rfl
        refine pure_ (i := 9) (N := some 138) (v := ?_) (a' := ?_) #[tt,tt,tt,tt,tt,tt,tt,tt,tt,tt,ff] rfl rfl (by kernel_rfl) (fun _ _ _ h => h) (Or.inl ⟨by rfl, ?_⟩) ?_ ?_
        rotate_left
        · intro w'
          go_simp
          with_reducible rfl
        rotate_left
        · simp only [Act.put, pkA, pkB, pkC, i64_w, i32_w]
          rfl
        refine pure_ (i := 10) (N := some 139) (v := ?_) (a' := ?_) #[tt,tt,tt,tt,tt,tt,tt,tt,tt,tt,tt] rfl rfl (by kernel_rfl) (fun _ _ _ h => h) (Or.inl ⟨by rfl, ?_⟩) ?_ ?_
        rotate_left
        · intro w'
          go_simp
          with_reducible rfl
        rotate_left
        · simp only [Act.put, pkA, pkB, pkC, i64_w, i32_w]
          rfl
        refine done_ (by kernel_rfl) ?_
        have HW2 := Aside0.mk (HA.out.bel.trans (HB2.out.mono HA.out.bel.size))
        by_cases hE : encL acc = b
        · have HR0 := Aside0.mk (show R = some acc by rw [HRe.out]; exact if_pos ⟨HCk.out, hE⟩)
          have s2 : ((strOfNums (encL acc)).toList == (strOfNums b).toList) = true := by rw [hE]; simp
          have s3 : (strOfNums (encL acc)).toList = (strOfNums b).toList := by rw [hE]
          clear hE
          go_upto_region 21 with (fail)
          · exfalso
            rename_i h9
            rw [s2] at h9
            cases h9
          · go_wp2
            go_ret2
            exact ⟨by rw [HR0.out]; exact ⟨_, rfl⟩, HW2.out⟩
        · have HR0 := Aside0.mk (show R = none by rw [HRe.out]; exact if_neg (fun h => hE h.2))
          have hne := str_ne (isB_encL HA.out.byt) HBy.out hE
          have s2 : ((strOfNums (encL acc)).toList == (strOfNums b).toList) = false := beq_eq_false_iff_ne.2 (fun h => hne (by rw [ByteArray.toList_eq, ByteArray.toList_eq] at h; exact OWf.ba_ext h))
          have s3 : ¬ (strOfNums (encL acc)).toList = (strOfNums b).toList := fun h => hne (by rw [ByteArray.toList_eq, ByteArray.toList_eq] at h; exact OWf.ba_ext h)
          clear hE hne
          go_upto_region 21 with (fail)
          · go_ret2
            exact ⟨by rw [HR0.out]; rfl, HW2.out⟩
          · exfalso
            rename_i h9 _ _
            rw [s2] at h9
            cases h9
      · have HR0 := Aside0.mk (show R = none by rw [HRe.out]; exact if_neg (fun h => hck h.1))
        rw [show decide (checkL acc = none) = false from decide_eq_false hck] at HFo
        clear hck
        go_upto_region 19 with (fail)
        refine start_ (n := 11) (S := fun w' => True) (ds := []) #[ff,ff,ff,ff,ff,ff,ff,ff,ff,ff,ff] (by kernel_rfl) rfl rfl trivial (fun hHeld => ?_)
        generalize wr.drew = u0 at HBd hHeld ⊢
        refine pure_ (i := 0) (N := some 129) (v := ?_) (a' := ?_) #[tt,ff,ff,ff,ff,ff,ff,ff,ff,ff,ff] rfl rfl (by kernel_rfl) (fun _ _ _ h => h) (Or.inl ⟨by rfl, ?_⟩) ?_ ?_
        rotate_left
        · intro w'
          go_simp
          with_reducible rfl
        rotate_left
        · simp only [Act.put, pkA, pkB, pkC, i64_w, i32_w]
          rfl
        refine one_ (i := 1) (N := some 130) #[tt,tt,ff,ff,ff,ff,ff,ff,ff,ff,ff] rfl rfl (by kernel_rfl) (by decide) (fun K hK => ?_)
        refine goes_ Tryz.func19 (by kernel_rfl) rfl #[.slice A5 acc.length c5] (by rfl) rfl rfl (by simp only [List.map_toArray, List.map_cons, List.map_nil]; rfl) ?_
        with_reducible refine (HFo.out u0 HBd.out).mono ?_
        rintro e u1 ⟨rfl, hb⟩
        refine ⟨_, rfl, ?_⟩
        have HB1 := Aside0.mk (HBd.out.trans (hb.mono HBd.out.size))
        clear hb
        refine hK.out _ _ trivial (fun hHeld => ?_)
        clear hK K
        refine norm_ (a' := ?_) ?_ ?_
        rotate_left
        · show Act.put _ (some 130) _ = _
          simp only [Act.put, pkA, pkB, pkC, i64_w, i32_w]
          rfl
        refine pure_ (i := 2) (N := some 131) (v := ?_) (a' := ?_) #[tt,tt,tt,ff,ff,ff,ff,ff,ff,ff,ff] rfl rfl (by kernel_rfl) (fun _ _ _ h => h) (Or.inl ⟨by rfl, ?_⟩) ?_ ?_
        rotate_left
        · intro w'
          go_simp
          with_reducible rfl
        rotate_left
        · simp only [Act.put, pkA, pkB, pkC, i64_w, i32_w]
          rfl
        refine pure_ (i := 3) (N := some 132) (v := ?_) (a' := ?_) #[tt,tt,tt,tt,ff,ff,ff,ff,ff,ff,ff] rfl rfl (by kernel_rfl) (fun _ _ _ h => h) (Or.inl ⟨by rfl, ?_⟩) ?_ ?_
        rotate_left
        · intro w'
          go_simp
          with_reducible rfl
        rotate_left
        · simp only [Act.put, pkA, pkB, pkC, i64_w, i32_w]
          rfl
        refine pure_ (i := 4) (N := some 133) (v := undef) (a' := ?_) #[tt,tt,tt,tt,tt,ff,ff,ff,ff,ff,ff] rfl rfl (by kernel_rfl) (fun _ _ _ h => h) (Or.inr ⟨by rfl, rfl⟩) ?_ ?_
        rotate_left
        · simp only [Act.put, pkA, pkB, pkC, i64_w, i32_w]
          rfl
        refine pure_ (i := 5) (N := some 134) (v := undef) (a' := ?_) #[tt,tt,tt,tt,tt,tt,ff,ff,ff,ff,ff] rfl rfl (by kernel_rfl) (fun _ _ _ h => h) (Or.inr ⟨by rfl, rfl⟩) ?_ ?_
        rotate_left
        · simp only [Act.put, pkA, pkB, pkC, i64_w, i32_w]
          rfl
        refine pure_ (i := 6) (N := some 135) (v := undef) (a' := ?_) #[tt,tt,tt,tt,tt,tt,tt,ff,ff,ff,ff] rfl rfl (by kernel_rfl) (fun _ _ _ h => h) (Or.inr ⟨by rfl, rfl⟩) ?_ ?_
        rotate_left
        · simp only [Act.put, pkA, pkB, pkC, i64_w, i32_w]
          rfl
        refine pure_ (i := 7) (N := some 136) (v := undef) (a' := ?_) #[tt,tt,tt,tt,tt,tt,tt,tt,ff,ff,ff] rfl rfl (by kernel_rfl) (fun _ _ _ h => h) (Or.inr ⟨by rfl, rfl⟩) ?_ ?_
        rotate_left
        · simp only [Act.put, pkA, pkB, pkC, i64_w, i32_w]
          rfl
        refine pure_ (i := 8) (N := some 137) (v := undef) (a' := ?_) #[tt,tt,tt,tt,tt,tt,tt,tt,tt,ff,ff] rfl rfl (by kernel_rfl) (fun _ _ _ h => h) (Or.inr ⟨by rfl, rfl⟩) ?_ ?_
        rotate_left
        · simp only [Act.put, pkA, pkB, pkC, i64_w, i32_w]
          rfl
        refine pure_ (i := 9) (N := some 138) (v := undef) (a' := ?_) #[tt,tt,tt,tt,tt,tt,tt,tt,tt,tt,ff] rfl rfl (by kernel_rfl) (fun _ _ _ h => h) (Or.inr ⟨by rfl, rfl⟩) ?_ ?_
        rotate_left
        · simp only [Act.put, pkA, pkB, pkC, i64_w, i32_w]
          rfl
        refine pure_ (i := 10) (N := some 139) (v := ?_) (a' := ?_) #[tt,tt,tt,tt,tt,tt,tt,tt,tt,tt,tt] rfl rfl (by kernel_rfl) (fun _ _ _ h => h) (Or.inl ⟨by rfl, ?_⟩) ?_ ?_
        rotate_left
        · intro w'
          go_simp
          with_reducible rfl
        rotate_left
        · simp only [Act.put, pkA, pkB, pkC, i64_w, i32_w]
          rfl
        refine done_ (by kernel_rfl) ?_
        go_wp2
        go_ret2
        exact ⟨by rw [HR0.out]; rfl, HA.out.bel.trans (HB1.out.mono HA.out.bel.size)⟩
end Go.Proofs.YtpcfnkmljchiiaaGreatDoor.ORo
