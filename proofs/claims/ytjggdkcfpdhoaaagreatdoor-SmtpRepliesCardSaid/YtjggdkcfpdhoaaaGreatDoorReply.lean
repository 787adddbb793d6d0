/- smtp.Reply: a reply's text. -/
import Derived.Test.YtjggdkcfpdhoaaaGreatDoorBld
import Derived.Test.YtjggdkcfpdhoaaaGreatDoorBase
import Derived.Lib.LaidTab
namespace Go.Proofs.YtjggdkcfpdhoaaaGreatDoor.Reply
open Go Go.RowKit Go.Proofs.YtjggdkcfpdhoaaaGreatDoorW.PrintWords Go.Proofs.YtjggdkcfpdhoaaaGreatDoor.Take Go.Proofs.YtjggdkcfpdhoaaaGreatDoor.Bld
set_option linter.unusedVariables false
set_option linter.unusedSimpArgs false
abbrev IsB (B b : Nat) (l : List UInt8) (w : World) : Prop := Lib.IsBuilder 59 5 B b (Lib.byteCells l) w
theorem builderAt_below {B b : Nat} {p : Value} {bs : List Value} {w W : World} (h : Lib.BuilderAt 59 5 B b p bs w) (hb : Below w.heap.size w W) : Lib.BuilderAt 59 5 B b p bs W := by
  have hlt := h.lt
  obtain ⟨hB, v, hk, hown, hne⟩ := h
  exact ⟨hB, v, (hb.block b hlt).trans hk, hown.kept (row := none) ⟨hb.os, hb.tape, hb.output, hb.size, fun k hk _ => hb.block k hk⟩ (Decidable.em _ |>.imp id id), hne⟩
theorem isB_below {B b : Nat} {l : List UInt8} {w W : World} (h : IsB B b l w) (hb : Below w.heap.size w W) : IsB B b l W := h.imp (fun h => builderAt_below h hb) (fun h => builderAt_below h hb)
theorem itoa_below {w1 w2 : World} (h : ∃ k os, w2 = Go.Sort.grow (w1.drewN k) os) : Below w1.heap.size w1 w2 := by
  obtain ⟨k, os, rfl⟩ := h
  exact ⟨rfl, rfl, rfl, by show w1.heap.size ≤ (w1.heap ++ os).size; simp, fun i hi => by show (w1.heap ++ os)[i]? = w1.heap[i]?; exact Array.getElem?_append_left hi⟩
def crlf : ByteArray := ⟨#[13, 10]⟩
/-- One line of a reply. -/
def lineB (code : Int) (last : Bool) (l : ByteArray) : ByteArray := (((⟨(Lib.itoa code).toArray⟩ : ByteArray) ++ (if last = true then ⟨#[32]⟩ else ⟨#[45]⟩)) ++ l) ++ crlf
/-- The first k lines. -/
def accR (code : Int) (ls : List ByteArray) : Nat → List UInt8
  | 0 => []
  | k + 1 => accR code ls k ++ (lineB code (decide (k + 1 = ls.length)) (ls.getD k ByteArray.empty)).data.toList
def replyB (code : Int) (ls : List ByteArray) : ByteArray := ⟨(accR code ls ls.length).toArray⟩
def TabW (W : World) : Prop := Lib.TabIs Tryz.prog W "internal/strconv.uint64pow10" .u64 Lib.pow10Tab
/-- What Reply meets: the lines in a row, the sentinel, the library's table. -/
structure RW (w : World) (b o : Nat) (ls : List ByteArray) (ev : Value) (W : World) : Prop where
  cell : ∀ j, j < ls.length → W.cell? ⟨b, o + j, none⟩ = some (.string (ls.getD j ByteArray.empty))
  e : W.cell? ⟨1, 0, none⟩ = some ev
  tab : TabW W
  bel : Below w.heap.size w W
theorem tab_global : Tryz.prog.globalNamed "internal/strconv.uint64pow10" = some 14 := by kernel_rfl
theorem tab_lt {W : World} (h : TabW W) : 14 < W.heap.size := by
  unfold TabW Lib.TabIs World.var? at h
  rw [tab_global] at h
  simp only [Option.bind_some] at h
  rcases Nat.lt_or_ge 14 W.heap.size with h' | h'
  · exact h'
  · rw [Array.getElem?_eq_none h'] at h; cases h
theorem tab_below {W W2 : World} (h : TabW W) (hb : Below W.heap.size W W2) : TabW W2 := by
  unfold TabW Lib.TabIs World.var? at h ⊢
  rw [tab_global] at h ⊢
  simp only [Option.bind_some] at h ⊢
  have hlt : 14 < W.heap.size := by
    rcases Nat.lt_or_ge 14 W.heap.size with h' | h'
    · exact h'
    · rw [Array.getElem?_eq_none h'] at h; cases h
  rw [hb.block _ hlt]
  exact h
theorem RW.below {w W W2 : World} {b o : Nat} {ls : List ByteArray} {ev : Value} (h : RW w b o ls ev W) (hb : Below W.heap.size W W2) : RW w b o ls ev W2 :=
  ⟨fun j hj => (hb.cell (p := ⟨b, o + j, none⟩) (World.block_lt_of_cell? W _ (h.cell j hj))).trans (h.cell j hj), (hb.cell (p := ⟨1, 0, none⟩) (World.block_lt_of_cell? W _ h.e)).trans h.e, tab_below h.tab hb, h.bel.trans (hb.mono h.bel.size)⟩
/-- A call that writes the builder (a block of this call's own) leaves it so. -/
theorem rw_own {w W W2 : World} {b o : Nat} {ls : List ByteArray} {ev : Value} (h : RW w b o ls ev W) (hb : Below w.heap.size W W2) (hlt : b < w.heap.size := by omega) (hg : 1 < w.heap.size := by omega) (ht : 14 < w.heap.size := by omega) : RW w b o ls ev W2 :=
  ⟨fun j hj => (hb.cell (p := ⟨b, o + j, none⟩) hlt).trans (h.cell j hj), (hb.cell (p := ⟨1, 0, none⟩) hg).trans h.e, by
    have h2 := h.tab
    unfold TabW Lib.TabIs World.var? at h2 ⊢
    rw [tab_global] at h2 ⊢
    simp only [Option.bind_some] at h2 ⊢
    rw [hb.block _ ht]
    exact h2, h.bel.trans hb⟩
theorem accR_size (code : Int) (ls : List ByteArray) (hi : (Lib.itoa code).length ≤ 20) (hsz : ∀ l ∈ ls, l.size ≤ 1000) : ∀ k, k ≤ ls.length → (accR code ls k).length ≤ k * 1100 := by
  intro k
  induction k with
  | zero => intro _; exact Nat.zero_le _
  | succ k ih =>
    intro hk
    have h1 := ih (by omega)
    have h2 : (ls.getD k ByteArray.empty).size ≤ 1000 := by
      rw [List.getD_eq_getElem?_getD, List.getElem?_eq_getElem (by omega)]
      exact hsz _ (List.getElem_mem _)
    have h3 : (lineB code (decide (k + 1 = ls.length)) (ls.getD k ByteArray.empty)).data.toList.length ≤ 1100 := by
      rw [data_length]
      simp only [lineB, ByteArray.size_append]
      have e1 : (⟨(Lib.itoa code).toArray⟩ : ByteArray).size = (Lib.itoa code).length := by show (Lib.itoa code).toArray.size = _; simp
      have e2 : (if (decide (k + 1 = ls.length)) = true then (⟨#[32]⟩ : ByteArray) else ⟨#[45]⟩).size = 1 := by split <;> rfl
      have e3 : crlf.size = 2 := rfl
      rw [e1, e2, e3]
      omega
    rw [accR, List.length_append]
    omega
set_option maxRecDepth 100000 in
set_option maxHeartbeats 4000000 in
theorem reply_calls (code : Int) (hc1 : 100 ≤ code) (hc2 : code ≤ 999) (hi : (Lib.itoa code).length ≤ 20) (ls : List ByteArray) (h1 : 1 ≤ ls.length) (h100 : ls.length ≤ 100) (hsz : ∀ l ∈ ls, l.size ≤ 1000) (b o cp : Nat) (ev : Value) (has : Nat → Bool)
    (hCA : ∀ j, j < ls.length → ∀ W, Calls Tryz.prog 26 #[.string (ls.getD j ByteArray.empty), .string ⟨#[13, 10]⟩] W fun e w' => e = .returned (.bool (has j)) ∧ Below W.heap.size W w') (w : World) (hRW : RW w b o ls ev w) :
    Calls Tryz.prog 9 #[.int .i64 code, .slice (some ⟨b, o, none⟩) ls.length cp] w fun e w' =>
      e = .returned (if (List.range ls.length).any has = true then .tuple #[.string ⟨#[]⟩, ev] else .tuple #[.string (replyB code ls), .nilIface]) ∧ Below w.heap.size w w' := by
  have HCA := Aside0.mk hCA
  have HRW := Aside0.mk hRW
  have hlb : b < w.heap.size := World.block_lt_of_cell? w _ (hRW.cell 0 (by omega))
  have hlg : 1 < w.heap.size := World.block_lt_of_cell? w _ hRW.e
  have hlt : 14 < w.heap.size := tab_lt hRW.tab
  have HLB := Aside0.mk hlb
  have HLG := Aside0.mk hlg
  have HLT := Aside0.mk hlt
  clear hlb hlg hlt
  have HSZ := Aside0.mk (accR_size code ls hi hsz)
  have HS := Aside0.mk hsz
  obtain ⟨r, hr⟩ : ∃ r : Value, r = (if (List.range ls.length).any has = true then .tuple #[.string ⟨#[]⟩, ev] else .tuple #[.string (replyB code ls), .nilIface]) := ⟨_, rfl⟩
  rw [← hr]
  have HR := Aside0.mk hr
  obtain ⟨n, hn⟩ : ∃ n, n = ls.length := ⟨_, rfl⟩
  rw [← hn] at h1 h100 ⊢
  have HN := Aside0.mk hn
  have HI := Aside0.mk hi
  clear hr hCA hRW hsz hn hi
  have t1 : decide (code < 100) = false := decide_eq_false (by omega)
  have t2 : decide (999 < code) = false := decide_eq_false (by omega)
  have t3 : ((n : Int) == 0) = false := by rw [beq_eq_false_iff_ne]; omega
  go_enter Tryz.func9, Tryz.ntmps9
  go_wp2
  have HIB := Aside0.mk (show IsB w.heap.size w.heap.size [] (w.alloc (Obj.cells #[.pointer none, .slice none 0 0] 59)) from Lib.fresh_isBuilder _ _ w)
  have HRW0 := Aside0.mk (HRW.out.below ((Below.refl _ w).alloc (Nat.le_refl _) (Obj.cells #[.pointer none, .slice none 0 0] 59)))
  go_loopw [23] (fun i wr => ∃ k : Nat, k ≤ n ∧ i = .int .i64 k ∧ Aside0 (RW w b o ls ev wr) ∧ Aside0 (IsB w.heap.size w.heap.size (accR code ls k) wr) ∧ Aside0 ((List.range k).any has = false)) (fun i _ => n - (intOf i).toNat)
  case atStart => exact ⟨0, Nat.zero_le _, rfl, HRW0, HIB, ⟨rfl⟩⟩
  case round =>
    clear HRW HRW0 HIB
    obtain ⟨k, hk, rfl, HRW, HIB, HAN⟩ := hrel
    by_cases hlt : k < n
    · have hcell := HRW.out.cell k (by rw [← HN.out]; exact hlt)
      have he := HRW.out.e
      have HCK := Aside0.mk (HCA.out k (by rw [← HN.out]; exact hlt))
      have hlz : (ls.getD k ByteArray.empty).size ≤ 1000 := by
        rw [List.getD_eq_getElem?_getD, List.getElem?_eq_getElem (by rw [← HN.out]; exact hlt)]
        exact HS.out _ (List.getElem_mem _)
      have HACC := Aside0.mk (show accR code ls (k + 1) = accR code ls k ++ (lineB code (decide (k + 1 = ls.length)) (ls.getD k ByteArray.empty)).data.toList from rfl)
      rw [← HN.out] at HACC
      obtain ⟨l, hl⟩ : ∃ x, x = ls.getD k ByteArray.empty := ⟨_, rfl⟩
      rw [← hl] at hcell HCK hlz HACC
      have hany : (List.range (k + 1)).any has = has k := by rw [List.range_succ, List.any_append, HAN.out, Bool.false_or]; simp
      have HANY := Aside0.mk hany
      clear hl hany
      have t4 : decide ((k : Int) < (n : Int)) = true := decide_eq_true (by omega)
      have t5 : wrap64 ((n : Int) - 1) = n - 1 := by unfold wrap64; omega
      cases hh : has k with
      | true =>
        rw [hh] at HCK
        have hr1 : r = .tuple #[.string ⟨#[]⟩, ev] := by
          rw [HR.out, if_pos]
          rw [List.any_eq_true]
          exact ⟨k, by rw [List.mem_range, ← HN.out]; exact hlt, hh⟩
        clear HR hh
        have HR1 := Aside0.mk hr1
        clear hr1
        go_wp2_with (go_at_call 26; refine (HCK.out _).mono ?_; rintro e w1 ⟨rfl, hb1⟩; have HRW1 := Aside0.mk (HRW.out.below hb1); clear hb1; have he1 := HRW1.out.e)
        go_region
        go_wp2
        refine bodyPost_ret (v := .tuple #[.string ⟨#[]⟩, ev]) (by simp [results, Tryz.results9, go_sem]) rfl ⟨by rw [HR1.out], HRW1.out.bel.drew⟩
      | false =>
        rw [hh] at HCK HANY
        have hbt : ∀ q : Bool, decide (k + 1 = n) = q → Aside0 (accR code ls (k + 1) = accR code ls k ++ (lineB code q l).data.toList) := fun q hq => ⟨by rw [HACC.out, hq]⟩
        have HLEN := Aside0.mk (HSZ.out k (by rw [← HN.out]; omega))
        have hls : ∀ q : Bool, (lineB code q l).size ≤ 2000 := fun q => by
          simp only [lineB, ByteArray.size_append]
          have e1 : (⟨(Lib.itoa code).toArray⟩ : ByteArray).size = (Lib.itoa code).length := by show (Lib.itoa code).toArray.size = _; simp
          have e2 : (if q = true then (⟨#[32]⟩ : ByteArray) else ⟨#[45]⟩).size = 1 := by split <;> rfl
          have e3 : crlf.size = 2 := rfl
          have := HI.out
          rw [e1, e2, e3]
          omega
        have f1 : ¬ 9223372036854775807 < (Lib.itoa code).length + 1 := by have := HI.out; omega
        have f2 : ¬ 9223372036854775807 < (Lib.itoa code).length + 1 + l.size := by have := HI.out; omega
        have f3 : ¬ 9223372036854775807 < (Lib.itoa code).length + 1 + l.size + 2 := by have := HI.out; omega
        by_cases hkn : k + 1 = n
        · skip
          have HB := hbt true (decide_eq_true hkn)
          have HLS := Aside0.mk (hls true)
          have t6 : ((k : Int) == (n : Int) - 1) = true := by rw [beq_iff_eq]; omega
          clear hbt hls HACC
          go_wp2_with (first
            | (go_at_call 26; refine (HCK.out _).mono ?_; rintro e w1 ⟨rfl, hb1⟩; have HRW1 := Aside0.mk (HRW.out.below hb1); have HIB1 := Aside0.mk (isB_below HIB.out hb1); clear hb1)
            | (go_at_call 28; refine (Tryz.strconv_Itoa code (by omega) (by omega) _ HRW1.out.tab).mono ?_; rintro e w2 ⟨rfl, hg2⟩; have hb2 := itoa_below hg2; have HRW2 := Aside0.mk (HRW1.out.below hb2); have HIB2 := Aside0.mk (isB_below HIB1.out hb2); clear hb2 hg2)
            | (go_at_call 27; refine (write_calls w.heap.size w.heap.size _ (lineB code true l) _ HIB2.out (by have := HLEN.out; have := HLS.out; rw [Lib.byteCells_length]; omega) HRW2.out.bel.size).mono ?_; rintro e w3 ⟨rfl, hbd, hb3⟩; have HBD := Aside0.mk hbd; have HRW3 := Aside0.mk (rw_own HRW2.out hb3 HLB.out HLG.out HLT.out); clear hbd hb3))
          go_roundw
          case rel => exact ⟨k + 1, by omega, by go_num, HRW3, ⟨by rw [IsB, HB.out, Lib.byteCells_append]; exact .inr HBD.out⟩, ⟨HANY.out⟩⟩
          case measure => simp [intOf]; omega
        · skip
          have HB := hbt false (decide_eq_false hkn)
          have HLS := Aside0.mk (hls false)
          have t6 : ((k : Int) == (n : Int) - 1) = false := by rw [beq_eq_false_iff_ne]; omega
          clear hbt hls HACC
          go_wp2_with (first
            | (go_at_call 26; refine (HCK.out _).mono ?_; rintro e w1 ⟨rfl, hb1⟩; have HRW1 := Aside0.mk (HRW.out.below hb1); have HIB1 := Aside0.mk (isB_below HIB.out hb1); clear hb1)
            | (go_at_call 28; refine (Tryz.strconv_Itoa code (by omega) (by omega) _ HRW1.out.tab).mono ?_; rintro e w2 ⟨rfl, hg2⟩; have hb2 := itoa_below hg2; have HRW2 := Aside0.mk (HRW1.out.below hb2); have HIB2 := Aside0.mk (isB_below HIB1.out hb2); clear hb2 hg2)
            | (go_at_call 27; refine (write_calls w.heap.size w.heap.size _ (lineB code false l) _ HIB2.out (by have := HLEN.out; have := HLS.out; rw [Lib.byteCells_length]; omega) HRW2.out.bel.size).mono ?_; rintro e w3 ⟨rfl, hbd, hb3⟩; have HBD := Aside0.mk hbd; have HRW3 := Aside0.mk (rw_own HRW2.out hb3 HLB.out HLG.out HLT.out); clear hbd hb3))
          go_roundw
          case rel => exact ⟨k + 1, by omega, by go_num, HRW3, ⟨by rw [IsB, HB.out, Lib.byteCells_append]; exact .inr HBD.out⟩, ⟨HANY.out⟩⟩
          case measure => simp [intOf]; omega
    · have hks : k = n := by omega
      subst hks
      have t4 : decide ((k : Int) < (k : Int)) = false := decide_eq_false (by omega)
      have hr1 : r = .tuple #[.string ⟨(accR code ls k).toArray⟩, .nilIface] := by
        rw [HR.out, if_neg (by rw [← HN.out, HAN.out]; simp), replyB, ← HN.out]
      have HR1 := Aside0.mk hr1
      clear hr1 HR
      go_wp2_with (go_at_call 29; refine (Tryz.Builder_String_any w.heap.size w.heap.size (accR code ls k) _ HIB.out HRW.out.bel.size).mono ?_; rintro e w3 ⟨rfl, hb3⟩; have HRW3 := Aside0.mk (HRW.out.bel.trans hb3); clear hb3)
      refine bodyPost_ret (v := .tuple #[.string ⟨(accR code ls k).toArray⟩, .nilIface]) (by simp [results, Tryz.results9, go_sem]) rfl ⟨by rw [HR1.out], HRW3.out⟩
end Go.Proofs.YtjggdkcfpdhoaaaGreatDoor.Reply
