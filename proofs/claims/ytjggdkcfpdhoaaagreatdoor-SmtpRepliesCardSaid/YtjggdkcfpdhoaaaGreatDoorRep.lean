/- smtp.Reply at whatever code and lines. -/
import Derived.Test.YtjggdkcfpdhoaaaGreatDoorReply
import Derived.Test.YtjggdkcfpdhoaaaGreatDoorNL
import Derived.Test.YtjggdkcfpdhoaaaGreatDoorOpenC
import Derived.Test.YtjggdkcfpdhoaaaGreatDoorIs
namespace Go.Proofs.YtjggdkcfpdhoaaaGreatDoor.Rep
open Go Go.RowKit Go.Proofs.YtjggdkcfpdhoaaaGreatDoorW.PrintWords Go.Proofs.YtjggdkcfpdhoaaaGreatDoor.Dots Go.Proofs.YtjggdkcfpdhoaaaGreatDoor.Bld Go.Proofs.YtjggdkcfpdhoaaaGreatDoor.Reply Go.Proofs.YtjggdkcfpdhoaaaGreatDoor.NL Go.Proofs.YtjggdkcfpdhoaaaGreatDoor.OpenC
set_option linter.unusedVariables false
set_option linter.unusedSimpArgs false
theorem itoa_len (code : Int) (h0 : 0 ≤ code) (h9 : code ≤ 999) : (Lib.itoa code).length ≤ 3 := by
  obtain ⟨m, rfl⟩ := Int.eq_ofNat_of_zero_le h0
  rw [Lib.itoa, if_neg (by omega), Lib.decDigits_length]
  have e : ((m : Nat) : Int).toNat = m := by omega
  rw [e]
  by_cases h1 : m < 10
  · rw [Lib.nDigits_small h1]; omega
  · rw [Lib.nDigits_big h1]
    by_cases h2 : m / 10 < 10
    · rw [Lib.nDigits_small h2]; omega
    · rw [Lib.nDigits_big h2, Lib.nDigits_small (by omega)]
      omega
set_option maxRecDepth 100000 in
set_option maxHeartbeats 4000000 in
/-- Without lines: one empty line. -/
theorem reply_nil (code : Int) (hc1 : 100 ≤ code) (hc2 : code ≤ 999) (A : Option Addr) (cp : Nat) (ev : Value) (w : World) (hE : w.cell? ⟨1, 0, none⟩ = some ev) (hT : TabW w) :
    Calls Tryz.prog 9 #[.int .i64 code, .slice A 0 cp] w fun e w' => e = .returned (.tuple #[.string (replyB code [⟨#[]⟩]), .nilIface]) ∧ Below w.heap.size w w' := by
  have hi : (Lib.itoa code).length ≤ 20 := by have := itoa_len code (by omega) hc2; omega
  have HI := Aside0.mk hi
  obtain ⟨r, hr⟩ : ∃ r, r = replyB code [⟨#[]⟩] := ⟨_, rfl⟩
  rw [← hr]
  have HR := Aside0.mk hr
  have b0 : Below w.heap.size w (w.alloc (Obj.cells #[.string ⟨#[]⟩] 9)) := (Below.refl _ w).alloc (Nat.le_refl _) _
  have hrw : RW (w.alloc (Obj.cells #[.string ⟨#[]⟩] 9)) w.heap.size 0 [⟨#[]⟩] ev (w.alloc (Obj.cells #[.string ⟨#[]⟩] 9)) :=
    ⟨fun j hj => by
      obtain rfl : j = 0 := by simp at hj; omega
      exact World.cell?_alloc_at _ _ _ _ rfl, (b0.cell (p := ⟨1, 0, none⟩) (World.block_lt_of_cell? w _ hE)).trans hE, tab_below hT b0, Below.refl _ _⟩
  have hg1 : 1 < (w.alloc (Obj.cells #[.string ⟨#[]⟩] 9)).heap.size := World.block_lt_of_cell? _ _ hrw.e
  have hg2 : 14 < (w.alloc (Obj.cells #[.string ⟨#[]⟩] 9)).heap.size := tab_lt hrw.tab
  have hg3 : w.heap.size < (w.alloc (Obj.cells #[.string ⟨#[]⟩] 9)).heap.size := by rw [World.size_alloc]; omega
  have HB0 := Aside0.mk b0
  have HRW := Aside0.mk hrw
  have HG1 := Aside0.mk hg1
  have HG2 := Aside0.mk hg2
  have HG3 := Aside0.mk hg3
  have HCA := Aside0.mk (fun W => nl_calls ⟨#[]⟩ (by decide) W)
  have hnl : hasNL ⟨#[]⟩ = false := rfl
  rw [hnl] at HCA
  clear hr b0 hrw hg1 hg2 hg3 hE hT hnl hi
  have t1 : decide (code < 100) = false := decide_eq_false (by omega)
  have t2 : decide (999 < code) = false := decide_eq_false (by omega)
  go_enter Tryz.func9, Tryz.ntmps9
  go_wp2
  obtain ⟨w1, hw1⟩ : ∃ x, x = w.alloc (Obj.cells #[.string ⟨#[]⟩] 9) := ⟨_, rfl⟩
  have hz1 : w1.heap.size = w.heap.size + 1 := by rw [hw1, World.size_alloc]
  obtain ⟨bb, hbb⟩ : ∃ x, x = w.heap.size := ⟨_, rfl⟩
  rw [← hbb] at HRW HG3
  rw [← hw1] at HB0 HRW HG1 HG2 HG3 ⊢
  have HIB := Aside0.mk (show IsB w1.heap.size w1.heap.size [] (w1.alloc (Obj.cells #[.pointer none, .slice none 0 0] 59)) from Lib.fresh_isBuilder _ _ w1)
  have HRW0 := Aside0.mk (HRW.out.below ((Below.refl _ w1).alloc (Nat.le_refl _) (Obj.cells #[.pointer none, .slice none 0 0] 59)))
  obtain ⟨K, hK⟩ : ∃ x, x = w1.heap.size := ⟨_, rfl⟩
  have hK2 : w.heap.size + 1 = K := by rw [hK, hz1]
  rw [hK2]
  have hbK : w.heap.size = bb := hbb.symm
  rw [hbK]
  rw [← hK] at HIB HG1 HG2 HG3
  have HK := Aside0.mk hK
  clear hw1 hz1 hK2 hbK hbb hK
  obtain ⟨l, hl⟩ : ∃ l : ByteArray, l = ⟨#[]⟩ := ⟨_, rfl⟩
  rw [← hl] at HR HRW0 HCA
  have hlz : l.size = 0 := by rw [hl]; rfl
  clear hl HRW
  have HL1 := Aside0.mk (show accR code [l] 1 = accR code [l] 0 ++ (lineB code true l).data.toList from rfl)
  go_loopw [23] (fun i wr => ∃ k : Nat, k ≤ 1 ∧ i = .int .i64 k ∧ Aside0 (RW w1 bb 0 [l] ev wr) ∧ Aside0 (IsB K K (accR code [l] k) wr)) (fun i _ => 1 - (intOf i).toNat)
  case atStart => exact ⟨0, by omega, rfl, HRW0, HIB⟩
  case round =>
    clear HRW0 HIB
    obtain ⟨k, hk, rfl, HRW, HIB⟩ := hrel
    by_cases hlt : k = 0
    · subst hlt
      have hcell : wr.cell? ⟨bb, 0, none⟩ = some (.string l) := HRW.out.cell 0 (by simp)
      have f1 : ¬ 9223372036854775807 < (Lib.itoa code).length + 1 := by have := HI.out; omega
      have f2 : ¬ 9223372036854775807 < (Lib.itoa code).length + 1 + l.size := by have := HI.out; omega
      have f3 : ¬ 9223372036854775807 < (Lib.itoa code).length + 1 + l.size + 2 := by have := HI.out; omega
      have HLS : Aside0 ((lineB code true l).size ≤ 2000) := ⟨by
        rw [lineB, ByteArray.size_append, ByteArray.size_append, ByteArray.size_append]
        have e1 : (⟨(Lib.itoa code).toArray⟩ : ByteArray).size = (Lib.itoa code).length := by show (Lib.itoa code).toArray.size = _; simp
        have e2 : (if true = true then (⟨#[32]⟩ : ByteArray) else ⟨#[45]⟩).size = 1 := rfl
        have e3 : crlf.size = 2 := rfl
        have := HI.out
        rw [e1, e2, e3]
        omega⟩
      clear hlz
      go_wp2_with (first
        | (go_at_call 26; refine (HCA.out _).mono ?_; rintro e w2 ⟨rfl, hb1⟩; have HRW1 := Aside0.mk (HRW.out.below hb1); have HIB1 := Aside0.mk (isB_below HIB.out hb1); clear hb1)
        | (go_at_call 28; refine (Tryz.strconv_Itoa code (by omega) (by omega) _ HRW1.out.tab).mono ?_; rintro e w3 ⟨rfl, hg2⟩; have hb2 := itoa_below hg2; have HRW2 := Aside0.mk (HRW1.out.below hb2); have HIB2 := Aside0.mk (isB_below HIB1.out hb2); clear hb2 hg2)
        | (go_at_call 27; refine (write_calls K K _ (lineB code true l) _ HIB2.out (by have := HLS.out; rw [Lib.byteCells_length]; show 0 + _ ≤ _; omega) (by rw [HK.out]; exact HRW2.out.bel.size)).mono ?_; rintro e w4 ⟨rfl, hbd, hb3⟩; have HBD := Aside0.mk hbd; have HRW3 := Aside0.mk (rw_own HRW2.out (by rw [← HK.out]; exact hb3) (by rw [← HK.out]; exact HG3.out) (by rw [← HK.out]; exact HG1.out) (by rw [← HK.out]; exact HG2.out)); clear hbd hb3))
      go_roundw
      case rel => exact ⟨1, by omega, by go_num, HRW3, ⟨by rw [IsB, HL1.out, Lib.byteCells_append]; exact .inr HBD.out⟩⟩
      case measure => simp [intOf]
    · have hk1 : k = 1 := by omega
      subst hk1
      have HR1 : Aside0 (r = ⟨(accR code [l] 1).toArray⟩) := ⟨HR.out⟩
      go_wp2_with (go_at_call 29; refine (Tryz.Builder_String_any K K (accR code [l] 1) _ HIB.out (by rw [HK.out]; exact HRW.out.bel.size)).mono ?_; rintro e w3 ⟨rfl, hb3⟩; have HRW3 := Aside0.mk (HRW.out.bel.trans (by rw [← HK.out]; exact hb3)); clear hb3)
      refine bodyPost_ret (v := .tuple #[.string ⟨(accR code [l] 1).toArray⟩, .nilIface]) (by simp [results, Tryz.results9, go_sem]) rfl ⟨by rw [HR1.out], HB0.out.trans (HRW3.out.mono HB0.out.size)⟩
/-- A list of texts that came in. -/
def SliceN (A : Option Addr) (l : List ByteArray) (W : World) : Prop := 0 < l.length → ∃ b o : Nat, A = some ⟨b, o, none⟩ ∧ ∀ j, j < l.length → W.cell? ⟨b, o + j, none⟩ = some (.string (l.getD j ByteArray.empty))
theorem SliceN.below {A : Option Addr} {ls : List ByteArray} {W W2 : World} (h : SliceN A ls W) (hb : Below W.heap.size W W2) : SliceN A ls W2 := fun hl => by
  obtain ⟨b, o, e, hc⟩ := h hl
  exact ⟨b, o, e, fun j hj => (hb.cell (p := ⟨b, o + j, none⟩) (World.block_lt_of_cell? W _ (hc j hj))).trans (hc j hj)⟩
def linesR (ls : List ByteArray) : List ByteArray := if ls.isEmpty then [⟨#[]⟩] else ls
/-- What Reply answers. -/
def replyV (e1 e2 : Value) (code : Int) (ls : List ByteArray) : Value :=
  if code < 100 ∨ 999 < code then .tuple #[.string ⟨#[]⟩, e1] else if ls.any hasNL = true then .tuple #[.string ⟨#[]⟩, e2] else .tuple #[.string (replyB code (linesR ls)), .nilIface]
theorem any_range (p : ByteArray → Bool) : ∀ ls : List ByteArray, (List.range ls.length).any (fun j => p (ls.getD j ByteArray.empty)) = ls.any p := by
  intro ls
  rw [Bool.eq_iff_iff, List.any_eq_true, List.any_eq_true]
  constructor
  · rintro ⟨j, hj, h⟩
    have hl := List.mem_range.1 hj
    rw [List.getD_eq_getElem?_getD, List.getElem?_eq_getElem hl] at h
    exact ⟨_, List.getElem_mem hl, h⟩
  · rintro ⟨x, hx, h⟩
    obtain ⟨j, hj, rfl⟩ := List.mem_iff_getElem.1 hx
    refine ⟨j, List.mem_range.2 hj, ?_⟩
    rw [List.getD_eq_getElem?_getD, List.getElem?_eq_getElem hj]
    exact h
set_option maxRecDepth 100000 in
set_option maxHeartbeats 2000000 in
theorem reply_out (code : Int) (h : code < 100 ∨ 999 < code) (A : Option Addr) (n cp : Nat) (t : Nat) (pv : Value) (w : World) (hE : w.cell? ⟨0, 0, none⟩ = some (.iface t pv)) :
    Calls Tryz.prog 9 #[.int .i64 code, .slice A n cp] w fun e w' => e = .returned (.tuple #[.string ⟨#[]⟩, .iface t pv]) ∧ Below w.heap.size w w' := by
  by_cases h1 : code < 100
  · have t1 : decide (code < 100) = true := decide_eq_true h1
    clear h
    go_enter Tryz.func9, Tryz.ntmps9
    go_wp2
    go_region
    all_goals
      go_wp2
      go_ret2
      exact ⟨rfl, (Below.refl _ _).drew⟩
  · have h2 : 999 < code := by omega
    have t1 : decide (code < 100) = false := decide_eq_false h1
    have t2 : decide (999 < code) = true := decide_eq_true h2
    clear h
    go_enter Tryz.func9, Tryz.ntmps9
    go_wp2
    go_region
    all_goals
      go_wp2
      go_ret2
      exact ⟨rfl, (Below.refl _ _).drew⟩
theorem reply_all (code : Int) (ls : List ByteArray) (h100 : ls.length ≤ 100) (hsz : ∀ l ∈ ls, l.size ≤ 1000) (A : Option Addr) (cp : Nat) (t1 : Nat) (pv1 : Value) (ev : Value) (w : World)
    (hE1 : w.cell? ⟨0, 0, none⟩ = some (.iface t1 pv1)) (hE2 : w.cell? ⟨1, 0, none⟩ = some ev) (hT : TabW w) (hS : SliceN A ls w) :
    Calls Tryz.prog 9 #[.int .i64 code, .slice A ls.length cp] w fun e w' => e = .returned (replyV (.iface t1 pv1) ev code ls) ∧ Below w.heap.size w w' := by
  unfold replyV
  by_cases hc : code < 100 ∨ 999 < code
  · rw [if_pos hc]
    exact reply_out code hc A ls.length cp t1 pv1 w hE1
  · rw [if_neg hc]
    cases ls with
    | nil =>
      exact reply_nil code (by omega) (by omega) A cp ev w hE2 hT
    | cons x ls =>
      obtain ⟨b, o, rfl, hcell⟩ := hS (by simp)
      have h := reply_calls code (by omega) (by omega) (by have := itoa_len code (by omega) (by omega); omega) (x :: ls) (by simp) h100 hsz b o cp ev (fun j => hasNL ((x :: ls).getD j ByteArray.empty))
        (fun j hj W => nl_calls _ (by
          have := hsz ((x :: ls).getD j ByteArray.empty) (by rw [List.getD_eq_getElem?_getD, List.getElem?_eq_getElem hj]; exact List.getElem_mem hj)
          omega) W) w ⟨hcell, hE2, hT, Below.refl _ _⟩
      rw [any_range hasNL (x :: ls)] at h
      exact h
end Go.Proofs.YtjggdkcfpdhoaaaGreatDoor.Rep
