/- Steps towards RBoth: ORdb, OOps, OBr. -/
import Derived.Test.YtpcfnkmljchiiaaGreatDoorZ25
set_option linter.unusedVariables false
set_option linter.unusedSimpArgs false
section
/- The reader's numbers: a byte, four bytes. -/
namespace Go.Proofs.YtpcfnkmljchiiaaGreatDoor.ORdb
open Go Go.RowKit Go.Maps Go.WideMaps Go.Proofs.YtpcfnkmljchiiaaGreatDoorW.PrintWords Go.Proofs.YtpcfnkmljchiiaaGreatDoorW.PrintLast Go.Proofs.YtpcfnkmljchiiaaGreatDoorW.PrintMore DPl DAt Go.Proofs.YtpcfnkmljchiiaaGreatDoor.OPl Go.Proofs.YtpcfnkmljchiiaaGreatDoor.OEnc Go.Proofs.YtpcfnkmljchiiaaGreatDoor.OByt Go.Proofs.YtpcfnkmljchiiaaGreatDoor.ORdr
theorem wraps_i64 (n : Int) (h₀ : 0 ≤ n) (h₁ : n < 2 ^ 63) : IntKind.i64.wrap n = n := IntWalk.i64_in n ⟨by omega, by omega⟩
/-- Bytes, the high one first. -/
def numR (l : List Int) : Int := l.foldl (fun n x => n * 256 + x) 0
theorem takeR_B {n : Nat} {l : List Int} {sh : Bool} (h : Lib04.isB l) : Lib04.isB (takeR n l sh).1 ∧ Lib04.isB (takeR n l sh).2.1 := by
  unfold takeR
  split
  · exact ⟨fun x hx => by simp at hx; omega, h⟩
  · exact ⟨Lib04.isB_take h n, Lib04.isB_drop h n⟩
theorem takeR_len {n : Nat} {l : List Int} {sh : Bool} : (takeR n l sh).1.length = if l.length < n then 4 else n := by
  unfold takeR
  split
  · rfl
  · rw [List.length_take]; omega
variable {w0 w : World} {r : Nat} {l : List Int} {sh : Bool}
def byteR (l : List Int) (sh : Bool) : Int := (takeR 1 l sh).1.getD 0 0
set_option maxRecDepth 100000 in
set_option maxHeartbeats 8000000 in
theorem byte_calls (hB : Lib04.isB l) (h : RdAt w0 r l sh w) :
    Calls Tryz.prog 76 #[.pointer (some ⟨r, 0, none⟩)] w fun e w' => e = .returned (.int .i64 (byteR l sh)) ∧ RdAt w0 r (takeR 1 l sh).2.1 (takeR 1 l sh).2.2 w' ∧ But w w' (some r) := by
  have HT := Aside0.mk (take_calls 1 (by omega) h)
  obtain ⟨T, hT⟩ : ∃ T, T = (takeR 1 l sh).1 := ⟨_, rfl⟩
  have hTB : Lib04.isB T := by rw [hT]; exact (takeR_B hB).1
  have hTl : 1 ≤ T.length := by rw [hT, takeR_len]; split <;> omega
  have HV := Aside0.mk (show byteR l sh = T.getD 0 0 by rw [hT]; rfl)
  rw [← hT] at HT
  clear h hB hT
  have hb := Lib04.getD_B hTB 0
  obtain ⟨x, hx⟩ : ∃ x, x = T.getD 0 0 := ⟨_, rfl⟩
  rw [← hx] at hb HV
  have HX := Aside0.mk hx
  have hx0 : 0 ≤ x := hb.1
  have hx1 : x ≤ 255 := hb.2
  rw [HV.out]
  clear hx hTB hb
  go_enter Tryz.func76, Tryz.ntmps76
  have u0 : (0 : Int) < (T.length : Int) := by omega
  go_wp2_with (go_at_call 77; refine HT.out.mono ?_; rintro e w1 ⟨A, c, rfl, hc, hC, hr, hk⟩; have HR1 := Aside0.mk (And.intro hr hk); obtain ⟨ad, rfl, hz⟩ := (readsInt_of.2 (Kd.reads_of_C (d := (0 : Int)) (h1 := fun _ => rfl) hC)).at_ (0 : Int) (by omega) (by omega); have hz2 : w1.cell? ad = some (.int .u8 x) := (by rw [HX.out]; exact hz); clear hc hC hr hk hz)
  go_ret
  exact ⟨rfl, HR1.out⟩
/-- What four bytes are. -/
def fourR (l : List Int) (sh : Bool) : Int := numR (takeR 4 l sh).1
theorem num_next {T : List Int} {k : Nat} {x : Int} (h : T[k]? = some x) : numR (T.take (k + 1)) = numR (T.take k) * 256 + x := by
  unfold numR
  rw [List.take_add_one, h, List.foldl_append]
  rfl
theorem num_le : ∀ (k : Nat) (T : List Int), Lib04.isB T → k ≤ 4 → k ≤ T.length → 0 ≤ numR (T.take k) ∧ numR (T.take k) < 256 ^ k
  | 0, T, _, _, _ => by simp [numR]
  | k + 1, T, hB, hk, hl => by
    have ih := num_le k T hB (by omega) (by omega)
    obtain ⟨x, hx⟩ : ∃ x, T[k]? = some x := ⟨_, List.getElem?_eq_getElem (by omega)⟩
    have hb := hB x (List.mem_of_getElem? hx)
    rw [num_next hx, Int.pow_succ]
    omega
set_option maxRecDepth 100000 in
set_option maxHeartbeats 8000000 in
theorem four_calls (hB : Lib04.isB l) (h : RdAt w0 r l sh w) :
    Calls Tryz.prog 78 #[.pointer (some ⟨r, 0, none⟩)] w fun e w' => e = .returned (.int .i64 (fourR l sh)) ∧ RdAt w0 r (takeR 4 l sh).2.1 (takeR 4 l sh).2.2 w' ∧ But w w' (some r) := by
  have HT := Aside0.mk (take_calls 4 (by omega) h)
  obtain ⟨T, hT⟩ : ∃ T, T = (takeR 4 l sh).1 := ⟨_, rfl⟩
  have hTl : T.length = 4 := by rw [hT, takeR_len]; split <;> rfl
  have HTB := Aside0.mk (show Lib04.isB T by rw [hT]; exact (takeR_B hB).1)
  have HV := Aside0.mk (show fourR l sh = numR (T.take 4) by rw [List.take_of_length_le (by omega), hT]; rfl)
  rw [← hT, hTl] at HT
  clear h hB hT
  rw [HV.out]
  go_enter Tryz.func78, Tryz.ntmps78
  go_upto_region 3 with (go_at_call 77; refine HT.out.mono ?_; rintro e w1 ⟨A, c, rfl, hc, hC, hr, hk⟩; have HR1 := Aside0.mk (And.intro hr hk); have HC1 := Aside0.mk (readsInt_of.2 (Kd.reads_of_C (d := (0 : Int)) (h1 := fun _ => rfl) hC)); clear hc hC hr hk)
  have hT4 : T.length ≤ 4 := by omega
  go_loopw [9, 3] (fun ix nv wx => ∃ k : Nat, k ≤ 4 ∧ ix = .int .i64 k ∧ nv = .int .i64 (numR (T.take k)) ∧ wx = w1) (fun ix _ _ => 4 - (Go.RowKit.intOf ix).toNat)
  case atStart => exact ⟨0, by omega, rfl, rfl, rfl⟩
  case round =>
    obtain ⟨k, hk, rfl, rfl, rfl⟩ := hrel
    by_cases hlt : k < 4
    · have t1 : decide ((k : Int) < 4) = true := decide_eq_true (by omega)
      have t1' : decide (k < 4) = true := decide_eq_true hlt
      obtain ⟨x, hx⟩ : ∃ x, T[k]? = some x := ⟨_, List.getElem?_eq_getElem (by omega)⟩
      have hb := HTB.out x (List.mem_of_getElem? hx)
      have hx0 : 0 ≤ x := hb.1
      have hx1 : x ≤ 255 := hb.2
      obtain ⟨ad, rfl, hz⟩ := HC1.out.at_ (k : Int) (by omega) (by omega)
      have hz2 : wr.cell? (ad.add k) = some (.int .u8 x) := by
        have e : Go.Proofs.YtpcfnkmljchiiaaGreatDoorW.PrintWords.rd T (k : Int) = x := by simp [Go.Proofs.YtpcfnkmljchiiaaGreatDoorW.PrintWords.rd, List.getD_eq_getElem?_getD, hx]
        rw [e] at hz
        exact hz
      have HNx := Aside0.mk (num_next hx)
      have hn := num_le k T HTB.out (by omega) (by omega)
      have hp : (256 : Int) ^ k ≤ 256 ^ 3 := by
        rcases (show k = 0 ∨ k = 1 ∨ k = 2 ∨ k = 3 by omega) with h | h | h | h <;> subst h <;> decide
      obtain ⟨n, hnn⟩ : ∃ n, n = numR (T.take k) := ⟨_, rfl⟩
      rw [← hnn] at hn HNx ⊢
      clear hnn
      have hn0 : 0 ≤ n := hn.1
      have hn1 : n < 16777216 := by have : (256 : Int) ^ 3 = 16777216 := by decide
                                    omega
      have hor : Go.bits .or .i64 (n * 256) x = n * 256 + x := bits_join .i64 63 (by decide) wraps_i64 8 (n * 256) x (by omega) (by omega) (by omega) (by omega) (by omega) (by omega)
      have u0 : (0 : Int) ≤ (k : Int) := by omega
      have u1 : (k : Int) < 4 := by omega
      clear hx hb hz hn hp
      go_wp2
      exact ⟨⟨k + 1, by omega, by simp, by rw [HNx.out], trivial⟩, by simp [Go.RowKit.intOf]; omega⟩
    · have t1 : decide ((k : Int) < 4) = false := decide_eq_false (by omega)
      have t1' : decide (k < 4) = false := decide_eq_false hlt
      obtain rfl : k = 4 := by omega
      go_wp2
      go_ret
      exact ⟨rfl, HR1.out⟩
end Go.Proofs.YtpcfnkmljchiiaaGreatDoor.ORdb
end
section
/- redo.Ops: the change of bytes. -/
namespace Go.Proofs.YtpcfnkmljchiiaaGreatDoor.OOps
open Go Go.RowKit Go.Maps Go.WideMaps Go.Proofs.YtpcfnkmljchiiaaGreatDoorW.PrintWords Go.Proofs.YtpcfnkmljchiiaaGreatDoorW.PrintLast Go.Proofs.YtpcfnkmljchiiaaGreatDoorW.PrintMore DPl DAt DNw Go.Proofs.YtpcfnkmljchiiaaGreatDoor.Is Go.Proofs.YtpcfnkmljchiiaaGreatDoor.OPl Go.Proofs.YtpcfnkmljchiiaaGreatDoor.OChk Go.Proofs.YtpcfnkmljchiiaaGreatDoor.OEnc Go.Proofs.YtpcfnkmljchiiaaGreatDoor.OByt Go.Proofs.YtpcfnkmljchiiaaGreatDoor.ORdr Go.Proofs.YtpcfnkmljchiiaaGreatDoor.ORdb
/-- One operation, taken off a row; what is left, was it short. -/
def opR (l : List Int) (sh : Bool) : Rop × List Int × Bool :=
  let s1 := (takeR 1 l sh).2
  let s2 := (takeR 1 s1.1 s1.2).2
  let s3 := takeR (byteR s1.1 s1.2).toNat s2.1 s2.2
  let s4 := (takeR 4 s3.2.1 s3.2.2).2
  let s5 := (takeR 4 s4.1 s4.2).2
  let s6 := takeR (fourR s4.1 s4.2).toNat s5.1 s5.2
  (⟨byteR l sh, strOfNums s3.1, fourR s3.2.1 s3.2.2, s6.1⟩, s6.2.1, s6.2.2)
/-- So many operations, until it is short. -/
def opsR : Nat → List Int → Bool → List Rop → List Rop × List Int × Bool
  | 0, l, sh, acc => (acc, l, sh)
  | n + 1, l, sh, acc => if sh = true then (acc, l, sh) else opsR n (opR l sh).2.1 (opR l sh).2.2 (acc ++ [(opR l sh).1])
/-- All of a row. -/
def opsP (b : List Int) : List Rop × List Int × Bool := opsR (byteR b false).toNat (takeR 1 b false).2.1 (takeR 1 b false).2.2 []
theorem byteR_le {l : List Int} {sh : Bool} (h : Lib04.isB l) : 0 ≤ byteR l sh ∧ byteR l sh ≤ 255 := Lib04.getD_B (takeR_B h).1 0
theorem fourR_le {l : List Int} {sh : Bool} (h : Lib04.isB l) : 0 ≤ fourR l sh ∧ fourR l sh < 4294967296 := by
  have hl : (takeR 4 l sh).1.length = 4 := by rw [takeR_len]; split <;> rfl
  have := num_le 4 (takeR 4 l sh).1 (takeR_B h).1 (by omega) (by omega)
  rw [List.take_of_length_le (by omega)] at this
  unfold fourR
  have h2 : (256 : Int) ^ 4 = 4294967296 := by decide
  omega
theorem but_set {w W : World} {row : Option Nat} (h : But w W row) {gb : Nat} (hg : w.heap.size ≤ gb) (i : Nat) (u : Value) : But w (W.setCell ⟨gb, i, none⟩ u) row :=
  ⟨by simpa [World.setCell] using h.1, fun k hk hn => (Below.heap_setCell W ⟨gb, i, none⟩ u k (fun e => by have : k = gb := e; omega)).trans (h.2 k hk hn)⟩
theorem but_below {w W V : World} {row : Option Nat} (h : But w W row) (hb : Below W.heap.size W V) : But w V row := h.trans (But.of_below hb)
theorem rd_below {w0 W V : World} {r : Nat} {l : List Int} {sh : Bool} (h : RdAt w0 r l sh W) (hb : Below W.heap.size W V) : RdAt w0 r l sh V := by
  obtain ⟨A, c, h1, h2, h3⟩ := h.ex
  exact ⟨h.bel.trans (hb.mono h.bel.size), h.lo, A, c, (hb.block _ (blk_lt h1)).trans h1, h2, h3⟩
theorem rd_set {w0 W : World} {r : Nat} {l : List Int} {sh : Bool} (h : RdAt w0 r l sh W) {gb : Nat} (hg : w0.heap.size ≤ gb) (hn : gb ≠ r) (i : Nat) (u : Value) : RdAt w0 r l sh (W.setCell ⟨gb, i, none⟩ u) := by
  obtain ⟨A, c, h1, h2, h3⟩ := h.ex
  exact ⟨h.bel.setCell hg _, h.lo, A, c, (Below.heap_setCell W ⟨gb, i, none⟩ u r (fun e => hn (show gb = r from e.symm))).trans h1, h2, h3⟩
/-- What the loop carries. -/
structure PW (w0 : World) (r : Nat) (v : Value) (acc : List Rop) (l : List Int) (sh : Bool) (W : World) : Prop where
  rd : RdAt w0 r l sh W
  row : Kd.R GSix.k62 62 W w0.heap.size (fun _ => True) v acc
  by_ : Lib04.isB l
  len : l.length ≤ 1000000
  each : ∀ o ∈ acc, o.f1.size < 9223372036854775807 ∧ o.f3.length < 9223372036854775807
theorem opE : GSix.k62.E = [5] := rfl
theorem infoOp : (Tryz.prog.info? 62).map (fun i => (i.zero, i.size, i.bytes)) = some (some (.agg #[.int .i64 0, .string ⟨#[]⟩, .int .i64 0, .slice none 0 0]), 4, 56) := by kernel_rfl
/-- The row of operations stays where only the reader has turned. -/
theorem row_but {w0 W V : World} {r : Nat} {v : Value} {acc : List Rop} {cs : Array Value} (h : Kd.R GSix.k62 62 W w0.heap.size (fun _ => True) v acc) (hr : W.heap[r]? = some (.cells cs 125 (0, 0))) (hk : But W V (some r)) :
    Kd.R GSix.k62 62 V w0.heap.size (fun _ => True) v acc :=
  R_row h hk (Not.cells (t := 125) (fun g hg => by obtain rfl := Option.some.inj hg; exact ⟨_, _, hr⟩) (fun q hq e => by subst e; rw [opE] at hq; revert hq; decide))
theorem bytes_apart2 {base : Nat} {w : World} {v u : Value} {l : List Int} {acc : List Rop} (h : Kd.R (Kd.int .u8) 5 w base (fun _ => True) v l) (ho : Kd.R GSix.k62 62 w base (fun _ => True) u acc) : Kd.R (Kd.int .u8) 5 w base (fun k => True ∧ some k ≠ u.ownBlock) v l :=
  Kd.R_mono (Kd.R_bound h) (fun k hk => ⟨trivial, fun e => by
    obtain ⟨_, _, _, q, hq, cells, hc⟩ := hk
    have : q = 5 := (by simpa [Kd.int, Kd.scalar] using hq)
    subst this
    obtain ⟨inner, how⟩ := Kd.R_own ho
    obtain ⟨cs, hc2⟩ := own_typed how k e.symm
    rw [hc] at hc2
    have hc2 := Option.some.inj hc2
    injection hc2 with _ hc2 _
    exact absurd hc2 (by decide)⟩)
theorem rd_rt {w0 W : World} {r : Nat} {l : List Int} {sh : Bool} (h : RdAt w0 r l sh W) : ∃ cs, W.heap[r]? = some (.cells cs 125 (0, 0)) := by
  obtain ⟨A, c, h1, _⟩ := h.ex
  exact ⟨_, h1⟩
/-- Within a round: the reader, what stayed since the round's start, the box of the operation. -/
structure QW (w0 : World) (r : Nat) (wr : World) (gb : Nat) (cs : Array Value) (l : List Int) (sh : Bool) (W : World) : Prop where
  rd : RdAt w0 r l sh W
  but : But wr W (some r)
  box : W.heap[gb]? = some (.cells cs 62 (0, 0))
  lo : wr.heap.size ≤ gb
  ne : gb ≠ r
  lo0 : w0.heap.size ≤ wr.heap.size
variable {w0 wr W V : World} {r gb : Nat} {cs : Array Value} {l l' : List Int} {sh sh' : Bool}
theorem QW.next (h : QW w0 r wr gb cs l sh W) (hr : RdAt w0 r l' sh' V) (hk : But W V (some r)) : QW w0 r wr gb cs l' sh' V :=
  ⟨hr, h.but.trans hk, (hk.2 _ (blk_lt h.box) (fun e => h.ne (Option.some.inj e))).trans h.box, h.lo, h.ne, h.lo0⟩
theorem QW.below (h : QW w0 r wr gb cs l sh W) (hb : Below W.heap.size W V) : QW w0 r wr gb cs l sh V := h.next (rd_below h.rd hb) (But.of_below hb)
theorem QW.put (h : QW w0 r wr gb cs l sh W) (i : Nat) (u : Value) (cs' : Array Value) (hc : cs.setIfInBounds i u = cs') : QW w0 r wr gb cs' l sh (W.setCell ⟨gb, i, none⟩ u) :=
  ⟨rd_set h.rd (Nat.le_trans h.lo0 h.lo) h.ne i u, but_set h.but h.lo i u, blk_put h.box i u hc, h.lo, h.ne, h.lo0⟩
theorem takeR_le {n : Nat} {l : List Int} {sh : Bool} : (takeR n l sh).2.1.length ≤ l.length ∧ (takeR n l sh).1.length ≤ l.length + 4 := by
  unfold takeR
  split
  · simp
  · simp; omega
/-- What Ops answers. -/
def OpsPost (P : List Rop × List Int × Bool) (E : Int → Addr) (w : World) (e : Ending) (w' : World) : Prop :=
  if P.2.2 = false ∧ P.2.1 = [] ∧ checkL P.1 = none then ∃ v, e = .returned (.tuple #[v, .nilIface]) ∧ Kd.R GSix.k62 62 w' w.heap.size (fun _ => True) v P.1 else e = .returned (.tuple #[.slice none 0 0, errV E (some 2)])
set_option maxRecDepth 100000 in
set_option maxHeartbeats 32000000 in
theorem ops_calls (b : List Int) (A : Option Addr) (c : Nat) (B : Nat) (E : Int → Addr) (w : World) (hE : AllAt B w E) (hB : B ≤ w.heap.size) (hr : Kd.C (Kd.int .u8) w A b.length b) (hc : b.length ≤ c) (hb : Lib04.isB b) (hbl : b.length ≤ 1000000) :
    Calls Tryz.prog 21 #[.slice A b.length c] w fun e w' => OpsPost (opsP b) E w e w' ∧ Below w.heap.size w w' := by
  have HE := Aside0.mk hE
  have hb0 : Below w.heap.size w (w.alloc (.cells #[.slice A b.length c, .bool false] 125)) := (Below.refl _ _).alloc (Nat.le_refl _) _
  have HR0 := Aside0.mk (show RdAt w w.heap.size b false _ from ⟨hb0, Nat.le_refl _, A, c, heap_alloc_new w _, hc, hr⟩)
  have HBy := Aside0.mk hb
  obtain ⟨P, hP⟩ : ∃ P, P = opsP b := ⟨_, rfl⟩
  rw [← hP]
  have HP := Aside0.mk hP
  obtain ⟨n, hn⟩ : ∃ n : Nat, byteR b false = n := Int.eq_ofNat_of_zero_le (byteR_le hb).1
  have HN := Aside0.mk hn
  have hn255 : n ≤ 255 := by have := (byteR_le (sh := false) hb).2; omega
  clear hE hr hc hb hP hn hb0
  go_enter Tryz.func21, Tryz.ntmps21
  go_upto_region 4 with (go_at_call 76; refine (byte_calls HBy.out HR0.out).mono ?_; rw [HN.out]; rintro e w1 ⟨rfl, hr1, hk1⟩; have HR1 := Aside0.mk hr1; clear hr1 hk1)
  obtain ⟨l0, s0, e0⟩ : ∃ l0 s0, (takeR 1 b false).2 = (l0, s0) := ⟨_, _, rfl⟩
  have HW1 := Aside0.mk (show PW w w.heap.size (.slice none 0 0) [] l0 s0 w1 from ⟨by have h9 := HR1.out; rw [e0] at h9; exact h9, Kd.R_nil _ _ _ _ _, by have h9 := (takeR_B (n := 1) (sh := false) HBy.out).2; rw [e0] at h9; exact h9, by have h9 := (takeR_le (n := 1) (l := b) (sh := false)).1; rw [e0] at h9; exact Nat.le_trans h9 hbl, fun o ho => by cases ho⟩)
  have HQ1 := Aside0.mk (show P = opsR n l0 s0 [] by rw [HP.out]; unfold opsP; rw [e0, HN.out]; rfl)
  clear e0
  go_loopw [6, 5] (fun nv ov wx => ∃ (n : Nat) (acc : List Rop) (l : List Int) (sh : Bool), n ≤ 255 ∧ acc.length + n ≤ 255 ∧ nv = .int .i64 n ∧ Aside0 (PW w w.heap.size ov acc l sh wx) ∧ Aside0 (P = opsR n l sh acc)) (fun nv _ _ => (Go.RowKit.intOf nv).toNat)
  case atStart => exact ⟨n, [], l0, s0, hn255, by simpa using hn255, rfl, HW1, HQ1⟩
  case round =>
    clear HR1 HQ1 HW1 HN hn255
    obtain ⟨n, acc, l, sh, hn, hac, rfl, HA, HQ⟩ := hrel
    obtain ⟨Ar, cr, hrd, hrc, hrC⟩ := HA.out.rd.ex
    have r0 := (blk_cell hrd 0).trans (rfl : _ = some (Value.slice Ar l.length cr))
    have r1 := (blk_cell hrd 1).trans (rfl : _ = some (Value.bool sh))
    clear hrd hrc hrC
    by_cases hgo : 0 < n ∧ sh = false
    · obtain ⟨hn0, rfl⟩ := hgo
      have t1 : decide ((0 : Int) < (n : Int)) = true := decide_eq_true (by omega)
      have t1' : decide (0 < n) = true := decide_eq_true hn0
      obtain ⟨n', rfl⟩ : ∃ n', n = n' + 1 := ⟨n - 1, by omega⟩
      have HQ2 := Aside0.mk (show P = opsR n' (opR l false).2.1 (opR l false).2.2 (acc ++ [(opR l false).1]) by rw [HQ.out]; rfl)
      have hB0 := HA.out.by_
      obtain ⟨t1_, l1, s1, e1⟩ : ∃ t l1 s1, takeR 1 l false = (t, l1, s1) := ⟨_, _, _, rfl⟩
      have hB1 : Lib04.isB l1 := by have h9 := (takeR_B (n := 1) (sh := false) hB0).2; rw [e1] at h9; exact h9
      have hL1 : l1.length ≤ 1000000 := by have h9 := (takeR_le (n := 1) (l := l) (sh := false)).1; rw [e1] at h9; exact Nat.le_trans h9 HA.out.len
      obtain ⟨k, hk⟩ : ∃ k, byteR l false = k := ⟨_, rfl⟩
      obtain ⟨m, hm⟩ : ∃ m : Nat, byteR l1 s1 = m := Int.eq_ofNat_of_zero_le (byteR_le hB1).1
      have hm255 : m ≤ 255 := by have := (byteR_le (sh := s1) hB1).2; omega
      obtain ⟨t2_, l2, s2, e2⟩ : ∃ t l2 s2, takeR 1 l1 s1 = (t, l2, s2) := ⟨_, _, _, rfl⟩
      have hB2 : Lib04.isB l2 := by have h9 := (takeR_B (n := 1) (sh := s1) hB1).2; rw [e2] at h9; exact h9
      have hL2 : l2.length ≤ 1000000 := by have h9 := (takeR_le (n := 1) (l := l1) (sh := s1)).1; rw [e2] at h9; exact Nat.le_trans h9 hL1
      obtain ⟨nm, l3, s3, e3⟩ : ∃ t l3 s3, takeR m l2 s2 = (t, l3, s3) := ⟨_, _, _, rfl⟩
      have hB3 : Lib04.isB l3 := by have h9 := (takeR_B (n := m) (sh := s2) hB2).2; rw [e3] at h9; exact h9
      have hL3 : l3.length ≤ 1000000 := by have h9 := (takeR_le (n := m) (l := l2) (sh := s2)).1; rw [e3] at h9; exact Nat.le_trans h9 hL2
      have hNm : nm.length ≤ 1000004 := by have h9 := (takeR_le (n := m) (l := l2) (sh := s2)).2; rw [e3] at h9; exact Nat.le_trans h9 (by omega)
      obtain ⟨t4_, l4, s4, e4⟩ : ∃ t l4 s4, takeR 4 l3 s3 = (t, l4, s4) := ⟨_, _, _, rfl⟩
      have hB4 : Lib04.isB l4 := by have h9 := (takeR_B (n := 4) (sh := s3) hB3).2; rw [e4] at h9; exact h9
      have hL4 : l4.length ≤ 1000000 := by have h9 := (takeR_le (n := 4) (l := l3) (sh := s3)).1; rw [e4] at h9; exact Nat.le_trans h9 hL3
      obtain ⟨pl, hpl⟩ : ∃ pl, fourR l3 s3 = pl := ⟨_, rfl⟩
      obtain ⟨q, hq⟩ : ∃ q : Nat, fourR l4 s4 = q := Int.eq_ofNat_of_zero_le (fourR_le hB4).1
      have hq1 : q ≤ 4294967295 := by have := (fourR_le (sh := s4) hB4).2; omega
      obtain ⟨t5_, l5, s5, e5⟩ : ∃ t l5 s5, takeR 4 l4 s4 = (t, l5, s5) := ⟨_, _, _, rfl⟩
      have hB5 : Lib04.isB l5 := by have h9 := (takeR_B (n := 4) (sh := s4) hB4).2; rw [e5] at h9; exact h9
      have hL5 : l5.length ≤ 1000000 := by have h9 := (takeR_le (n := 4) (l := l4) (sh := s4)).1; rw [e5] at h9; exact Nat.le_trans h9 hL4
      obtain ⟨bs, l6, s6, e6⟩ : ∃ t l6 s6, takeR q l5 s5 = (t, l6, s6) := ⟨_, _, _, rfl⟩
      have hB6 : Lib04.isB l6 := by have h9 := (takeR_B (n := q) (sh := s5) hB5).2; rw [e6] at h9; exact h9
      have hL6 : l6.length ≤ 1000000 := by have h9 := (takeR_le (n := q) (l := l5) (sh := s5)).1; rw [e6] at h9; exact Nat.le_trans h9 hL5
      have hBs : bs.length ≤ 1000004 := by have h9 := (takeR_le (n := q) (l := l5) (sh := s5)).2; rw [e6] at h9; exact Nat.le_trans h9 (by omega)
      have HO := Aside0.mk (show opR l false = (⟨k, strOfNums nm, pl, bs⟩, l6, s6) by unfold opR; simp only [e1, e2, hm, Int.toNat_natCast, e3, e4, hq, e5, e6, hk, hpl])
      rw [HO.out] at HQ2
      have HK1 := Aside0.mk (fun (U : World) (h : RdAt w w.heap.size l false U) => byte_calls hB0 h)
      have HK2 := Aside0.mk (fun (U : World) (h : RdAt w w.heap.size l1 s1 U) => byte_calls hB1 h)
      have HK3 := Aside0.mk (fun (U : World) (h : RdAt w w.heap.size l2 s2 U) => take_calls m (by omega) h)
      have HK4 := Aside0.mk (fun (U : World) (h : RdAt w w.heap.size l3 s3 U) => four_calls hB3 h)
      have HK5 := Aside0.mk (fun (U : World) (h : RdAt w w.heap.size l4 s4 U) => four_calls hB4 h)
      have HK6 := Aside0.mk (fun (U : World) (h : RdAt w w.heap.size l5 s5 U) => take_calls q hq1 h)
      rw [e1, hk] at HK1
      rw [e2, hm] at HK2
      rw [e3] at HK3
      rw [e4, hpl] at HK4
      rw [e5, hq] at HK5
      rw [e6] at HK6
      clear e1 e2 e3 e4 e5 e6 hk hm hpl hq hB0 hB1 hB2 hB3 hB4 hB5 HO
      go_upto_region 7 with (first
        | (go_at_call 76; refine (HK1.out _ HA.out.rd).mono ?_; rintro e w2 ⟨rfl, hr1, hk1⟩; have HR2 := Aside0.mk hr1; have HB2 := Aside0.mk hk1; clear hr1 hk1)
        | ((with_reducible refine gate_dst (N := 7) rfl ?_); refine box_event ?hg (N := 7) ?hd (cs := #[.int .i64 0, .string (⟨#[]⟩ : ByteArray), .int .i64 0, .slice none 0 0]) (t := 62) ?hr ?_; (case hd => rfl); (case hg => rfl); (case hr => first | (go_simp; done) | (go_simp; rfl)); intro gb hg w3 hbox hb; have HBk := Aside0.mk hbox; have HGb := Aside0.mk (show gb = w2.heap.size from hg); have HB3 := Aside0.mk hb; clear hb hbox hg; have hcz0 : w3.cell? ⟨gb, 0, none⟩ = some (.int .i64 0) := (blk_cell HBk.out 0).trans rfl; have hcz1 : w3.cell? ⟨gb, 1, none⟩ = some (.string (⟨#[]⟩ : ByteArray)) := (blk_cell HBk.out 1).trans rfl; have hcz2 : w3.cell? ⟨gb, 2, none⟩ = some (.int .i64 0) := (blk_cell HBk.out 2).trans rfl; have hcz3 : w3.cell? ⟨gb, 3, none⟩ = some (.slice none 0 0) := (blk_cell HBk.out 3).trans rfl; have hfz0 := blk_frozen HBk.out 0; have hfz1 := blk_frozen HBk.out 1; have hfz2 := blk_frozen HBk.out 2; have hfz3 := blk_frozen HBk.out 3))
      have HLe := Aside0.mk (show w2.heap.size ≤ gb from by rw [HGb.out]; exact Nat.le_refl _)
      have HB4 := Aside0.mk (show Below w2.heap.size w2 ((((w3.setCell ⟨gb, 0, none⟩ (.int .i64 k)).setCell ⟨gb, 1, none⟩ (.string (⟨#[]⟩ : ByteArray))).setCell ⟨gb, 2, none⟩ (.int .i64 0)).setCell ⟨gb, 3, none⟩ (.slice none 0 0)) from (((HB3.out.setCell HLe.out _).setCell HLe.out _).setCell HLe.out _).setCell HLe.out _)
      have HK4b := Aside0.mk (show ((((w3.setCell ⟨gb, 0, none⟩ (.int .i64 k)).setCell ⟨gb, 1, none⟩ (.string (⟨#[]⟩ : ByteArray))).setCell ⟨gb, 2, none⟩ (.int .i64 0)).setCell ⟨gb, 3, none⟩ (.slice none 0 0)).heap[gb]? = some (.cells #[.int .i64 k, .string (⟨#[]⟩ : ByteArray), .int .i64 0, .slice none 0 0] 62 (0, 0)) from blk_put (blk_put (blk_put (blk_put HBk.out 0 _ rfl) 1 _ rfl) 2 _ rfl) 3 _ rfl)
      clear hcz0 hcz1 hcz2 hcz3 hfz0 hfz1 hfz2 hfz3 HBk HB3
      generalize ((((w3.setCell ⟨gb, 0, none⟩ (.int .i64 k)).setCell ⟨gb, 1, none⟩ (.string (⟨#[]⟩ : ByteArray))).setCell ⟨gb, 2, none⟩ (.int .i64 0)).setCell ⟨gb, 3, none⟩ (.slice none 0 0)) = w4 at HB4 HK4b ⊢
      have HQ4 := Aside0.mk (show QW w w.heap.size wr gb #[.int .i64 k, .string (⟨#[]⟩ : ByteArray), .int .i64 0, .slice none 0 0] l1 s1 w4 from ⟨rd_below HR2.out HB4.out, but_below HB2.out HB4.out, HK4b.out, Nat.le_trans HB2.out.1 HLe.out, fun e => by
        obtain ⟨cs9, h9⟩ := rd_rt HR2.out
        have h8 := blk_lt h9
        have h7 := HLe.out
        omega, HA.out.rd.bel.size⟩)
      clear HB4 HK4b HR2 HB2 r0 r1
      go_upto_region 8 with (first
        | (go_at_call 76; refine (HK2.out _ HQ4.out.rd).mono ?_; rintro e w5 ⟨rfl, hr5, hk5⟩; have HQ5 := Aside0.mk (HQ4.out.next hr5 hk5); clear hr5 hk5)
        | (go_at_call 77; refine (HK3.out _ HQ5.out.rd).mono ?_; rintro e w6 ⟨A6, c6, rfl, hc6, hC6, hr6, hk6⟩; have HQ6 := Aside0.mk (HQ5.out.next hr6 hk6); have cv6 := Kd.C_string (P := Tryz.prog) (w := w6) (A := A6) (c := c6) Tryz.underlying32 Tryz.underlying5 Tryz.underlying9 hC6; have d6 := (blk_cell HQ6.out.box 1).trans (rfl : _ = some (Value.string (⟨#[]⟩ : ByteArray))); have g6 := blk_frozen HQ6.out.box 1; clear hc6 hC6 hr6 hk6))
      have HQ7 := Aside0.mk (HQ6.out.put 1 (.string (strOfNums nm)) #[.int .i64 k, .string (strOfNums nm), .int .i64 0, .slice none 0 0] rfl)
      clear cv6 d6 g6 HQ4 HQ5 HQ6
      generalize w6.setCell ⟨gb, 1, none⟩ (.string (strOfNums nm)) = w7 at HQ7 ⊢
      go_upto_region 9 with (go_at_call 78; refine (HK4.out _ HQ7.out.rd).mono ?_; rintro e w8 ⟨rfl, hr8, hk8⟩; have HQ8 := Aside0.mk (HQ7.out.next hr8 hk8); have d8 := (blk_cell HQ8.out.box 2).trans (rfl : _ = some (Value.int .i64 0)); have g8 := blk_frozen HQ8.out.box 2; clear hr8 hk8)
      have HQ9 := Aside0.mk (HQ8.out.put 2 (.int .i64 pl) #[.int .i64 k, .string (strOfNums nm), .int .i64 pl, .slice none 0 0] rfl)
      clear d8 g8 HQ7 HQ8
      generalize w8.setCell ⟨gb, 2, none⟩ (.int .i64 pl) = w9 at HQ9 ⊢
      go_upto_region 10 with (first
        | (go_at_call 78; refine (HK5.out _ HQ9.out.rd).mono ?_; rintro e w10 ⟨rfl, hr10, hk10⟩; have HQ10 := Aside0.mk (HQ9.out.next hr10 hk10); clear hr10 hk10)
        | (go_at_call 77; refine (HK6.out _ HQ10.out.rd).mono ?_; rintro e w11 ⟨A11, c11, rfl, hc11, hC11, hr11, hk11⟩; have HQ11 := Aside0.mk (HQ10.out.next hr11 hk11); have HC11 := Aside0.mk (And.intro hc11 hC11); clear hc11 hC11 hr11 hk11)
        | (go_at_call 63; refine (GChk.slices_Clone_byte_byte.calls A11 c11 bs bs w11 HC11.out.2 HC11.out.1 (if_pos (by omega))).mono ?_; rintro e w12 ⟨v12, rfl, hv12, hb12⟩; obtain ⟨Av, cv, rfl⟩ := Kd.R_slice hv12; have HQ12 := Aside0.mk (HQ11.out.below hb12); have HV12 := Aside0.mk (Kd.R_lower hv12 HQ11.out.rd.bel.size); have d12 := (blk_cell HQ12.out.box 3).trans (rfl : _ = some (Value.slice none 0 0)); have g12 := blk_frozen HQ12.out.box 3; clear hv12 hb12))
      have HQ13 := Aside0.mk (HQ12.out.put 3 (.slice Av bs.length cv) #[.int .i64 k, .string (strOfNums nm), .int .i64 pl, .slice Av bs.length cv] rfl)
      have HV13 := Aside0.mk (show Kd.R (Kd.int .u8) 5 (w12.setCell ⟨gb, 3, none⟩ (.slice Av bs.length cv)) w.heap.size (fun _ => True) (.slice Av bs.length cv) bs from R_row HV12.out (But.setCell w12 ⟨gb, 3, none⟩ _) (Not.cells (t := 62) (fun g hg => by obtain rfl := Option.some.inj hg; exact ⟨_, _, HQ12.out.box⟩) (fun q hq e => by subst e; revert hq; decide)))
      clear d12 g12 HQ9 HQ10 HQ11 HQ12 HV12 HC11
      generalize w12.setCell ⟨gb, 3, none⟩ (.slice Av bs.length cv) = w13 at HQ13 HV13 ⊢
      have g0 := (blk_cell HQ13.out.box 0).trans (rfl : _ = some (Value.int .i64 k))
      have g1 := (blk_cell HQ13.out.box 1).trans (rfl : _ = some (Value.string (strOfNums nm)))
      have g2 := (blk_cell HQ13.out.box 2).trans (rfl : _ = some (Value.int .i64 pl))
      have g3 := (blk_cell HQ13.out.box 3).trans (rfl : _ = some (Value.slice Av bs.length cv))
      obtain ⟨cs0, hrt⟩ := rd_rt HA.out.rd
      have HRw := Aside0.mk (row_but HA.out.row hrt HQ13.out.but)
      clear hrt
      have HSz := Aside0.mk (show w.heap.size ≤ w13.heap.size from HQ13.out.rd.bel.size)
      go_wp2_with (at_builtin; refine Kd.R_append GSix.k62 (w0 := w13) (W := w13) w.heap.size rfl _ _ 54 62 (.agg #[.int .i64 0, .string ⟨#[]⟩, .int .i64 0, .slice none 0 0]) 56 rfl Tryz.underlying54 infoOp rfl (by decide) (by omega) u5 acc ⟨k, strOfNums nm, pl, bs⟩ [.int .i64 k, .string (strOfNums nm), .int .i64 pl, .slice Av bs.length cv] (fun _ => True) (fun k_ => True ∧ some k_ ≠ u5.ownBlock) rfl ?aX ?aP (fun _ h => h) (fun _ _ => trivial) ?aO (Below.refl _ _) ?aS ?aL ?_; (case aX => rfl); (case aP => exact GSix.k62_mkM w13 _ _ ⟨k, strOfNums nm, pl, bs⟩ (bytes_apart2 HV13.out HRw.out)); (case aO => exact HRw.out); (case aS => exact HSz.out); (case aL => omega); intro v14 w14 ho14 hb14 hg14 hat14; have HO14 := Aside0.mk ho14; have HB14 := Aside0.mk hb14; have HG14 := Aside0.mk hg14; clear ho14 hb14 hg14 hat14)
      obtain ⟨Ar2, cr2, hrd2, hrc2, hrC2⟩ := HQ13.out.rd.ex
      have hne : some w.heap.size ≠ u5.ownBlock := fun e => by
        obtain ⟨inner, how⟩ := Kd.R_own HRw.out
        obtain ⟨cs2, hc2⟩ := own_typed how _ e.symm
        rw [hrd2] at hc2
        have hc2 := Option.some.inj hc2
        injection hc2 with _ hc2 _
        exact absurd hc2 (by decide)
      have HN := Aside0.mk (show PW w w.heap.size v14 (acc ++ [⟨k, strOfNums nm, pl, bs⟩]) l6 s6 w14 from ⟨⟨HQ13.out.rd.bel.trans HB14.out, HQ13.out.rd.lo, Ar2, cr2, (HG14.out.block _ (blk_lt hrd2) hne).trans hrd2, hrc2, hrC2⟩, HO14.out, hB6, hL6, fun o ho => by
        rcases List.mem_append.1 ho with ho | ho
        · exact HA.out.each o ho
        · obtain rfl : o = ⟨k, strOfNums nm, pl, bs⟩ := by simpa using ho
          exact ⟨by show (strOfNums nm).size < _; rw [strOfNums_size]; omega, by show bs.length < _; omega⟩⟩)
      exact ⟨⟨n', _, l6, s6, by omega, by rw [List.length_append]; simp only [List.length_cons, List.length_nil]; omega, rfl, HN, HQ2⟩, by simp [Go.RowKit.intOf]⟩
    · have HPe := Aside0.mk (show P = (acc, l, sh) by
        rw [HQ.out]
        cases n with
        | zero => rfl
        | succ n' =>
          cases sh with
          | true => rfl
          | false => exact absurd ⟨Nat.succ_pos _, rfl⟩ hgo)
      have HBw := Aside0.mk HA.out.rd.bel
      have c2 := HE.out.errs.var 2 (by simp [All])
      rw [gForm2] at c2
      have cg := (HBw.out.cell (World.block_lt_of_cell? w _ c2)).trans c2
      clear c2
      cases sh with
      | true =>
        have hs9 : True := trivial
        by_cases hn0 : 0 < n
        · have t1 : decide ((0 : Int) < (n : Int)) = true := decide_eq_true (by omega)
          have t1' : decide (0 < n) = true := decide_eq_true hn0
          go_upto_region 12 with (fail)
          go_region
          all_goals
            go_wp2
            go_ret2
            refine ⟨?_, HBw.out.drew⟩
            unfold OpsPost
            rw [if_neg (by rw [HPe.out]; simp)]
            rfl
        · have t1 : decide ((0 : Int) < (n : Int)) = false := decide_eq_false (by omega)
          have t1' : decide (0 < n) = false := decide_eq_false hn0
          go_upto_region 12 with (fail)
          go_region
          all_goals
            go_wp2
            go_ret2
            refine ⟨?_, HBw.out.drew⟩
            unfold OpsPost
            rw [if_neg (by rw [HPe.out]; simp)]
            rfl
      | false =>
        obtain rfl : n = 0 := by
          rcases Nat.eq_zero_or_pos n with h | h
          · exact h
          · exact absurd ⟨h, rfl⟩ hgo
        have t1 : decide ((0 : Int) < ((0 : Nat) : Int)) = false := by decide
        by_cases hl0 : 0 < l.length
        · have t3 : decide ((0 : Int) < (l.length : Int)) = true := decide_eq_true (by omega)
          have t3' : decide (0 < l.length) = true := decide_eq_true hl0
          have HL0 := Aside0.mk hl0
          clear hl0
          go_upto_region 12 with (fail)
          go_region
          all_goals
            go_wp2
            go_ret2
            refine ⟨?_, HBw.out.drew⟩
            unfold OpsPost
            rw [if_neg (by rw [HPe.out]; intro h; have h9 : l = [] := h.2.1; have := HL0.out; rw [h9] at this; simp at this)]
            rfl
        · have t3 : decide ((0 : Int) < (l.length : Int)) = false := decide_eq_false (by omega)
          have t3' : decide (0 < l.length) = false := decide_eq_false hl0
          have HL0 := Aside0.mk (show l = [] from List.eq_nil_of_length_eq_zero (by omega))
          clear hl0
          obtain ⟨A5, c5, rfl⟩ := Kd.R_slice HA.out.row
          have HC5 := Aside0.mk (Kd.R_reads' HA.out.row).2
          have HEr := Aside0.mk (HE.out.turn (Turn.of_below HBw.out))
          have HCk := Aside0.mk (check_calls acc A5 c5 B E wr HEr.out (Nat.le_trans hB HBw.out.size) HC5.out.2 HC5.out.1 (by omega) HA.out.each)
          cases hck : checkL acc with
          | some x =>
            rw [hck, errV_some] at HCk
            have HK := Aside0.mk hck
            clear hck
            go_upto_region 12 with (go_at_call 71; refine HCk.out.mono ?_; rintro e w2 ⟨rfl, hb2⟩; have HB2 := Aside0.mk (HBw.out.trans (hb2.mono HBw.out.size)); have cg2 := (hb2.cell (World.block_lt_of_cell? wr _ cg)).trans cg; clear hb2 cg)
            go_region
            all_goals
              go_wp2
              go_ret2
              refine ⟨?_, HB2.out.drew⟩
              unfold OpsPost
              rw [if_neg (by rw [HPe.out]; intro h; rw [HK.out] at h; exact absurd h.2.2 (by simp))]
              rfl
          | none =>
            rw [hck, errV_none] at HCk
            have HK := Aside0.mk hck
            clear hck
            go_wp2_with (go_at_call 71; refine HCk.out.mono ?_; rintro e w2 ⟨rfl, hb2⟩; have HB2 := Aside0.mk (HBw.out.trans (hb2.mono HBw.out.size)); have HR2 := Aside0.mk (Kd.R_below HA.out.row hb2); clear hb2)
            go_ret2
            refine ⟨?_, HB2.out⟩
            unfold OpsPost
            rw [if_pos (by rw [HPe.out]; exact ⟨rfl, HL0.out, HK.out⟩), HPe.out]
            exact ⟨_, rfl, HR2.out⟩
end Go.Proofs.YtpcfnkmljchiiaaGreatDoor.OOps
end
section
/- The document's Bytes: a change's bytes. -/
namespace Go.Proofs.YtpcfnkmljchiiaaGreatDoor.OBr
open Go Go.RowKit Go.Maps Go.WideMaps Go.Proofs.YtpcfnkmljchiiaaGreatDoorW.PrintWords Go.Proofs.YtpcfnkmljchiiaaGreatDoorW.PrintLast Go.Proofs.YtpcfnkmljchiiaaGreatDoorW.PrintMore DPl DAt DNw Go.Proofs.YtpcfnkmljchiiaaGreatDoor.Is Right Go.Proofs.YtpcfnkmljchiiaaGreatDoor.OPl Go.Proofs.YtpcfnkmljchiiaaGreatDoor.OAll Go.Proofs.YtpcfnkmljchiiaaGreatDoor.ORight Go.Proofs.YtpcfnkmljchiiaaGreatDoor.OSee Go.Proofs.YtpcfnkmljchiiaaGreatDoor.OChk Go.Proofs.YtpcfnkmljchiiaaGreatDoor.OEnc Go.Proofs.YtpcfnkmljchiiaaGreatDoor.OByt
section
variable {P : Program} {ops : Array Oper} {rest : List Oper} {o : Oper} {a : Act} {Q : Exit → Act → World → Prop}
/-- append(bytes, text...), for the walk. -/
theorem str_append {w0 W : World} (base : Nat) (hgd : o.guard = none) (sl x : Operand) (t u e : TypeId)
    (ho : o.op = .call { callee := .builtin .append, args := #[sl, x], argTypes := #[t, u] })
    (ht : P.underlying t = some (.slice e)) (hu : P.underlying u = some .string) (hinfo : (P.info? e).map (fun i => (i.zero, i.size, i.bytes)) = some (some (.int .u8 0), 1, 1))
    (v : Value) (xs : List Int) (s : ByteArray) (hs : a.eval sl = v) (hx : a.eval x = .string s)
    (HO : Kd.R (Kd.int .u8) e W base (fun _ => True) v xs) (HB : Below base w0 W) (hbase : base ≤ W.heap.size) (hl : xs.length + s.size ≤ 140737488355328)
    (h : ∀ v1 w1, Kd.R (Kd.int .u8) e w1 base (fun _ => True) v1 (xs ++ bI s) → Below base w0 w1 → W.grownBy w1 v.ownBlock → wpList P ops Q rest (a.put o.dst v1) w1) :
    wpList P ops Q (o :: rest) a W := by
  obtain ⟨i0, hi, hz0, hz1, hz2⟩ := info_parts hinfo
  have hown := Kd.own_of_R (enc := Value.int .u8) HO
  refine Lib.wpList_append_own_string (P := P) W hgd sl x t u ho base e i0 ht hu hi hz0 hz1 hz2 v xs.length _ hs hown s hx (by unfold maxLen; omega) hl hbase ?_
  intro v' w' h2 h3 _
  refine h v' w' ?_ (HB.grown h3 hbase (fun k hk => own_base hown k hk)) h3
  have e1 : encs (Value.int .u8) xs ++ Lib.strCells s = encs (Value.int .u8) (xs ++ bI s) := by
    unfold encs bI Lib.strCells
    rw [List.map_append, List.map_map]
    rfl
  rw [e1, ← bI_len, ← List.length_append] at h2
  exact Kd.R_of_own h2 (fun _ _ => trivial)
end
theorem four_r (n : Int) : GSix.postbagref06_four.f n = some (four4 n) := rfl
set_option maxRecDepth 100000 in
set_option maxHeartbeats 16000000 in
theorem rbytes_calls (L : List Rop) (A : Option Addr) (c : Nat) (w : World) (hr : Kd.C GSix.k62 w A L.length L) (hc : L.length ≤ c) (hl : L.length ≤ 1000000) (hs : ∀ o ∈ L, o.f1.size < 1000000000 ∧ o.f3.length < 1000000000) (hall : ∀ j, (encAll (L.take j)).length ≤ 1000000000000) :
    Calls Tryz.prog 22 #[.slice A L.length c] w fun e w' => ∃ v, e = .returned v ∧ Kd.R (Kd.int .u8) 5 w' w.heap.size (fun _ => True) v (encL L) ∧ Below w.heap.size w w' := by
  have HR := Aside0.mk hr
  have HS := Aside0.mk hs
  have HAl := Aside0.mk hall
  clear hr hs hall
  go_enter Tryz.func22, Tryz.ntmps22
  go_upto_region 2 with (fail)
  have HL0 := Aside0.mk (show BW w (.slice (some ⟨w.heap.size, 0, none⟩) 1 1) ((L.length : Int) % 256 :: encAll (L.take 0)) (w.alloc (.cells #[.int .u8 ((L.length : Int) % 256)] 5)) from ⟨(Below.refl _ _).alloc (Nat.le_refl _) _, ⟨fun _ _ => trivial, OwnRow.lit (ps := [(L.length : Int) % 256]) (inner := [.int .u8 ((L.length : Int) % 256)]) w w.heap.size ⟨rfl, fun j p hj => by
    cases j with
    | zero =>
      obtain rfl : (L.length : Int) % 256 = p := by simpa using hj
      exact rfl
    | succ j => simp at hj⟩ (Nat.le_refl _) (show 1 ≤ 9223372036854775807 by decide)⟩⟩)
  go_wp2
  go_loopw [12, 3] (fun ix out wx => ∃ j : Nat, j ≤ L.length ∧ ix = .int .i64 j ∧ Aside0 (BW w out ((L.length : Int) % 256 :: encAll (L.take j)) wx)) (fun ix _ _ => L.length - (Go.RowKit.intOf ix).toNat)
  case atStart => exact ⟨0, Nat.zero_le _, rfl, HL0⟩
  case round =>
    obtain ⟨j, hj, rfl, HA⟩ := hrel
    clear HL0
    by_cases hlt : j < L.length
    · have t3 : decide (j < L.length) = true := decide_eq_true hlt
      have t3' : decide ((j : Int) < (L.length : Int)) = true := decide_eq_true (by omega)
      obtain ⟨o, ho⟩ : ∃ o, L[j]? = some o := ⟨_, List.getElem?_eq_getElem hlt⟩
      obtain ⟨ad, A3, c3, rfl, x0, x1, x2, x3, hl3, hi3⟩ := GSix.at_T62 HR.out (j : Int) (by omega) (by omega)
      rw [show GSix.rd_T62 L (j : Int) = o by unfold GSix.rd_T62; rw [Int.toNat_natCast, List.getD_eq_getElem?_getD, ho]; rfl] at x0 x1 x2 x3 hl3 hi3
      rw [Int.toNat_natCast] at x0 x1 x2 x3
      replace x0 := (HA.out.bel.cell (World.block_lt_of_cell? w _ x0)).trans x0
      replace x1 := (HA.out.bel.cell (World.block_lt_of_cell? w _ x1)).trans x1
      replace x2 := (HA.out.bel.cell (World.block_lt_of_cell? w _ x2)).trans x2
      replace x3 := (HA.out.bel.cell (World.block_lt_of_cell? w _ x3)).trans x3
      have HI3 := Aside0.mk (And.intro hl3 hi3)
      obtain ⟨hsz, hbs⟩ := HS.out o (List.mem_of_getElem? ho)
      have HTk := Aside0.mk (show encAll (L.take (j + 1)) = encAll (L.take j) ++ encOp o by rw [List.take_add_one, ho]; exact encAll_snoc _ _)
      have HLe := Aside0.mk (HAl.out j)
      clear ho hl3 hi3
      have a0 : (0 : Int) ≤ (j : Int) := by omega
      have a1 : (j : Int) < (L.length : Int) := by omega
      go_upto_region 5 with (first | ((with_reducible refine gate_dst (N := 5) rfl ?_); refine box_event ?hg (N := 5) ?hd (cs := #[.int .i64 0, .string (⟨#[]⟩ : ByteArray), .int .i64 0, .slice none 0 0]) (t := 62) ?hr ?_; (case hd => rfl); (case hg => rfl); (case hr => first | (go_simp; done) | (go_simp; rfl)); intro gb hg w13 hbox hb; have HBk := Aside0.mk hbox; have HGb := Aside0.mk (show wr.heap.size ≤ gb by rw [hg]; exact Nat.le_refl _); have HB13 := Aside0.mk hb; clear hb hbox hg; have hcz0 : w13.cell? ⟨gb, 0, none⟩ = some (.int .i64 0) := (blk_cell HBk.out 0).trans rfl; have hcz1 : w13.cell? ⟨gb, 1, none⟩ = some (.string (⟨#[]⟩ : ByteArray)) := (blk_cell HBk.out 1).trans rfl; have hcz2 : w13.cell? ⟨gb, 2, none⟩ = some (.int .i64 0) := (blk_cell HBk.out 2).trans rfl; have hcz3 : w13.cell? ⟨gb, 3, none⟩ = some (.slice none 0 0) := (blk_cell HBk.out 3).trans rfl; have hfz0 := blk_frozen HBk.out 0; have hfz1 := blk_frozen HBk.out 1; have hfz2 := blk_frozen HBk.out 2; have hfz3 := blk_frozen HBk.out 3))
      have HB14 := Aside0.mk (show Below wr.heap.size wr ((((w13.setCell ⟨gb, 0, none⟩ (.int .i64 o.f0)).setCell ⟨gb, 1, none⟩ (.string o.f1)).setCell ⟨gb, 2, none⟩ (.int .i64 o.f2)).setCell ⟨gb, 3, none⟩ (.slice A3 o.f3.length c3)) from (((HB13.out.setCell HGb.out _).setCell HGb.out _).setCell HGb.out _).setCell HGb.out _)
      have HK14 := Aside0.mk (show ((((w13.setCell ⟨gb, 0, none⟩ (.int .i64 o.f0)).setCell ⟨gb, 1, none⟩ (.string o.f1)).setCell ⟨gb, 2, none⟩ (.int .i64 o.f2)).setCell ⟨gb, 3, none⟩ (.slice A3 o.f3.length c3)).heap[gb]? = some (.cells #[.int .i64 o.f0, .string o.f1, .int .i64 o.f2, .slice A3 o.f3.length c3] 62 (0, 0)) from blk_put (blk_put (blk_put (blk_put HBk.out 0 _ rfl) 1 _ rfl) 2 _ rfl) 3 _ rfl)
      clear hcz0 hcz1 hcz2 hcz3 hfz0 hfz1 hfz2 hfz3 HBk HB13 x0 x1 x2 x3
      generalize ((((w13.setCell ⟨gb, 0, none⟩ (.int .i64 o.f0)).setCell ⟨gb, 1, none⟩ (.string o.f1)).setCell ⟨gb, 2, none⟩ (.int .i64 o.f2)).setCell ⟨gb, 3, none⟩ (.slice A3 o.f3.length c3)) = w14 at HB14 HK14 ⊢
      have d0 := (blk_cell HK14.out 0).trans (rfl : _ = some (Value.int .i64 o.f0))
      have d1 := (blk_cell HK14.out 1).trans (rfl : _ = some (Value.string o.f1))
      have d2 := (blk_cell HK14.out 2).trans (rfl : _ = some (Value.int .i64 o.f2))
      have d3 := (blk_cell HK14.out 3).trans (rfl : _ = some (Value.slice A3 o.f3.length c3))
      have HW14 := Aside0.mk (HA.out.below HB14.out)
      obtain ⟨P, hP⟩ : ∃ P, P = (L.length : Int) % 256 :: encAll (L.take j) := ⟨_, rfl⟩
      rw [← hP] at HW14
      have HP := Aside0.mk hP
      have HPl := Aside0.mk (show P.length ≤ 1000000000001 by rw [hP, List.length_cons]; have := HLe.out; omega)
      clear hP
      have HB15 := Aside0.mk (show Below w14.heap.size w14 (w14.alloc (.cells #[.int .u8 (o.f0 % 256), .int .u8 ((o.f1.size : Int) % 256)] 5)) from (Below.refl _ _).alloc (Nat.le_refl _) _)
      have HN15 := Aside0.mk (heap_alloc_new w14 (.cells #[.int .u8 (o.f0 % 256), .int .u8 ((o.f1.size : Int) % 256)] 5))
      have HW15 := Aside0.mk (HW14.out.below HB15.out)
      have HK15 := Aside0.mk ((HB15.out.block _ (blk_lt HK14.out)).trans HK14.out)
      go_upto_region 6 with ((with_reducible refine gate_builtin (b := .append) (xs := #[.tmp 16, .tmp 24]) rfl ?_); at_builtin; refine Kd.R_append_rows (Kd.int .u8) (w0 := w) (W := w14.alloc (.cells #[.int .u8 (o.f0 % 256), .int .u8 ((o.f1.size : Int) % 256)] 5)) w.heap.size rfl (.tmp 16) (.tmp 24) 32 5 (.int .u8 0) 1 rfl Tryz.underlying32 infoU8 rfl (by decide) (by omega) _ P [o.f0 % 256, (o.f1.size : Int) % 256] _ _ _ (fun _ => True) (fun _ => False) rfl rfl ?aO ?aR (fun _ _ h => h) (fun _ h => h.elim) ?aF ?aB ?aS ?aL ?_; (case aO => exact HW15.out.row); (case aR => exact two_bytes HN15.out); (case aF => exact fun _ _ => trivial); (case aB => exact HW15.out.bel); (case aS => exact HW15.out.bel.size); (case aL => have := HPl.out; omega); intro v2 w2 ho hb hg hat; have HW2 := Aside0.mk (show BW w v2 (P ++ [o.f0 % 256, (o.f1.size : Int) % 256]) w2 from ⟨hb, ho⟩); have HK2 := Aside0.mk ((hg.block _ (blk_lt HK15.out) (not_own HW15.out.row HK15.out)).trans HK15.out); clear ho hb hg hat; have e1_w2 := (blk_cell HK2.out 1).trans (rfl : _ = some (Value.string o.f1)))
      clear d0 d1 d2 d3 HW14 HK14 HB14 HB15 HN15 HW15 HK15
      go_upto_region 7 with ((with_reducible refine gate_builtin (b := .append) (xs := #[.tmp 26, .tmp 28]) rfl ?_); at_builtin; refine str_append (w0 := w) (W := w2) w.heap.size rfl (.tmp 26) (.tmp 28) 32 9 5 rfl Tryz.underlying32 Tryz.underlying9 infoU8 v2 (P ++ [o.f0 % 256, (o.f1.size : Int) % 256]) o.f1 rfl rfl ?aO ?aB ?aS ?aL ?_; (case aO => exact HW2.out.row); (case aB => exact HW2.out.bel); (case aS => exact HW2.out.bel.size); (case aL => have := HPl.out; have h4 : ∀ x, (four4 x).length = 4 := fun _ => rfl; simp only [List.length_append, bI_len, List.length_cons, List.length_nil, h4]; omega); intro v3 w3 ho hb hg; have HW3 := Aside0.mk (show BW w v3 ((P ++ [o.f0 % 256, (o.f1.size : Int) % 256]) ++ bI o.f1) w3 from ⟨hb, ho⟩); have HK3 := Aside0.mk ((hg.block _ (blk_lt HK2.out) (not_own HW2.out.row HK2.out)).trans HK2.out); clear ho hb hg; have e2_w3 := (blk_cell HK3.out 2).trans (rfl : _ = some (Value.int .i64 o.f2)))
      clear e1_w2 HW2 HK2
      go_upto_region 8 with (first
        | (go_at_call 79; refine (GSix.postbagref06_four.calls o.f2 _ w3 (four_r _)).mono ?_; rintro e w4 ⟨f4, rfl, hO, hb⟩; obtain ⟨Q4, c4, rfl⟩ := Kd.R_slice hO; have HW4 := Aside0.mk (HW3.out.below hb); have HK4 := Aside0.mk ((hb.block _ (blk_lt HK3.out)).trans HK3.out); have HR4 := Aside0.mk (Kd.R_reads' hO).2; clear hO hb)
        | ((with_reducible refine gate_builtin (b := .append) (xs := #[.tmp 30, .tmp 33]) rfl ?_); at_builtin; refine Kd.R_append_rows (Kd.int .u8) (w0 := w) (W := w4) w.heap.size rfl (.tmp 30) (.tmp 33) 32 5 (.int .u8 0) 1 rfl Tryz.underlying32 infoU8 rfl (by decide) (by omega) v3 ((P ++ [o.f0 % 256, (o.f1.size : Int) % 256]) ++ bI o.f1) (four4 o.f2) _ _ _ (fun _ => True) (fun _ => False) rfl rfl ?aO ?aR (fun _ _ h => h) (fun _ h => h.elim) ?aF ?aB ?aS ?aL ?_; (case aO => exact HW4.out.row); (case aR => exact HR4.out.2); (case aF => exact fun _ _ => trivial); (case aB => exact HW4.out.bel); (case aS => exact HW4.out.bel.size); (case aL => have := HPl.out; have h4 : ∀ x, (four4 x).length = 4 := fun _ => rfl; simp only [List.length_append, bI_len, List.length_cons, List.length_nil, h4]; omega); intro v5 w5 ho hb hg hat; have HW5 := Aside0.mk (show BW w v5 (((P ++ [o.f0 % 256, (o.f1.size : Int) % 256]) ++ bI o.f1) ++ (four4 o.f2)) w5 from ⟨hb, ho⟩); have HK5 := Aside0.mk ((hg.block _ (blk_lt HK4.out) (not_own HW4.out.row HK4.out)).trans HK4.out); clear ho hb hg hat; have e3_w5 := (blk_cell HK5.out 3).trans (rfl : _ = some (Value.slice A3 o.f3.length c3))))
      clear e2_w3 HW3 HK3 HW4 HK4 HR4
      go_upto_region 9 with (first
        | (go_at_call 79; refine (GSix.postbagref06_four.calls (o.f3.length : Int) _ w5 (four_r _)).mono ?_; rintro e w6 ⟨f6, rfl, hO, hb⟩; obtain ⟨Q6, c6, rfl⟩ := Kd.R_slice hO; have HW6 := Aside0.mk (HW5.out.below hb); have HK6 := Aside0.mk ((hb.block _ (blk_lt HK5.out)).trans HK5.out); have HR6 := Aside0.mk (Kd.R_reads' hO).2; clear hO hb)
        | ((with_reducible refine gate_builtin (b := .append) (xs := #[.tmp 35, .tmp 39]) rfl ?_); at_builtin; refine Kd.R_append_rows (Kd.int .u8) (w0 := w) (W := w6) w.heap.size rfl (.tmp 35) (.tmp 39) 32 5 (.int .u8 0) 1 rfl Tryz.underlying32 infoU8 rfl (by decide) (by omega) v5 (((P ++ [o.f0 % 256, (o.f1.size : Int) % 256]) ++ bI o.f1) ++ four4 o.f2) (four4 (o.f3.length : Int)) _ _ _ (fun _ => True) (fun _ => False) rfl rfl ?aO ?aR (fun _ _ h => h) (fun _ h => h.elim) ?aF ?aB ?aS ?aL ?_; (case aO => exact HW6.out.row); (case aR => exact HR6.out.2); (case aF => exact fun _ _ => trivial); (case aB => exact HW6.out.bel); (case aS => exact HW6.out.bel.size); (case aL => have := HPl.out; have h4 : ∀ x, (four4 x).length = 4 := fun _ => rfl; simp only [List.length_append, bI_len, List.length_cons, List.length_nil, h4]; omega); intro v7 w7 ho hb hg hat; have HW7 := Aside0.mk (show BW w v7 ((((P ++ [o.f0 % 256, (o.f1.size : Int) % 256]) ++ bI o.f1) ++ four4 o.f2) ++ (four4 (o.f3.length : Int))) w7 from ⟨hb, ho⟩); have HK7 := Aside0.mk ((hg.block _ (blk_lt HK6.out) (not_own HW6.out.row HK6.out)).trans HK6.out); clear ho hb hg hat; have e3_w7 := (blk_cell HK7.out 3).trans (rfl : _ = some (Value.slice A3 o.f3.length c3))))
      clear e3_w5 HW5 HK5 HW6 HK6 HR6
      go_wp2_with ((with_reducible refine gate_builtin (b := .append) (xs := #[.tmp 41, .tmp 43]) rfl ?_); at_builtin; refine Kd.R_append_rows (Kd.int .u8) (w0 := w) (W := w7) w.heap.size rfl (.tmp 41) (.tmp 43) 32 5 (.int .u8 0) 1 rfl Tryz.underlying32 infoU8 rfl (by decide) (by omega) v7 ((((P ++ [o.f0 % 256, (o.f1.size : Int) % 256]) ++ bI o.f1) ++ four4 o.f2) ++ four4 (o.f3.length : Int)) o.f3 _ _ _ (fun _ => True) (fun _ => False) rfl rfl ?aO ?aR (fun _ _ h => h) (fun _ h => h.elim) ?aF ?aB ?aS ?aL ?_; (case aO => exact HW7.out.row); (case aR => exact Kd.C_below HI3.out.2 HW7.out.bel); (case aF => exact fun _ _ => trivial); (case aB => exact HW7.out.bel); (case aS => exact HW7.out.bel.size); (case aL => have := HPl.out; have h4 : ∀ x, (four4 x).length = 4 := fun _ => rfl; simp only [List.length_append, bI_len, List.length_cons, List.length_nil, h4]; omega); intro v8 w8 ho hb hg hat; have HW8 := Aside0.mk (show BW w v8 (((((P ++ [o.f0 % 256, (o.f1.size : Int) % 256]) ++ bI o.f1) ++ four4 o.f2) ++ four4 (o.f3.length : Int)) ++ o.f3) w8 from ⟨hb, ho⟩); have HK8 := Aside0.mk ((hg.block _ (blk_lt HK7.out) (not_own HW7.out.row HK7.out)).trans HK7.out); clear ho hb hg hat; skip)
      have HN := Aside0.mk (show BW w v8 ((L.length : Int) % 256 :: encAll (L.take (j + 1))) w8 from by
        have h9 := HW8.out
        rw [show ((((P ++ [o.f0 % 256, (o.f1.size : Int) % 256]) ++ bI o.f1) ++ four4 o.f2) ++ four4 (o.f3.length : Int)) ++ o.f3 = (L.length : Int) % 256 :: encAll (L.take (j + 1)) by
          rw [HTk.out, HP.out]
          unfold encOp
          simp] at h9
        exact h9)
      exact ⟨⟨j + 1, by omega, by simp, HN⟩, by simp [Go.RowKit.intOf]; omega⟩
    · have t3 : decide (j < L.length) = false := decide_eq_false hlt
      have t3' : decide ((j : Int) < (L.length : Int)) = false := decide_eq_false (by omega)
      have HE := Aside0.mk (show encL L = (L.length : Int) % 256 :: encAll (L.take j) by unfold encL; rw [List.take_of_length_le (by omega)])
      go_wp2
      go_ret
      exact ⟨_, rfl, by rw [HE.out]; exact HA.out.row, HA.out.bel⟩
end Go.Proofs.YtpcfnkmljchiiaaGreatDoor.OBr
end
