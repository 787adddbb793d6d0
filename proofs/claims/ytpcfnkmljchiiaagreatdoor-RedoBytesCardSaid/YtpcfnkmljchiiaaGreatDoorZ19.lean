/- Steps towards RBoth: DEx. -/
import Derived.Test.YtpcfnkmljchiiaaGreatDoorZ14
import Derived.Test.YtpcfnkmljchiiaaGreatDoorZ17
import Derived.Test.YtpcfnkmljchiiaaGreatDoorZ18
import Derived.Laws.BytesArg
import Derived.Lib.SlBytesConst
set_option linter.unusedVariables false
set_option linter.unusedSimpArgs false
/- Sound disks; New; the example of chapter 05. -/
namespace Go.Proofs.YtpcfnkmljchiiaaGreatDoor.DOk
open Go Go.RowKit DPl DFil DCh2 DOps DSyn DSd DCr DCra Right
theorem fil_mono {f : Fil} {n m : Int} (h : f.Ok n) (hn : n ≤ m) : f.Ok m := ⟨h.now, h.fits, h.sureL, h.opnL, h.nowL, Int.le_trans h.cnt hn⟩
theorem newD_ok (q : Int) (h0 : 0 ≤ q) (h1 : q ≤ 1073741824) : (newD q).Ok := by
  refine ⟨?_, ?_, ?_, rfl, ?_, h0, h1, by simp [newD], by simp [newD], by simp [newD], by simp [newD], by simp [newD]⟩ <;> (intro p hp; simp [newD] at hp)
theorem armed_step {D : Dsk} (h : D.Ok) : -1 ≤ (stepD D).armed ∧ (stepD D).armed ≤ 9223372036854775807 := by
  have h0 := h.armed0
  have h1 := h.armed1
  show -1 ≤ (if 0 < D.armed then D.armed - 1 else D.armed) ∧ (if 0 < D.armed then D.armed - 1 else D.armed) ≤ 9223372036854775807
  split <;> omega
/-- What Create leaves where it makes a file. -/
def madeD (D : Dsk) (s : ByteArray) : Dsk := { addE (stepD D) ⟨s, (⟨#[]⟩ : ByteArray), D.files.length⟩ with files := D.files ++ [⟨[], [], []⟩] }
theorem madeD_ok {D : Dsk} (h : D.Ok) (s : ByteArray) (hs : s.size ≤ 24) : (madeD D s).Ok := by
  obtain ⟨ha0, ha1⟩ := armed_step h
  have hst := h.steps0
  refine ⟨fun p hp => ?_, fun p hp => ?_, fun e he => ?_, ?_, fun f hf => ?_, h.quota0, h.quota1, ha0, ha1, ?_, ?_, ?_⟩
  · have hp : p ∈ (⟨s, ⟨#[]⟩, D.files.length⟩ : Ent).go D.now := hp
    show 0 ≤ p.2 ∧ p.2 < ((D.files ++ [(⟨[], [], []⟩ : Fil)]).length : Int)
    rw [List.length_append]
    rcases mem_go hp with h1 | ⟨h1, h2⟩
    · have := h.nowF p h1
      simp
      omega
    · simp only [] at h1
      simp
      omega
  · have := h.sureF p hp
    show 0 ≤ p.2 ∧ p.2 < ((D.files ++ [(⟨[], [], []⟩ : Fil)]).length : Int)
    rw [List.length_append]
    simp
    omega
  · show -1 ≤ e.file ∧ e.file < ((D.files ++ [(⟨[], [], []⟩ : Fil)]).length : Int) ∧ _
    rw [List.length_append]
    have he : e ∈ D.opn ++ [⟨s, ⟨#[]⟩, D.files.length⟩] := he
    rcases List.mem_append.1 he with h1 | h1
    · obtain ⟨a, b, c, d⟩ := h.opnF e h1
      refine ⟨a, ?_, c, d⟩
      simp
      omega
    · obtain rfl := List.mem_singleton.1 h1
      refine ⟨?_, ?_, hs, ?_⟩
      · simp; try omega
      · simp; omega
      · show (0 : Nat) ≤ 24; omega
  · show (⟨s, ⟨#[]⟩, D.files.length⟩ : Ent).go D.now = goAll D.sure (D.opn ++ [⟨s, ⟨#[]⟩, D.files.length⟩])
    rw [goAll_snoc, ← h.nowE]
  · show f.Ok (D.steps + 1)
    have hf : f ∈ D.files ++ [⟨[], [], []⟩] := hf
    rcases List.mem_append.1 hf with h1 | h1
    · exact fil_mono (h.fil f h1) (by omega)
    · obtain rfl := List.mem_singleton.1 h1
      exact ⟨rfl, trivial, by simp, by simp, by simp, by simp; omega⟩
  · show 0 ≤ D.steps + 1; omega
  · show ((D.files ++ [(⟨[], [], []⟩ : Fil)]).length : Int) ≤ D.steps + 1
    have := h.cntF
    rw [List.length_append]
    simp
    omega
  · show (D.sure.length : Int) + ((D.opn ++ [(⟨s, ⟨#[]⟩, D.files.length⟩ : Ent)]).length : Nat) ≤ D.steps + 1
    have := h.cntN
    rw [List.length_append]
    simp
    omega
theorem grown_ok {D : Dsk} (h : D.Ok) {i : Nat} {f : Fil} (hf : D.files[i]? = some f) (c : Chg) (hc : c.pos ≤ f.now.length) (h1 : c.pos + c.b.length ≤ 1073741824) (h2 : (c.go f.now).length ≤ 1073741824) : (setF (stepD D) i ⟨c.go f.now, f.sure, f.opn ++ [c]⟩).Ok := by
  obtain ⟨ha0, ha1⟩ := armed_step h
  have hst := h.steps0
  have hfo := h.fil f (List.mem_of_getElem? hf)
  have hl : (setF (stepD D) i ⟨c.go f.now, f.sure, f.opn ++ [c]⟩).files.length = D.files.length := by simp [setF, stepD]
  refine ⟨fun p hp => ?_, fun p hp => ?_, fun e he => ?_, h.nowE, fun g hg => ?_, h.quota0, h.quota1, ha0, ha1, ?_, ?_, ?_⟩
  · rw [hl]; exact h.nowF p hp
  · rw [hl]; exact h.sureF p hp
  · rw [hl]; exact h.opnF e he
  · show g.Ok (D.steps + 1)
    rcases List.mem_or_eq_of_mem_set hg with h3 | h3
    · exact fil_mono (h.fil g h3) (by omega)
    · subst h3
      refine ⟨?_, ?_, hfo.sureL, fun d hd => ?_, h2, ?_⟩
      · show c.go f.now = chgAll f.sure (f.opn ++ [c])
        rw [chgAll_snoc, ← hfo.now]
      · show fits f.sure (f.opn ++ [c])
        rw [fits_snoc, ← hfo.now]
        exact ⟨hfo.fits, hc⟩
      · rcases List.mem_append.1 hd with h4 | h4
        · exact hfo.opnL d h4
        · obtain rfl := List.mem_singleton.1 h4
          exact h1
      · have := hfo.cnt
        show ((f.opn ++ [c]).length : Int) ≤ D.steps + 1
        rw [List.length_append]
        simp
        omega
  · show 0 ≤ D.steps + 1; omega
  · rw [hl]
    have := h.cntF
    show (D.files.length : Int) ≤ D.steps + 1
    omega
  · have := h.cntN
    show (D.sure.length : Int) + D.opn.length ≤ D.steps + 1
    omega
theorem syncd_ok {D : Dsk} (h : D.Ok) : ({ stepD D with sure := D.now, opn := [] } : Dsk).Ok := by
  obtain ⟨ha0, ha1⟩ := armed_step h
  have hst := h.steps0
  refine ⟨h.nowF, h.nowF, fun e he => by simp at he, rfl, fun f hf => fil_mono (h.fil f hf) (show D.steps ≤ D.steps + 1 by omega), h.quota0, h.quota1, ha0, ha1, ?_, ?_, ?_⟩
  · show 0 ≤ D.steps + 1; omega
  · have := h.cntF
    show (D.files.length : Int) ≤ D.steps + 1
    omega
  · have h1 := h.cntN
    have h2 := len_goAll D.opn D.sure
    rw [← h.nowE] at h2
    show (D.now.length : Int) + ((([] : List Ent)).length : Nat) ≤ D.steps + 1
    simp
    omega
/-! ### the example of chapter 05 -/
def nA : ByteArray := ⟨#[97]⟩
def d1 : Dsk := ⟨[⟨[], [], []⟩], [([97], 0)], [], [⟨nA, ⟨#[]⟩, 0⟩], 100, -1, false, 1⟩
def d2 : Dsk := ⟨[⟨[], [], []⟩], [([97], 0)], [([97], 0)], [], 100, -1, false, 2⟩
def d3 : Dsk := ⟨[⟨[120, 121, 122], [], [⟨0, [120, 121, 122], false⟩]⟩], [([97], 0)], [([97], 0)], [], 100, -1, false, 3⟩
def d4 : Dsk := ⟨[⟨[120, 121], [120, 121], []⟩], [([97], 0)], [([97], 0)], [], 100, -1, false, 3⟩
theorem al1 : createD (newD 100) nA = (none, d1) := by rfl
theorem al2 : syncDirD d1 = (none, d2) := by rfl
theorem al3 : appendD d2 nA [120, 121, 122] = (none, d3) := by rfl
theorem al4 : crashD d3 [0, 0, 2] = d4 := by rfl
theorem al5 : fileE d4 nA = none := by rfl
theorem al6 : readD d4 nA = [120, 121] := by rfl
theorem ok1 : d1.Ok := by
  have h := madeD_ok (newD_ok 100 (by decide) (by decide)) nA (by decide)
  exact h
theorem ok2 : d2.Ok := syncd_ok ok1
theorem ok3 : d3.Ok := grown_ok ok2 (i := 0) (f := ⟨[], [], []⟩) rfl ⟨0, [120, 121, 122], false⟩ (by decide) (by decide) (by decide)
theorem ok4 : d4.Ok := by
  refine ⟨ok3.nowF, ok3.sureF, fun e he => by simp [d4] at he, rfl, fun f hf => ?_, by decide, by decide, by decide, by decide, by decide, by decide, by decide⟩
  obtain rfl : f = ⟨[120, 121], [120, 121], []⟩ := by simpa [d4] using hf
  exact ⟨rfl, trivial, by decide, by simp, by decide, by decide⟩
end Go.Proofs.YtpcfnkmljchiiaaGreatDoor.DOk
namespace Go.Proofs.YtpcfnkmljchiiaaGreatDoor.DNw
open Go Go.RowKit Go.Maps Go.Proofs.YtpcfnkmljchiiaaGreatDoorW.PrintWords Go.Proofs.YtpcfnkmljchiiaaGreatDoorW.PrintLast DPl DAt Go.Proofs.YtpcfnkmljchiiaaGreatDoor.Is DNew
/-- A new disk. -/
theorem newD_calls (q : Int) (h0 : 0 ≤ q) (h1 : q ≤ 1073741824) (B : Bx) (w : World) (hB : B ≤ w.heap.size) (hq : B.q < w.heap.size) : Calls Tryz.prog 9 #[.int .i64 q] w fun e w' => ∃ p, e = .returned (.tuple #[.pointer (some ⟨p, 0, none⟩), .nilIface]) ∧ DiskAt B w' p (newD q) ∧ Turn B w w' := by
  refine (new_calls q h0 h1 w).mono ?_
  rintro e w' ⟨rfl, rfl⟩
  have s1 : (w.alloc (.map #[] 0)).heap.size = w.heap.size + 1 := by simp
  have s2 : ((w.alloc (.map #[] 0)).alloc (.map #[] 0)).heap.size = w.heap.size + 1 + 1 := by simp
  have b3 : Below ((w.alloc (.map #[] 0)).alloc (.map #[] 0)).heap.size ((w.alloc (.map #[] 0)).alloc (.map #[] 0)) (((w.alloc (.map #[] 0)).alloc (.map #[] 0)).alloc (newO w.heap.size (w.heap.size + 1) q)) := (Below.refl _ _).alloc (Nat.le_refl _) _
  have m1 : NamesAt (w.alloc (.map #[] 0)) w.heap.size [] := (World.ownsMap_made (H := Unit) w Tryz.prog 9 (plainElem Tryz.prog 3))
  have m2 : NamesAt ((w.alloc (.map #[] 0)).alloc (.map #[] 0)) (w.heap.size + 1) [] := by rw [← s1]; exact (World.ownsMap_made (H := Unit) (w.alloc (.map #[] 0)) Tryz.prog 9 (plainElem Tryz.prog 3))
  have ho := heap_alloc_new ((w.alloc (.map #[] 0)).alloc (.map #[] 0)) (newO w.heap.size (w.heap.size + 1) q)
  rw [s2] at ho
  refine ⟨_, rfl, ⟨[], w.heap.size, w.heap.size + 1, .slice none 0 0, .slice none 0 0, ?_⟩, ((((Turn.refl B w).alloc _).alloc _).alloc _)⟩
  exact ⟨ho, by omega, hB, by omega, by omega, (m1.below ((Below.refl _ _).alloc (Nat.le_refl _) _)).below b3, m2.below b3, Kd.R_nil _ _ _ _ _, Kd.R_nil _ _ _ _ _, ⟨rfl, fun i x f hx => by simp at hx, fun i j x y hx => by simp at hx⟩, by simp; omega⟩
/-- All sentinels lie below a place. -/
structure AllAt (B : Nat) (w : World) (E : Int → Addr) : Prop where
  errs : Errs All w E
  lo : ∀ c, All c → gOf c < B ∧ (E c).block < B
theorem AllAt.turn {B : Nat} {w w' : World} {E : Int → Addr} (h : AllAt B w E) (ht : Turn B w w') : AllAt B w' E := by
  refine ⟨⟨fun c hc => ?_, fun c hc => ?_, h.errs.ne⟩, h.lo⟩
  · have hv := h.errs.var c hc
    have hl := World.block_lt_of_cell? w _ hv
    rw [World.cell?_of_block (w := w) (ht.low _ (h.lo c hc).1 hl)]
    exact hv
  · obtain ⟨cs, t, hr⟩ := h.errs.row c hc
    exact ⟨cs, t, by rw [ht.low _ (h.lo c hc).2 (blk_lt hr)]; exact hr⟩
theorem all_of {c : Int} (h : dErr c) : All c := by unfold dErr at h; unfold All; omega
theorem AllAt.disk {B : Nat} {w : World} {E : Int → Addr} (h : AllAt B w E) : ErrAt B w E :=
  ⟨⟨fun c hc => h.errs.var c (all_of hc), fun c hc => h.errs.row c (all_of hc), fun c d hc hd => h.errs.ne c d (all_of hc) (all_of hd)⟩, fun c hc => h.lo c (all_of hc)⟩
/-- The errors of a world lie below its heap's end. -/
theorem AllAt.of {w : World} {E : Int → Addr} (h : Errs All w E) : AllAt w.heap.size w E :=
  ⟨h, fun c hc => ⟨World.block_lt_of_cell? w _ (h.var c hc), by obtain ⟨cs, t, hr⟩ := h.row c hc; exact blk_lt hr⟩⟩
end Go.Proofs.YtpcfnkmljchiiaaGreatDoor.DNw
namespace Go.Proofs.YtpcfnkmljchiiaaGreatDoor.DAlv
open Go Go.RowKit Go.Maps Go.Proofs.YtpcfnkmljchiiaaGreatDoorW.PrintWords Go.Proofs.YtpcfnkmljchiiaaGreatDoorW.PrintLast DBase DPl DAt Go.Proofs.YtpcfnkmljchiiaaGreatDoor.Is DNw DOk DFil DOps DSyn DSd DCr DCra DCrc
/-- A row of bytes that has been laid as a literal. -/
theorem lit_reads (w : World) (xs : List Int) (fr : Nat × Nat) (e : TypeId) (hn : xs.length ≤ 9223372036854775807) : Kd.C kb (w.alloc (.cells (nums .u8 xs).toArray e fr)) (some ⟨w.heap.size, 0, none⟩) xs.length xs := by
  refine ⟨rfl, hn, fun _ => ⟨_, rfl, fun j p hj => ⟨[.int .u8 p], rfl, rfl, fun i u hi => ?_⟩⟩⟩
  obtain rfl : i = 0 := by
    have := (List.getElem?_eq_some_iff.1 hi).1
    simpa using this
  have hu : u = .int .u8 p := by simpa using hi.symm
  subst hu
  rw [add_plain, World.cell?_alloc_mark]
  simp [nums, Kd.int, Kd.scalar, hj]
/-- Two bytes as a text. -/
theorem two_str {B : Nat} {w : World} {v : Value} {x y : Int} (h : Kd.R kb 5 w B (fun _ => True) v [x, y]) : ∃ g c, v = .slice (some ⟨g, 0, none⟩) 2 c ∧ (convert 32 9 (.slice (some ⟨g, 0, none⟩) 2 c)).run Tryz.prog w = .ok (.string (strOfNums [x, y])) w := by
  obtain ⟨inner, ho⟩ := Kd.R_own h
  obtain ⟨A, cp, e, hcp, hC⟩ := Kd.R_reads h
  obtain ⟨g, cp2, e2, _, _⟩ := World.ownsRow.form ho (by simp)
  rw [e] at e2
  simp only [Value.slice.injEq, Option.some.injEq] at e2
  obtain ⟨rfl, _, rfl⟩ := e2
  refine ⟨g, cp, e, ?_⟩
  have c0 := Kd.at_int hC 0 (by omega) (by simp)
  have c1 := Kd.at_int hC 1 (by omega) (by simp)
  obtain ⟨ad, ea, h0⟩ := c0
  obtain ⟨ad', ea', h1⟩ := c1
  obtain rfl := Option.some.inj ea
  obtain rfl := Option.some.inj ea'
  refine run_convert_bytes_arg (P := Tryz.prog) w 32 5 Tryz.underlying32 Tryz.underlying5 g 0 2 cp [x, y] rfl (fun i hi => ?_) 9 Tryz.underlying9
  match i, hi with
  | 0, _ => exact h0
  | 1, _ => exact h1
theorem int3_reads (w V : World) (a b c : Int) (B : Nat) (hV : Turn B (w.alloc (.cells #[.int .i64 a, .int .i64 b, .int .i64 c] 3)) V) : ReadsInt V .i64 (some ⟨w.heap.size, 0, none⟩) 3 [a, b, c] := by
  have ho := hV.kind _ _ (heap_alloc_new w (.cells #[.int .i64 a, .int .i64 b, .int .i64 c] 3)) rfl
  refine ⟨rfl, by omega, fun _ => ⟨_, rfl, fun j hj => ?_⟩⟩
  match j, hj with
  | 0, _ => exact (blk_cell ho 0).trans rfl
  | 1, _ => exact (blk_cell ho 1).trans rfl
  | 2, _ => exact (blk_cell ho 2).trans rfl
set_option maxRecDepth 100000 in
set_option maxHeartbeats 8000000 in
theorem alive_calls (B : Nat) (E : Int → Addr) (w : World) (hB : B ≤ w.heap.size) (hE : ErrAt B w E) : Calls Tryz.prog 7 #[] w fun e w' => e = .returned (.bool true) ∧ Turn B w w' := by
  have kc := fun (w : World) (C : Array Value) (n c : Nat) => Lib.run_convert_bytes_const (P := Tryz.prog) w 32 5 C n c Tryz.underlying32 Tryz.underlying5
  have HB := Aside0.mk hB
  have HE := Aside0.mk hE
  have HQ := Aside0.mk (show 0 < w.heap.size by have := World.block_lt_of_cell? w _ (hE.errs.var 8 (by simp [dErr])); omega)
  clear hE hB
  go_enter Tryz.func7, Tryz.ntmps7
  go_wp2_with (first
    | (go_at_call 9; refine (newD_calls 100 (by decide) (by decide) ⟨B, 0⟩ w HB.out HQ.out).mono ?_; rintro e w1 ⟨p, rfl, hd, ht⟩; have HD1 := Aside0.mk hd; have HT1 := Aside0.mk ht; clear hd ht)
    | (go_at_call 34; refine (create_calls (h := HD1.out) (hE := HE.out.turn HT1.out) (hk := newD_ok 100 (by decide) (by decide)) (hst := by decide) (s := nA) (hs := by decide)).mono ?_; rw [al1, errV_none]; rintro e w2 ⟨rfl, hd, ht⟩; have HD2 := Aside0.mk hd; have HT2 := Aside0.mk (HT1.out.trans ht); clear hd ht)
    | (go_at_call 35; refine (syncDir_calls (h := HD2.out) (hE := HE.out.turn HT2.out) (hk := ok1) (hst := by decide)).mono ?_; rw [al2, errV_none]; rintro e w3 ⟨rfl, hd, ht⟩; have HD3 := Aside0.mk hd; have HT3 := Aside0.mk (HT2.out.trans ht); clear hd ht)
    | (go_at_call 36;
       have HB4 := Aside0.mk (show Below w3.heap.size w3 (w3.alloc (.cells #[.int .u8 120, .int .u8 121, .int .u8 122] 5 (3, 4))) from (Below.refl _ _).alloc (Nat.le_refl _) _);
       refine (append_calls (h := HD3.out.below HB4.out) (hE := HE.out.turn (HT3.out.below HB4.out)) (hk := ok2) (hst := by decide) (s := nA) (hs := by decide) (b := [120, 121, 122]) (hC := lit_reads w3 [120, 121, 122] (3, 4) 5 (by decide)) (hc0 := by decide) (hbl := by decide)).mono ?_; rw [al3, errV_none]; rintro e w4 ⟨rfl, hd, ht⟩; have HD4 := Aside0.mk hd; have HT4 := Aside0.mk ((HT3.out.below HB4.out).trans ht); clear hd ht)
    | (go_at_call 14;
       have HB5 := Aside0.mk (show Below w4.heap.size w4 (w4.alloc (.cells #[.int .i64 0, .int .i64 0, .int .i64 2] 3)) from (Below.refl _ _).alloc (Nat.le_refl _) _);
       refine (crash_calls ⟨B, 0⟩ _ _ _ _ [0, 0, 2] _ (HD4.out.below HB5.out) ok3 (by decide) (by decide) (fun V hV => int3_reads w4 V 0 0 2 B hV)).mono ?_; rw [al4]; rintro e w5 ⟨rfl, hd, ht⟩; have HD5 := Aside0.mk hd; have HT5 := Aside0.mk ((HT4.out.below HB5.out).trans ht); clear hd ht)
    | (go_at_call 13; refine (read_ok (h := HD5.out) (hE := HE.out.turn HT5.out) (hk := ok4) (hst := by decide) (s := nA) (hs := by decide) (hq := al5)).mono ?_; rw [al6]; rintro e w6 ⟨v, rfl, hr, hb⟩; have HT6 := Aside0.mk (HT5.out.below hb); obtain ⟨g, c, rfl, hcv⟩ := two_str hr; rw [show strOfNums [120, 121] = (⟨#[120, 121]⟩ : ByteArray) by rfl] at hcv; clear hr hb))
  all_goals try go_ret
  exact ⟨rfl, HT6.out⟩
end Go.Proofs.YtpcfnkmljchiiaaGreatDoor.DAlv
