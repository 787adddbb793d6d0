/- DiskRooms walked. -/
import Derived.Test.YtpcfnkmljchiiaaDoorDRms
namespace Go.Proofs.YtpcfnkmljchiiaaDoor.DRmw
open Go Go.RowKit Go.Maps Go.Proofs.YtpcfnkmljchiiaaDoorW.PrintWords Go.Proofs.YtpcfnkmljchiiaaDoorW.PrintLast Go.Proofs.YtpcfnkmljchiiaaDoor.DBase Go.Proofs.YtpcfnkmljchiiaaDoor.DPl Go.Proofs.YtpcfnkmljchiiaaDoor.DAt Go.Proofs.YtpcfnkmljchiiaaDoor.Is Go.Proofs.YtpcfnkmljchiiaaDoor.DNw Go.Proofs.YtpcfnkmljchiiaaDoor.DOk Go.Proofs.YtpcfnkmljchiiaaDoor.DFil Go.Proofs.YtpcfnkmljchiiaaDoor.DUsd Go.Proofs.YtpcfnkmljchiiaaDoor.DCh2 Go.Proofs.YtpcfnkmljchiiaaDoor.DOps Go.Proofs.YtpcfnkmljchiiaaDoor.DSyn Go.Proofs.YtpcfnkmljchiiaaDoor.DSd Go.Proofs.YtpcfnkmljchiiaaDoor.DCr Go.Proofs.YtpcfnkmljchiiaaDoor.DCra Go.Proofs.YtpcfnkmljchiiaaDoor.DCrc Go.Proofs.YtpcfnkmljchiiaaDoor.DAlv Go.Proofs.YtpcfnkmljchiiaaDoor.Right Go.Proofs.YtpcfnkmljchiiaaDoor.DRms
set_option linter.unusedVariables false
set_option linter.unusedSimpArgs false
theorem u64_nonneg (a : Int) : 0 ≤ IntKind.u64.wrap a := by
  simp only [IntKind.wrap, IntKind.bits, IntKind.signed]
  simp
  omega
/-- A number modulo m, as Go says it. -/
theorem modded (a : Int) (m : Nat) (h0 : 0 < m) (hm : m ≤ 20000) : ∃ q : Nat, q < m ∧ IntKind.i64.wrap (Int.tmod (IntKind.u64.wrap a) (m : Int)) = (q : Int) := by
  have hA := u64_nonneg a
  generalize IntKind.u64.wrap a = A at hA
  have hmm : (m : Int) ≠ 0 := by omega
  have hmp : (0 : Int) < m := by omega
  have hq0 : Int.tmod A (m : Int) = A % (m : Int) := Int.tmod_eq_emod_of_nonneg hA
  have hq1 : 0 ≤ A % (m : Int) := Int.emod_nonneg _ hmm
  have hq2 : A % (m : Int) < (m : Int) := Int.emod_lt_of_pos _ hmp
  rw [hq0]
  generalize A % (m : Int) = r at hq1 hq2
  obtain ⟨q, rfl⟩ := Int.eq_ofNat_of_zero_le hq1
  refine ⟨q, by omega, ?_⟩
  rw [show IntKind.i64.wrap (q : Int) = wrap64 (q : Int) from i64_w _]
  unfold wrap64
  omega
/-- What the loop carries: the disk, the two numbers. -/
structure RS (w : World) (p ub : Nat) (D : Dsk) (u v : Nat) (W : World) : Prop where
  disk : DiskAt w.heap.size W p D
  used : W.heap[ub]? = some (.cells #[.int .i64 (u : Int), .int .i64 (v : Int)] 34 (0, 0))
  lo : w.heap.size ≤ ub
  turn : Turn w.heap.size w W
theorem RS.below {w W V : World} {p ub u v : Nat} {D : Dsk} (h : RS w p ub D u v W) (hb : Below W.heap.size W V) : RS w p ub D u v V :=
  ⟨h.disk.below hb, (hb.block ub (blk_lt h.used)).trans h.used, h.lo, h.turn.below hb⟩
theorem RS.act {w W V : World} {p ub u v : Nat} {D D1 : Dsk} (h : RS w p ub D u v W) (hd : DiskAt w.heap.size V p D1) (ht : Turn w.heap.size W V) : RS w p ub D1 u v V :=
  ⟨hd, ht.kind ub _ h.used rfl, h.lo, h.turn.trans ht⟩
theorem RS.put {w W : World} {p ub u v : Nat} {D : Dsk} (h : RS w p ub D u v W) (x : Bool) (n : Nat) : RS w p ub D (if x then u else n) (if x then n else v) (W.setCell ⟨ub, cond x 1 0, none⟩ (.int .i64 (n : Int))) := by
  refine ⟨?_, ?_, h.lo, h.turn.setNew h.lo _ _⟩
  · obtain ⟨L, m1, m2, fv, ov, hl⟩ := h.disk
    exact ⟨L, m1, m2, fv, ov, hl.foreign h.used (by decide) (by decide) (But.setCell W ⟨ub, cond x 1 0, none⟩ _)⟩
  · cases x with
    | false => exact blk_put h.used 0 _ rfl
    | true => exact blk_put h.used 1 _ rfl
theorem RS.cell {w W : World} {p ub u v : Nat} {D : Dsk} (h : RS w p ub D u v W) (x : Bool) : W.cell? ⟨ub, cond x 1 0, none⟩ = some (.int .i64 ((if x then v else u : Nat) : Int)) := by
  cases x with
  | false => exact (blk_cell h.used 0).trans rfl
  | true => exact (blk_cell h.used 1).trans rfl
theorem name_cell (W : World) (x : Bool) : (W.alloc (.cells #[.string ⟨#[97]⟩, .string ⟨#[98]⟩] 9)).cell? ⟨W.heap.size, cond x 1 0, none⟩ = some (.string (nm x)) := by
  cases x with
  | false => exact (blk_cell (heap_alloc_new W (.cells #[.string ⟨#[97]⟩, .string ⟨#[98]⟩] 9)) 0).trans rfl
  | true => exact (blk_cell (heap_alloc_new W (.cells #[.string ⟨#[97]⟩, .string ⟨#[98]⟩] 9)) 1).trans rfl
theorem infoU : (Tryd.prog.info? 5).map (fun i => (i.zero, i.size, i.bytes)) = some (some (.int .u8 0), 1, 1) := by kernel_rfl
theorem mk_cells (b : List Int) (hb : b = List.replicate b.length 0) : madeCells (Value.int .u8 0).cells (b.length * 1) = (nums .u8 b).toArray := by
  obtain ⟨n, hn⟩ : ∃ n, n = b.length := ⟨_, rfl⟩
  rw [← hn] at hb ⊢
  subst hb
  apply Array.ext
  · simp [madeCells, nums]
  · intro k h1 h2
    simp [madeCells, nums, Value.cells, Nat.mod_one]
theorem mk_row (b : List Int) (hb : b = List.replicate b.length 0) (hl : b.length < 1000) (W : World) : (Instr.makeSlice 37 (.int .i64 (b.length : Int)) (.int .i64 (b.length : Int))).run Tryd.prog W = .ok (.slice (some ⟨W.heap.size, 0, none⟩) b.length b.length) (W.alloc (.cells (nums .u8 b).toArray 5)) := by
  obtain ⟨i, hi, hz, hs, hby⟩ := info_parts infoU
  have h := run_makeSlice (P := Tryd.prog) (w := W) 37 5 i (.int .u8 0) Tryd.underlying37 hi hz .i64 .i64 (b.length : Int) (b.length : Int) (by omega) (by omega) (by rw [hs]; simp; omega) (by rw [hby]; omega) (by omega)
  rw [h]
  simp only [Int.toNat_natCast]
  rw [hs]
  rw [mk_cells b hb]
theorem used_at {B p : Nat} {D : Dsk} {w : World} (h : DiskAt B w p D) (hk : D.Ok) (hs : D.steps ≤ 1000000000) {n : Nat} (hn : usedD D = n) : Calls Tryd.prog 13 #[.pointer (some ⟨p, 0, none⟩)] w fun e w' => e = .returned (.int .i64 (n : Int)) ∧ Below w.heap.size w w' := by
  obtain ⟨L, m1, m2, fv, ov, hl⟩ := h
  subst hn
  exact used_calls p D w hl hk hs
set_option maxRecDepth 100000 in
set_option maxHeartbeats 16000000 in
theorem rooms_calls (q0 : Int) (h0 : -9223372036854775808 ≤ q0) (h1 : q0 ≤ 9223372036854775807) (l : List Int) (A : Option Addr) (c : Nat) (E : Int → Addr) (w : World) (hE : Errs All w E) (hc : l.length ≤ c) (hr : ReadsInt w .i64 A l.length l) :
    Calls Tryd.prog 4 #[.int .i64 q0, .slice A l.length c] w fun e w' => e = .returned (.bool true) ∧ Below w.heap.size w w' := by
  have HE := Aside0.mk (AllAt.of hE)
  have HAl := Aside0.mk (alive_calls w.heap.size E w (Nat.le_refl _) HE.out.disk)
  have HR := Aside0.mk (fun (V : World) (hT : Turn w.heap.size w V) => hr.below (hT.toBelow (Nat.le_refl _)))
  obtain ⟨q, hq, hqe⟩ := modded q0 3000 (by omega) (by omega)
  have hqe' : wrap64 (Int.tmod (IntKind.u64.wrap q0) 3000) = (q : Int) := (i64_w _).symm.trans hqe
  have hqe2 : IntKind.i64.wrap (Int.tmod (IntKind.u64.wrap q0) 3000) = (q : Int) := hqe
  obtain ⟨e1, k1, e2, hH⟩ := has_new (q : Int) (by omega) (by omega)
  have HE1 := Aside0.mk e1
  have HE2 := Aside0.mk e2
  have HK1 := Aside0.mk k1
  have HH0 := Aside0.mk hH
  have HQ := Aside0.mk hq
  have HC := Aside0.mk hc
  have hlb := hr.2.1
  obtain ⟨nl, hnl⟩ : ∃ nl, nl = l.length := ⟨_, rfl⟩
  rw [← hnl] at hlb ⊢
  have HNL := Aside0.mk hnl
  clear hE hr e1 e2 k1 hH hqe hc hnl h0 h1
  have hq0b : (q : Int) ≤ 3000 := by omega
  clear hq
  go_enter Tryd.func4, Tryd.ntmps4
  go_wp2_with (first
    | (go_at_call 6; refine HAl.out.mono ?_; rintro e w1 ⟨rfl, ht⟩; have HT1 := Aside0.mk ht; clear ht)
    | (go_at_call 7; refine (newD_calls q (by omega) (by omega) w.heap.size w1 HT1.out.size).mono ?_; rintro e w2 ⟨p, rfl, hd, ht⟩; have HD2 := Aside0.mk hd; have HT2 := Aside0.mk (HT1.out.trans ht); clear hd ht)
    | (go_at_call 8; refine (create_calls (h := HD2.out) (hE := HE.out.disk.turn HT2.out) (hk := newD_ok (q : Int) (by omega) (by omega)) (hst := (show (0 : Int) ≤ 1000000000 by decide)) (s := nA) (hs := by decide)).mono ?_; rw [HE1.out, errV_none]; rintro e w3 ⟨rfl, hd, ht⟩; have HD3 := Aside0.mk hd; have HT3 := Aside0.mk (HT2.out.trans ht); clear hd ht HD2)
    | (go_at_call 8; refine (create_calls (h := HD3.out) (hE := HE.out.disk.turn HT3.out) (hk := HK1.out) (hst := (show (1 : Int) ≤ 1000000000 by decide)) (s := nB) (hs := by decide)).mono ?_; rw [HE2.out, errV_none]; rintro e w4 ⟨rfl, hd, ht⟩; have HD4 := Aside0.mk hd; have HT4 := Aside0.mk (HT3.out.trans ht); clear hd ht HD3))
  -- LOOP
  have HU0 := Aside0.mk (show RS w p w4.heap.size (madeD (madeD (newD (q : Int)) nA) nB) 0 0 (w4.alloc (.cells #[.int .i64 0, .int .i64 0] 34)) from
    ⟨HD4.out.below ((Below.refl _ _).alloc (Nat.le_refl _) _), heap_alloc_new w4 _, HT4.out.size, HT4.out.alloc _⟩)
  generalize w4.heap.size = ub at HU0 ⊢
  generalize w4.alloc (.cells #[.int .i64 0, .int .i64 0] 34) = w5 at HU0 ⊢
  go_loopw [42] (fun ix wr => ∃ (j : Nat) (D : Dsk) (u v : Nat) (st : Int), j ≤ nl ∧ j ≤ 61 ∧ ix = .int .i64 j ∧ Aside0 (st ≤ 2 + 2 * (j : Int)) ∧ Aside0 (Has D q u v st) ∧ Aside0 (RS w p ub D u v wr)) (fun ix _ => nl - (Go.RowKit.intOf ix).toNat)
  case atStart => exact ⟨0, _, 0, 0, 2, by omega, by omega, rfl, ⟨by decide⟩, HH0, HU0⟩
  case round =>
    obtain ⟨j, D, u, v, st, hj, hj61, rfl, HSt, HH, HS⟩ := hrel
    by_cases hlt : j < nl
    · have t1 : decide (j < nl) = true := decide_eq_true hlt
      obtain ⟨ad, hA, hz⟩ := (HR.out wr HS.out.turn).at_ (j : Int) (by omega) (by have := HNL.out; omega)
      subst hA
      generalize rd l (j : Int) = z at hz
      have hz2 : wr.cell? (ad.add j) = some (.int .i64 z) := hz
      have a0 : (0 : Int) ≤ (j : Int) := by omega
      have a1 : (j : Int) < (nl : Int) := by omega
      by_cases h60 : 60 < j
      · have t2 : decide ((60 : Int) < (j : Int)) = true := decide_eq_true (by omega)
        have t2' : decide (60 < j) = true := decide_eq_true h60
        go_wp2
        all_goals try go_ret
        exact ⟨rfl, HS.out.turn.toBelow (Nat.le_refl _)⟩
      · have t2 : decide ((60 : Int) < (j : Int)) = false := decide_eq_false (by omega)
        have t2' : decide (60 < j) = false := decide_eq_false h60
        obtain ⟨n, hn, hne⟩ := modded z 1000 (by omega) (by omega)
        obtain ⟨b, hbe, hbn⟩ : ∃ b : List Int, b = List.replicate n 0 ∧ b.length = n := ⟨_, rfl, by simp⟩
        subst hbn
        have hne2 : IntKind.i64.wrap (Int.tmod (IntKind.u64.wrap z) 1000) = (b.length : Int) := hne
        have hne3 : wrap64 (Int.tmod (IntKind.u64.wrap z) 1000) = (b.length : Int) := (i64_w _).symm.trans hne
        have HBl := Aside0.mk hn
        have hmk := mk_row b hbe hn
        have HBN := Aside0.mk (show (b.length : Int) < 1000 by omega)
        clear hne hbe hn hz
        obtain ⟨x, hx⟩ : ∃ x : Bool, Int.tmod (j : Int) 2 = ((cond x 1 0 : Nat) : Int) := ⟨decide (j % 2 = 1), by
          rw [Int.tmod_eq_emod_of_nonneg (by omega)]
          by_cases h : j % 2 = 1
          · rw [decide_eq_true h]; show _ = (1 : Int); omega
          · rw [decide_eq_false h]; show _ = (0 : Int); omega⟩
        have HNC := Aside0.mk (name_cell wr x)
        have HSB := Aside0.mk (HS.out.below ((Below.refl _ wr).alloc (Nat.le_refl _) (.cells #[.string ⟨#[97]⟩, .string ⟨#[98]⟩] 9)))
        obtain ⟨kx, hkx⟩ : ∃ kx : Nat, kx = cond x 1 0 := ⟨_, rfl⟩
        rw [← hkx] at hx HNC
        have hkx2 : (kx : Int) < 2 := by rw [hkx]; cases x <;> decide
        have hkx0 : (0 : Int) ≤ (kx : Int) := by omega
        have HKX := Aside0.mk hkx
        clear hkx
        have nc := HNC.out
        have hjs : (j : Int) ≤ 60 := by omega
        have HSR := Aside0.mk (HSB.out.below ((Below.refl _ _).alloc (Nat.le_refl _) (.cells (nums .u8 b).toArray 5)))
        have HC0 := Aside0.mk (lit_reads (wr.alloc (.cells #[.string ⟨#[97]⟩, .string ⟨#[98]⟩] 9)) b (0, 0) 5 (by have := HBl.out; omega))
        rw [show (wr.alloc (.cells #[.string ⟨#[97]⟩, .string ⟨#[98]⟩] 9)).heap.size = wr.heap.size + 1 by simp] at HC0
        have HSti := Aside0.mk (show D.steps ≤ 1000000000 by have h9 := HH.out.ok.2.1; have h8 := HSt.out; omega)
        have hsum := HH.out.ok.2.2
        by_cases hfit : (b.length : Int) ≤ (q : Int) - u - v
        · have t3 : decide ((b.length : Int) ≤ (q : Int) - (u : Int) - (v : Int)) = true := decide_eq_true hfit
          have HAp := Aside0.mk (HH.out.append (by omega) x b HBl.out hfit)
          obtain ⟨uk, huk⟩ : ∃ uk : Nat, uk = if x then v else u := ⟨_, rfl⟩
          have HUk := Aside0.mk huk
          have huk2 : (uk : Int) ≤ 3000 := by rw [huk]; cases x <;> simp <;> omega
          clear hfit huk
          go_wp2_with (go_at_call 12; refine (append_calls (h := HSR.out.disk) (hE := HE.out.disk.turn HSR.out.turn) (hk := HH.out.ok.1) (hst := HSti.out) (s := nm x) (hs := by cases x <;> decide) (b := b) (hC := HC0.out) (hc0 := Nat.le_refl _) (hbl := by have := HBl.out; omega)).mono ?_; rw [HAp.out.1, errV_none]; rintro e w3 ⟨rfl, hd, ht⟩; have HS3 := Aside0.mk (HSR.out.act hd ht); have f0 := (blk_cell HS3.out.used 0).trans (rfl : _ = some (Value.int .i64 (u : Int))); have f1 := (blk_cell HS3.out.used 1).trans (rfl : _ = some (Value.int .i64 (v : Int))); have cK := HS3.out.cell x; rw [← HKX.out, ← HUk.out] at cK; have fK : w3.frozen? ⟨ub, kx, none⟩ = false := blk_frozen HS3.out.used _; clear hd ht)
          rw [show wrap64 ((uk : Int) + (b.length : Int)) = (uk : Int) + (b.length : Int) by have := HBN.out; unfold wrap64; omega]
          have HP := Aside0.mk (HS3.out.put x (uk + b.length))
          rw [Int.natCast_add, ← HKX.out] at HP
          obtain ⟨D1, u1, v1, st1, HSt1, HS6, HH6⟩ : ∃ (D1 : Dsk) (u1 v1 : Nat) (st1 : Int), Aside0 (st1 ≤ 3 + 2 * (j : Int)) ∧ Aside0 (RS w p ub D1 u1 v1 (w3.setCell ⟨ub, kx, none⟩ (.int .i64 ((uk : Int) + (b.length : Int))))) ∧ Aside0 (Has D1 q u1 v1 st1) :=
            ⟨_, _, _, st + 1, ⟨by have := HSt.out; omega⟩, HP, ⟨by have h9 := HAp.out.2; have h8 := HUk.out; cases x <;> simp at h8 <;> subst h8 <;> exact h9⟩⟩
          clear HP cK fK f0 f1
          generalize w3.setCell ⟨ub, kx, none⟩ (.int .i64 ((uk : Int) + (b.length : Int))) = W6 at HS6 ⊢
          have g0 := (blk_cell HS6.out.used 0).trans (rfl : _ = some (Value.int .i64 (u1 : Int)))
          have g1 := (blk_cell HS6.out.used 1).trans (rfl : _ = some (Value.int .i64 (v1 : Int)))
          refine start_ (n := 8) (S := fun w' => w'.cell? ⟨ub, 0, none⟩ = some (.int .i64 (u1 : Int)) ∧ w'.cell? ⟨ub, 1, none⟩ = some (.int .i64 (v1 : Int))) (ds := []) #[false, false, false, false, false, false, false, false] (by kernel_rfl) rfl rfl ⟨g0, g1⟩ (fun hHeld => ?_)
          have HS7 := Aside0.mk (HS6.out.below (Below.refl _ _).drew)
          generalize World.drew W6 = W7 at HS7 hHeld ⊢
          refine pure_ (i := 0) (N := some 88) (v := ?_) (a' := ?_) #[true, false, false, false, false, false, false, false] rfl rfl (by kernel_rfl) (fun _ _ _ h => h) (Or.inl ⟨by rfl, ?_⟩) ?_ ?_
          rotate_left
          · intro w'
            go_simp
            with_reducible rfl
          rotate_left
          · simp only [Act.put, List.setIfInBounds_toArray, List.set_cons_zero, List.set_cons_succ, i64_w, i32_w]
            rfl
          refine pure_ (i := 2) (N := some 90) (v := ?_) (a' := ?_) #[true, false, true, false, false, false, false, false] rfl rfl (by kernel_rfl) (fun _ _ _ h => h) (Or.inl ⟨by rfl, ?_⟩) ?_ ?_
          rotate_left
          · intro w'
            go_simp
            with_reducible rfl
          rotate_left
          · simp only [Act.put, List.setIfInBounds_toArray, List.set_cons_zero, List.set_cons_succ, i64_w, i32_w]
            rfl
          refine pure_ (i := 4) (N := some 92) (v := ?_) (a' := ?_) #[true, false, true, false, true, false, false, false] rfl rfl (by kernel_rfl) (fun _ _ _ h => h) (Or.inl ⟨by rfl, ?_⟩) ?_ ?_
          rotate_left
          · intro w'
            go_simp
            with_reducible rfl
          rotate_left
          · simp only [Act.put, List.setIfInBounds_toArray, List.set_cons_zero, List.set_cons_succ, i64_w, i32_w]
            rfl
          refine take_ (i := 3) (N := some 91) (v := ?_) (a' := ?_) #[true, false, true, true, true, false, false, false] rfl rfl (by kernel_rfl) (fun _ _ _ h => h) (Or.inl ⟨by rfl, ?_⟩) hHeld ?_ ?_
          rotate_left
          · rintro w' ⟨s0, s1⟩
            go_simp
            with_reducible rfl
          rotate_left
          · simp only [Act.put, List.setIfInBounds_toArray, List.set_cons_zero, List.set_cons_succ, i64_w, i32_w]
            rfl
          refine take_ (i := 5) (N := some 93) (v := ?_) (a' := ?_) #[true, false, true, true, true, true, false, false] rfl rfl (by kernel_rfl) (fun _ _ _ h => h) (Or.inl ⟨by rfl, ?_⟩) hHeld ?_ ?_
          rotate_left
          · rintro w' ⟨s0, s1⟩
            go_simp
            with_reducible rfl
          rotate_left
          · simp only [Act.put, List.setIfInBounds_toArray, List.set_cons_zero, List.set_cons_succ, i64_w, i32_w]
            rfl
          refine pure_ (i := 6) (N := some 94) (v := ?_) (a' := ?_) #[true, false, true, true, true, true, true, false] rfl rfl (by kernel_rfl) (fun _ _ _ h => h) (Or.inl ⟨by rfl, ?_⟩) ?_ ?_
          rotate_left
          · intro w'
            go_simp
            with_reducible rfl
          rotate_left
          · simp only [Act.put, List.setIfInBounds_toArray, List.set_cons_zero, List.set_cons_succ, i64_w, i32_w]
            rfl
          refine one_ (i := 1) (N := some 89) #[true, true, true, true, true, true, true, false] rfl rfl (by kernel_rfl) (by decide) (fun K hK => ?_)
          refine goes_ Tryd.func13 (by kernel_rfl) rfl #[.pointer (some ⟨p, 0, none⟩)] (by rfl) rfl rfl (by simp only [List.map_toArray, List.map_cons, List.map_nil]; rfl) ?_
          with_reducible refine (used_at HS7.out.disk HH6.out.ok.1 (by have h9 := HH6.out.ok.2.1; have h8 := HSt1.out; omega) HH6.out.used).mono ?_
          rintro e W8 ⟨rfl, hb8⟩
          refine ⟨_, rfl, ?_⟩
          have HS8 := Aside0.mk (HS7.out.below hb8)
          clear hb8
          refine hK.out _ _ ⟨((blk_cell HS8.out.used 0).trans rfl), ((blk_cell HS8.out.used 1).trans rfl)⟩ (fun hHeld => ?_)
          clear hK K
          refine norm_ (a' := ?_) ?_ ?_
          rotate_left
          · show Act.put _ (some 89) _ = _
            simp only [Act.put, List.setIfInBounds_toArray, List.set_cons_zero, List.set_cons_succ, i64_w, i32_w]
            rfl
          refine pure_ (i := 7) (N := some 95) (v := ?_) (a' := ?_) #[true, true, true, true, true, true, true, true] rfl rfl (by kernel_rfl) (fun _ _ _ h => h) (Or.inl ⟨by rfl, ?_⟩) ?_ ?_
          rotate_left
          · intro w'
            go_simp
            with_reducible rfl
          rotate_left
          · simp only [Act.put, List.setIfInBounds_toArray, List.set_cons_zero, List.set_cons_succ, i64_w, i32_w]
            rfl
          refine done_ (by kernel_rfl) ?_
          have hs6 := HH6.out.ok.2.2
          have sW : wrap64 ((u1 : Int) + (v1 : Int)) = (u1 : Int) + (v1 : Int) := by unfold wrap64; omega
          simp only [Int.natCast_add, sW, bne_self_eq_false]
          clear sW
          by_cases h7 : (j : Int) % 7 = 6
          · have t7 : ((j : Int) % 7 == 6) = true := by simp [h7]
            clear h7
            have HTr := Aside0.mk (HH6.out.trunc (by omega) x)
            have HSt6 := Aside0.mk (show D1.steps ≤ 1000000000 by have h9 := HH6.out.ok.2.1; have h8 := HSt1.out; omega)
            go_wp2_with (go_at_call 14; refine (trunc_calls (h := HS8.out.disk) (hE := HE.out.disk.turn HS8.out.turn) (hk := HH6.out.ok.1) (hst := HSt6.out) (s := nm x) (hs := by cases x <;> decide) (n := 0)).mono ?_; rw [HTr.out.1, errV_none]; rintro e w9 ⟨rfl, hd, ht⟩; have HS9 := Aside0.mk (HS8.out.act hd ht); have cK := HS9.out.cell x; rw [← HKX.out] at cK; have fK : w9.frozen? ⟨ub, kx, none⟩ = false := blk_frozen HS9.out.used _; clear hd ht)
            have HP9 := Aside0.mk (HS9.out.put x 0)
            rw [← HKX.out, show ((0 : Nat) : Int) = 0 from rfl] at HP9
            go_roundw
            case rel => exact ⟨j + 1, _, _, _, _, by omega, by omega, by go_num, ⟨by have := HSt1.out; omega⟩, ⟨HTr.out.2⟩, HP9⟩
            case measure => simp [Go.RowKit.intOf]; omega
          · have t7 : ((j : Int) % 7 == 6) = false := by simpa using h7
            clear h7
            go_wp2
            go_roundw
            case rel => exact ⟨j + 1, D1, u1, v1, st1, by omega, by omega, by go_num, ⟨by have := HSt1.out; omega⟩, HH6, HS8⟩
            case measure => simp [Go.RowKit.intOf]; omega
        · have t3 : decide ((b.length : Int) ≤ (q : Int) - (u : Int) - (v : Int)) = false := decide_eq_false hfit
          have t4 : ((b.length : Int) == 0) = false := by simp; intro h0; apply hfit; rw [h0]; simp; omega
          have HAp := Aside0.mk (HH.out.full x b hfit)
          clear hfit
          go_wp2_with (first
            | (go_at_call 12; refine (append_calls (h := HSR.out.disk) (hE := HE.out.disk.turn HSR.out.turn) (hk := HH.out.ok.1) (hst := HSti.out) (s := nm x) (hs := by cases x <;> decide) (b := b) (hC := HC0.out) (hc0 := Nat.le_refl _) (hbl := by have := HBl.out; omega)).mono ?_; rw [HAp.out, errV_some]; rintro e w3 ⟨rfl, hd, ht⟩; have HS3 := Aside0.mk (HSR.out.act hd ht); have f0 := (blk_cell HS3.out.used 0).trans (rfl : _ = some (Value.int .i64 (u : Int))); have f1 := (blk_cell HS3.out.used 1).trans (rfl : _ = some (Value.int .i64 (v : Int))); clear hd ht)
            | (go_at_call 10; refine (num_calls (some 7) 7 E _ (HE.out.turn HS3.out.turn).errs rfl).mono ?_; rintro e W6 ⟨rfl, hb⟩; have HS5 := Aside0.mk (HS3.out.below hb); clear hb))
          obtain ⟨D1, u1, v1, st1, HSt1, HS6, HH6⟩ : ∃ (D1 : Dsk) (u1 v1 : Nat) (st1 : Int), Aside0 (st1 ≤ 3 + 2 * (j : Int)) ∧ Aside0 (RS w p ub D1 u1 v1 W6) ∧ Aside0 (Has D1 q u1 v1 st1) :=
            ⟨D, u, v, st, ⟨by have := HSt.out; omega⟩, HS5, HH⟩
          clear f0 f1
          have g0 := (blk_cell HS6.out.used 0).trans (rfl : _ = some (Value.int .i64 (u1 : Int)))
          have g1 := (blk_cell HS6.out.used 1).trans (rfl : _ = some (Value.int .i64 (v1 : Int)))
          refine start_ (n := 8) (S := fun w' => w'.cell? ⟨ub, 0, none⟩ = some (.int .i64 (u1 : Int)) ∧ w'.cell? ⟨ub, 1, none⟩ = some (.int .i64 (v1 : Int))) (ds := []) #[false, false, false, false, false, false, false, false] (by kernel_rfl) rfl rfl ⟨g0, g1⟩ (fun hHeld => ?_)
          have HS7 := Aside0.mk (HS6.out.below (Below.refl _ _).drew)
          generalize World.drew W6 = W7 at HS7 hHeld ⊢
          refine pure_ (i := 0) (N := some 88) (v := ?_) (a' := ?_) #[true, false, false, false, false, false, false, false] rfl rfl (by kernel_rfl) (fun _ _ _ h => h) (Or.inl ⟨by rfl, ?_⟩) ?_ ?_
          rotate_left
          · intro w'
            go_simp
            with_reducible rfl
          rotate_left
          · simp only [Act.put, List.setIfInBounds_toArray, List.set_cons_zero, List.set_cons_succ, i64_w, i32_w]
            rfl
          refine pure_ (i := 2) (N := some 90) (v := ?_) (a' := ?_) #[true, false, true, false, false, false, false, false] rfl rfl (by kernel_rfl) (fun _ _ _ h => h) (Or.inl ⟨by rfl, ?_⟩) ?_ ?_
          rotate_left
          · intro w'
            go_simp
            with_reducible rfl
          rotate_left
          · simp only [Act.put, List.setIfInBounds_toArray, List.set_cons_zero, List.set_cons_succ, i64_w, i32_w]
            rfl
          refine pure_ (i := 4) (N := some 92) (v := ?_) (a' := ?_) #[true, false, true, false, true, false, false, false] rfl rfl (by kernel_rfl) (fun _ _ _ h => h) (Or.inl ⟨by rfl, ?_⟩) ?_ ?_
          rotate_left
          · intro w'
            go_simp
            with_reducible rfl
          rotate_left
          · simp only [Act.put, List.setIfInBounds_toArray, List.set_cons_zero, List.set_cons_succ, i64_w, i32_w]
            rfl
          refine take_ (i := 3) (N := some 91) (v := ?_) (a' := ?_) #[true, false, true, true, true, false, false, false] rfl rfl (by kernel_rfl) (fun _ _ _ h => h) (Or.inl ⟨by rfl, ?_⟩) hHeld ?_ ?_
          rotate_left
          · rintro w' ⟨s0, s1⟩
            go_simp
            with_reducible rfl
          rotate_left
          · simp only [Act.put, List.setIfInBounds_toArray, List.set_cons_zero, List.set_cons_succ, i64_w, i32_w]
            rfl
          refine take_ (i := 5) (N := some 93) (v := ?_) (a' := ?_) #[true, false, true, true, true, true, false, false] rfl rfl (by kernel_rfl) (fun _ _ _ h => h) (Or.inl ⟨by rfl, ?_⟩) hHeld ?_ ?_
          rotate_left
          · rintro w' ⟨s0, s1⟩
            go_simp
            with_reducible rfl
          rotate_left
          · simp only [Act.put, List.setIfInBounds_toArray, List.set_cons_zero, List.set_cons_succ, i64_w, i32_w]
            rfl
          refine pure_ (i := 6) (N := some 94) (v := ?_) (a' := ?_) #[true, false, true, true, true, true, true, false] rfl rfl (by kernel_rfl) (fun _ _ _ h => h) (Or.inl ⟨by rfl, ?_⟩) ?_ ?_
          rotate_left
          · intro w'
            go_simp
            with_reducible rfl
          rotate_left
          · simp only [Act.put, List.setIfInBounds_toArray, List.set_cons_zero, List.set_cons_succ, i64_w, i32_w]
            rfl
          refine one_ (i := 1) (N := some 89) #[true, true, true, true, true, true, true, false] rfl rfl (by kernel_rfl) (by decide) (fun K hK => ?_)
          refine goes_ Tryd.func13 (by kernel_rfl) rfl #[.pointer (some ⟨p, 0, none⟩)] (by rfl) rfl rfl (by simp only [List.map_toArray, List.map_cons, List.map_nil]; rfl) ?_
          with_reducible refine (used_at HS7.out.disk HH6.out.ok.1 (by have h9 := HH6.out.ok.2.1; have h8 := HSt1.out; omega) HH6.out.used).mono ?_
          rintro e W8 ⟨rfl, hb8⟩
          refine ⟨_, rfl, ?_⟩
          have HS8 := Aside0.mk (HS7.out.below hb8)
          clear hb8
          refine hK.out _ _ ⟨((blk_cell HS8.out.used 0).trans rfl), ((blk_cell HS8.out.used 1).trans rfl)⟩ (fun hHeld => ?_)
          clear hK K
          refine norm_ (a' := ?_) ?_ ?_
          rotate_left
          · show Act.put _ (some 89) _ = _
            simp only [Act.put, List.setIfInBounds_toArray, List.set_cons_zero, List.set_cons_succ, i64_w, i32_w]
            rfl
          refine pure_ (i := 7) (N := some 95) (v := ?_) (a' := ?_) #[true, true, true, true, true, true, true, true] rfl rfl (by kernel_rfl) (fun _ _ _ h => h) (Or.inl ⟨by rfl, ?_⟩) ?_ ?_
          rotate_left
          · intro w'
            go_simp
            with_reducible rfl
          rotate_left
          · simp only [Act.put, List.setIfInBounds_toArray, List.set_cons_zero, List.set_cons_succ, i64_w, i32_w]
            rfl
          refine done_ (by kernel_rfl) ?_
          have hs6 := HH6.out.ok.2.2
          have sW : wrap64 ((u1 : Int) + (v1 : Int)) = (u1 : Int) + (v1 : Int) := by unfold wrap64; omega
          simp only [Int.natCast_add, sW, bne_self_eq_false]
          clear sW
          by_cases h7 : (j : Int) % 7 = 6
          · have t7 : ((j : Int) % 7 == 6) = true := by simp [h7]
            clear h7
            have HTr := Aside0.mk (HH6.out.trunc (by omega) x)
            have HSt6 := Aside0.mk (show D1.steps ≤ 1000000000 by have h9 := HH6.out.ok.2.1; have h8 := HSt1.out; omega)
            go_wp2_with (go_at_call 14; refine (trunc_calls (h := HS8.out.disk) (hE := HE.out.disk.turn HS8.out.turn) (hk := HH6.out.ok.1) (hst := HSt6.out) (s := nm x) (hs := by cases x <;> decide) (n := 0)).mono ?_; rw [HTr.out.1, errV_none]; rintro e w9 ⟨rfl, hd, ht⟩; have HS9 := Aside0.mk (HS8.out.act hd ht); have cK := HS9.out.cell x; rw [← HKX.out] at cK; have fK : w9.frozen? ⟨ub, kx, none⟩ = false := blk_frozen HS9.out.used _; clear hd ht)
            have HP9 := Aside0.mk (HS9.out.put x 0)
            rw [← HKX.out, show ((0 : Nat) : Int) = 0 from rfl] at HP9
            go_roundw
            case rel => exact ⟨j + 1, _, _, _, _, by omega, by omega, by go_num, ⟨by have := HSt1.out; omega⟩, ⟨HTr.out.2⟩, HP9⟩
            case measure => simp [Go.RowKit.intOf]; omega
          · have t7 : ((j : Int) % 7 == 6) = false := by simpa using h7
            clear h7
            go_wp2
            go_roundw
            case rel => exact ⟨j + 1, D1, u1, v1, st1, by omega, by omega, by go_num, ⟨by have := HSt1.out; omega⟩, HH6, HS8⟩
            case measure => simp [Go.RowKit.intOf]; omega
    · have t1 : decide (j < nl) = false := decide_eq_false hlt
      go_wp2
      all_goals try go_ret
      exact ⟨rfl, HS.out.turn.toBelow (Nat.le_refl _)⟩
end Go.Proofs.YtpcfnkmljchiiaaDoor.DRmw
