/- Steps towards RBoth: DChg. -/
import Derived.Test.YtpcfnkmljchiiaaGreatDoorZ05
import Derived.Test.YtpcfnkmljchiiaaGreatDoorZ07
import Derived.RegionTactic
set_option linter.unusedVariables false
set_option linter.unusedSimpArgs false
/- change.do: bytes behind a step. -/
namespace Go.Proofs.YtpcfnkmljchiiaaGreatDoor.DChg
open Go Go.RowKit Go.Proofs.YtpcfnkmljchiiaaGreatDoorW.PrintWords Go.Proofs.YtpcfnkmljchiiaaGreatDoorW.PrintLast Go.Proofs.YtpcfnkmljchiiaaGreatDoorW.PrintMore DBase DPl DAt DBy
attribute [local go_sem] max2_int min2_int max_two min_two max_three min_three max_four min_four
/-- 'b[:m]' of bytes. -/
theorem cut_top (A : Option Addr) (n c : Nat) (m : Nat) (hm : m ≤ c) (W : World) : (Instr.slice 32 (.slice A n c) none (some (.int .i64 (m : Int))) none).run Tryz.prog W = .ok (.slice A m c) W := by
  obtain ⟨i, hi, _⟩ := info_parts info5
  have hel : Tryz.prog.elem 32 = 5 := by simp [Program.elem, Tryz.underlying32]
  have hu : Tryz.prog.underlying 32 = some (.slice (Tryz.prog.elem 32)) := by rw [hel]; exact Tryz.underlying32
  rw [run_slice_h W 32 A n c hu .i64 (m : Int) (Int.natCast_nonneg _) (by omega), hel]
  cases A with
  | none => simp [sizeOf, typeInfo, hi, sliced, Result.andThen]
  | some a => simp [sizeOf, typeInfo, hi, sliced, Result.andThen, addr_zero]
/-- 'b[m:]' of bytes. -/
theorem cut_from (A : Option Addr) (c : Nat) (l : List Int) (m : Nat) (hm : m ≤ l.length) (hc : l.length ≤ c) :
    ∃ A' : Option Addr, (∀ W : World, (Instr.slice 32 (.slice A l.length c) (some (.int .i64 (m : Int))) none none).run Tryz.prog W = .ok (.slice A' (l.drop m).length (c - m)) W) ∧ (l.drop m).length ≤ c - m ∧
      ∀ w : World, Kd.C kb w A l.length l → Kd.C kb w A' (l.drop m).length (l.drop m) := by
  obtain ⟨i, hi, _, h1, _⟩ := info_parts info5
  obtain ⟨A', r, k⟩ := print_cut (P := Tryz.prog) 32 5 .i64 Tryz.underlying32 hi h1 A l.length c m hm
  refine ⟨A', fun W => ?_, by rw [List.length_drop]; omega, fun w hC => ?_⟩
  · rw [List.length_drop]; exact r W
  · have h2 := k w .u8 l hc (Kd.reads_of_C (enc := Value.int .u8) (d := (0 : Int)) (h1 := fun _ => rfl) hC)
    rw [List.length_drop]
    exact Kd.C_of_reads (enc := Value.int .u8) (d := (0 : Int)) (h1 := fun _ => rfl) h2
set_option maxRecDepth 100000 in
set_option maxHeartbeats 4000000 in
theorem chg_cut (A : Option Addr) (cp : Nat) (l t : List Int) (pos : Nat) (bv : Value) (w : World) (hC : Kd.C kb w A l.length l) (hcp : l.length ≤ cp) (hp : pos ≤ l.length) (hl : l.length ≤ 1073741824) (ht : t = l.take pos) :
    Calls Tryz.prog 66 #[.agg #[.int .i64 (pos : Int), bv, .bool true], .slice A l.length cp] w fun e w' => ∃ v, e = .returned v ∧ Kd.R kb 5 w' w.heap.size (fun _ => True) v t ∧ Below w.heap.size w w' := by
  have hct := cut_top A l.length cp pos (by omega)
  have hlen : t.length = pos := by rw [ht, List.length_take]; omega
  have HF : Aside0 (slices_Clone_byte_byte.f t = some t) := ⟨if_pos (by rw [hlen]; omega)⟩
  have HC := Aside0.mk (fun W (hb : Below w.heap.size w W) => (by rw [ht]; exact Kd.C_below (Kd.C_take hC hp) hb : Kd.C kb W A t.length t))
  have HP := Aside0.mk (show t.length ≤ cp by rw [hlen]; omega)
  rw [← hlen] at hct
  obtain ⟨q, hq⟩ : ∃ q, q = pos := ⟨_, rfl⟩
  rw [← hq]
  rw [hlen, ← hq] at hct
  have HQ := Aside0.mk (show q = t.length by rw [hlen, hq])
  have hct2 : ∀ W : World, (Instr.slice 32 (.slice A l.length cp) none (some (.int .i64 (q : Int))) none).run Tryz.prog W = .ok (.slice A t.length cp) W := by rw [← HQ.out]; exact hct
  clear hC hcp hp hl hct hlen ht hq
  go_enter Tryz.func66, Tryz.ntmps66
  go_wp2_with (go_at_call 63; refine (slices_Clone_byte_byte.calls A cp t _ _ (HC.out _ ((Below.refl _ _).alloc (Nat.le_refl _) _)) HP.out HF.out).mono ?_; rintro e w1 ⟨v, rfl, hr, hb⟩; have HR := Aside0.mk hr; have HB := Aside0.mk hb; clear hr hb)
  go_ret
  exact ⟨_, rfl, Kd.R_lower HR.out (by simp), ((Below.refl _ _).alloc (Nat.le_refl _) _).trans (HB.out.mono (by simp))⟩
/-- Three rows of bytes laid as a row of rows read so. -/
theorem three_rows {w : World} {e q : TypeId} {A B D : Option Addr} {a b d : Nat} {l1 l2 l3 : List Int} (h1 : Kd.C (Kd.int .u8) w A l1.length l1) (h2 : Kd.C (Kd.int .u8) w B l2.length l2) (h3 : Kd.C (Kd.int .u8) w D l3.length l3)
    (c1 : l1.length ≤ a) (c2 : l2.length ≤ b) (c3 : l3.length ≤ d) :
    Kd.C (Kd.slice e (Kd.int .u8)) (w.alloc (.cells #[.slice A l1.length a, .slice B l2.length b, .slice D l3.length d] q)) (some ⟨w.heap.size, 0, none⟩) [l1, l2, l3].length [l1, l2, l3] := by
  have hb : Below w.heap.size w (w.alloc (.cells #[.slice A l1.length a, .slice B l2.length b, .slice D l3.length d] q)) := (Below.refl _ _).alloc (Nat.le_refl _) _
  have one : ∀ (j : Nat) (X : Option Addr) (n c : Nat) (l : List Int), (#[Value.slice A l1.length a, .slice B l2.length b, .slice D l3.length d])[j]? = some (.slice X l.length c) → l.length ≤ c → Kd.C (Kd.int .u8) w X l.length l →
      ∃ cs, cs.length = 1 ∧ (Kd.slice e (Kd.int .u8)).K (w.alloc (.cells #[.slice A l1.length a, .slice B l2.length b, .slice D l3.length d] q)) l cs ∧ ∀ i u, cs[i]? = some u → (w.alloc (.cells #[.slice A l1.length a, .slice B l2.length b, .slice D l3.length d] q)).cell? ((⟨w.heap.size, 0, none⟩ : Addr).add (j * 1 + i)) = some u := fun j X n c l hj hl hC => by
    refine ⟨[.slice X l.length c], rfl, ⟨X, c, rfl, hl, Kd.C_below hC hb⟩, fun i u hi => ?_⟩
    obtain rfl : i = 0 := by
      have := (List.getElem?_eq_some_iff.1 hi).1
      simpa using this
    obtain rfl : _ = u := by simpa using hi
    rw [add_plain, World.cell?_alloc_new]
    simpa using hj
  refine ⟨rfl, by simp, fun _ => ⟨_, rfl, fun j p hj => ?_⟩⟩
  match j, hj with
  | 0, hj =>
    obtain rfl : l1 = p := by simpa using hj
    exact one 0 A 0 a l1 rfl c1 h1
  | 1, hj =>
    obtain rfl : l2 = p := by simpa using hj
    exact one 1 B 0 b l2 rfl c2 h2
  | 2, hj =>
    obtain rfl : l3 = p := by simpa using hj
    exact one 2 D 0 d l3 rfl c3 h3
  | j + 3, hj => exact absurd (List.getElem?_eq_some_iff.1 hj).1 (by simp)
/-- Concat of a row of three that lies in a new block. -/
theorem concat3 {w : World} {A B D : Option Addr} {a b d : Nat} {l1 l2 l3 r : List Int} (h1 : Kd.C kb w A l1.length l1) (h2 : Kd.C kb w B l2.length l2) (h3 : Kd.C kb w D l3.length l3)
    (c1 : l1.length ≤ a) (c2 : l2.length ≤ b) (c3 : l3.length ≤ d) (hf : slices_Concat_byte_byte.f [l1, l2, l3] = some r) :
    Calls Tryz.prog 72 #[.slice (some ⟨w.heap.size, 0, none⟩) 3 3] ((w.alloc (.cells #[.slice A l1.length a, .slice B l2.length b, .slice D l3.length d] 32)).drew) fun e w' => ∃ v, e = .returned v ∧ Kd.R kb 5 w' (w.heap.size + 1) (fun _ => True) v r ∧ Below w.heap.size w w' := by
  refine (slices_Concat_byte_byte.calls _ 3 [l1, l2, l3] _ _ (three_rows (w := w.drew) h1 h2 h3 c1 c2 c3) (by simp) hf).mono ?_
  rintro e w1 ⟨v, rfl, hr, hb⟩
  have e0 : w.heap.size + 1 = ((w.alloc (.cells #[.slice A l1.length a, .slice B l2.length b, .slice D l3.length d] 32)).drew).heap.size := by simp
  have hr2 : Kd.R kb 5 w1 ((w.alloc (.cells #[.slice A l1.length a, .slice B l2.length b, .slice D l3.length d] 32)).drew).heap.size (fun _ => True) v r := hr
  have hb2 : Below ((w.alloc (.cells #[.slice A l1.length a, .slice B l2.length b, .slice D l3.length d] 32)).drew).heap.size ((w.alloc (.cells #[.slice A l1.length a, .slice B l2.length b, .slice D l3.length d] 32)).drew) w1 := hb
  rw [← e0] at hr2 hb2
  exact ⟨v, rfl, hr2, ((Below.refl _ _).alloc (Nat.le_refl _) _).drew.trans (hb2.mono (by omega))⟩
set_option maxRecDepth 100000 in
set_option maxHeartbeats 4000000 in
theorem chg_put (A A2 : Option Addr) (cp cp2 : Nat) (l b t r : List Int) (pos : Nat) (w : World) (hC : Kd.C kb w A l.length l) (hcp : l.length ≤ cp) (hC2 : Kd.C kb w A2 b.length b) (hcp2 : b.length ≤ cp2) (hp : pos ≤ l.length) (hl : l.length ≤ 1073741824) (hl2 : pos + b.length ≤ 1080000000)
    (ht : t = l.take pos) (hr : r = l.drop (min l.length (pos + b.length))) :
    Calls Tryz.prog 66 #[.agg #[.int .i64 (pos : Int), .slice A2 b.length cp2, .bool false], .slice A l.length cp] w fun e w' => ∃ v, e = .returned v ∧ Kd.R kb 5 w' w.heap.size (fun _ => True) v (t ++ b ++ r) ∧ Below w.heap.size w w' := by
  have hct := cut_top A l.length cp pos (by omega)
  obtain ⟨A', hcf, hcl, hCr⟩ := cut_from A cp l (min l.length (pos + b.length)) (by omega) hcp
  have hlen : t.length = pos := by rw [ht, List.length_take]; omega
  have hlr : r.length = l.length - min l.length (pos + b.length) := by rw [hr, List.length_drop]
  rw [← hr] at hcf hcl hCr
  have HF : Aside0 (slices_Concat_byte_byte.f [t, b, r] = some (t ++ b ++ r)) := ⟨by
    have e : [t, b, r].flatten = t ++ b ++ r := by simp
    unfold slices_Concat_byte_byte.f
    rw [e]
    exact if_pos (by rw [List.length_append, List.length_append, hlen, hlr]; omega)⟩
  have HC := Aside0.mk (fun W (hb : Below w.heap.size w W) => (by rw [ht]; exact Kd.C_below (Kd.C_take hC hp) hb : Kd.C kb W A t.length t))
  have HC2 := Aside0.mk (fun W (hb : Below w.heap.size w W) => Kd.C_below hC2 hb)
  have HC3 := Aside0.mk (fun W (hb : Below w.heap.size w W) => Kd.C_below (hCr _ hC) hb)
  have HP := Aside0.mk (show t.length ≤ cp by rw [hlen]; omega)
  have HP2 := Aside0.mk hcp2
  obtain ⟨q, hq⟩ : ∃ q, q = pos := ⟨_, rfl⟩
  obtain ⟨cr, hcr⟩ : ∃ cr, cr = cp - min l.length (pos + b.length) := ⟨_, rfl⟩
  rw [← hcr] at hcf hcl
  have HP3 := Aside0.mk hcl
  rw [← hq] at hct hcf ⊢
  have hct2 : ∀ W : World, (Instr.slice 32 (.slice A l.length cp) none (some (.int .i64 (q : Int))) none).run Tryz.prog W = .ok (.slice A t.length cp) W := by rw [hlen, ← hq]; exact hct
  have hsum : IntKind.i64.wrap ((q : Int) + (b.length : Int)) = (q : Int) + (b.length : Int) := IntWalk.i64_in _ ⟨by omega, by omega⟩
  obtain ⟨mn, hmn⟩ : ∃ mn : Nat, mn = min l.length (q + b.length) := ⟨_, rfl⟩
  rw [← hmn] at hcf
  by_cases hc : q + b.length < l.length
  · have e : (mn : Int) = (q : Int) + (b.length : Int) := by omega
    rw [e] at hcf
    have t1 : decide ((q : Int) + (b.length : Int) < (l.length : Int)) = true := decide_eq_true (by omega)
    have t2 : (q : Int) + (b.length : Int) < (l.length : Int) := by omega
    clear hC hC2 hCr hcp hcp2 hp hl hl2 hct hlen hlr ht hq hr hcl hcr hmn hc e
    go_enter Tryz.func66, Tryz.ntmps66
    go_wp2
    have c0 : (w.alloc (.cells #[.int .i64 (q : Int), .slice A2 b.length cp2, .bool false] 114)).cell? ⟨w.heap.size, 0, none⟩ = some (.int .i64 (q : Int)) := World.cell?_alloc_new _ _ _ _
    have c1 : (w.alloc (.cells #[.int .i64 (q : Int), .slice A2 b.length cp2, .bool false] 114)).cell? ⟨w.heap.size, 1, none⟩ = some (.slice A2 b.length cp2) := World.cell?_alloc_new _ _ _ _
    have HB0 := Aside0.mk (show Below w.heap.size w (w.alloc (.cells #[.int .i64 (q : Int), .slice A2 b.length cp2, .bool false] 114)) from (Below.refl _ _).alloc (Nat.le_refl _) _)
    have hg0 : w.heap.size < (w.alloc (.cells #[.int .i64 (q : Int), .slice A2 b.length cp2, .bool false] 114)).heap.size := by simp
    generalize w.alloc (.cells #[.int .i64 (q : Int), .slice A2 b.length cp2, .bool false] 114) = W0 at c0 c1 HB0 hg0 ⊢
    have HN := Aside0.mk (concat3 (HC.out _ HB0.out) (HC2.out _ HB0.out) (HC3.out _ HB0.out) HP.out HP2.out HP3.out HF.out)
    clear HF HC HC2 HC3 HP HP2 HP3
    refine start_ (n := 20) (S := fun w' => w'.cell? ⟨w.heap.size, 0, none⟩ = some (.int .i64 (q : Int)) ∧ w'.cell? ⟨w.heap.size, 1, none⟩ = some (.slice A2 b.length cp2)) (ds := []) #[ff,ff,ff,ff,ff,ff,ff,ff,ff,ff,ff,ff,ff,ff,ff,ff,ff,ff,ff,ff] (by kernel_rfl) rfl rfl ⟨c0, c1⟩ (fun hHeld => ?_)
    refine pure_ (i := 0) (N := some 12) (v := ?_) (a' := ?_) #[tt,ff,ff,ff,ff,ff,ff,ff,ff,ff,ff,ff,ff,ff,ff,ff,ff,ff,ff,ff] rfl rfl (by kernel_rfl) (fun _ _ _ h => h) (Or.inl ⟨by rfl, ?_⟩) ?_ ?_
    rotate_left
    · intro w'
      go_simp
      with_reducible rfl
    rotate_left
    · simp only [Act.put, pkA, pkB, pkC, i64_w, i32_w]
      rfl
    refine pure_ (i := 1) (N := some 13) (v := ?_) (a' := ?_) #[tt,tt,ff,ff,ff,ff,ff,ff,ff,ff,ff,ff,ff,ff,ff,ff,ff,ff,ff,ff] rfl rfl (by kernel_rfl) (fun _ _ _ h => h) (Or.inl ⟨by rfl, ?_⟩) ?_ ?_
    rotate_left
    · intro w'
      go_simp
      with_reducible rfl
    rotate_left
    · simp only [Act.put, pkA, pkB, pkC, i64_w, i32_w]
      rfl
    refine pure_ (i := 4) (N := some 16) (v := ?_) (a' := ?_) #[tt,tt,ff,ff,tt,ff,ff,ff,ff,ff,ff,ff,ff,ff,ff,ff,ff,ff,ff,ff] rfl rfl (by kernel_rfl) (fun _ _ _ h => h) (Or.inl ⟨by rfl, ?_⟩) ?_ ?_
    rotate_left
    · intro w'
      go_simp
      with_reducible rfl
    rotate_left
    · simp only [Act.put, pkA, pkB, pkC, i64_w, i32_w]
      rfl
    refine pure_ (i := 6) (N := some 18) (v := ?_) (a' := ?_) #[tt,tt,ff,ff,tt,ff,tt,ff,ff,ff,ff,ff,ff,ff,ff,ff,ff,ff,ff,ff] rfl rfl (by kernel_rfl) (fun _ _ _ h => h) (Or.inl ⟨by rfl, ?_⟩) ?_ ?_
    rotate_left
    · intro w'
      go_simp
      with_reducible rfl
    rotate_left
    · simp only [Act.put, pkA, pkB, pkC, i64_w, i32_w]
      rfl
    refine pure_ (i := 7) (N := some 19) (v := ?_) (a' := ?_) #[tt,tt,ff,ff,tt,ff,tt,tt,ff,ff,ff,ff,ff,ff,ff,ff,ff,ff,ff,ff] rfl rfl (by kernel_rfl) (fun _ _ _ h => h) (Or.inl ⟨by rfl, ?_⟩) ?_ ?_
    rotate_left
    · intro w'
      go_simp
      with_reducible rfl
    rotate_left
    · simp only [Act.put, pkA, pkB, pkC, i64_w, i32_w]
      rfl
    refine pure_ (i := 8) (N := some 20) (v := ?_) (a' := ?_) #[tt,tt,ff,ff,tt,ff,tt,tt,tt,ff,ff,ff,ff,ff,ff,ff,ff,ff,ff,ff] rfl rfl (by kernel_rfl) (fun _ _ _ h => h) (Or.inl ⟨by rfl, ?_⟩) ?_ ?_
    rotate_left
    · intro w'
      go_simp
      with_reducible rfl
    rotate_left
    · simp only [Act.put, pkA, pkB, pkC, i64_w, i32_w]
      rfl
    refine pure_ (i := 9) (N := some 21) (v := ?_) (a' := ?_) #[tt,tt,ff,ff,tt,ff,tt,tt,tt,tt,ff,ff,ff,ff,ff,ff,ff,ff,ff,ff] rfl rfl (by kernel_rfl) (fun _ _ _ h => h) (Or.inl ⟨by rfl, ?_⟩) ?_ ?_
    rotate_left
    · intro w'
      go_simp
      with_reducible rfl
    rotate_left
    · simp only [Act.put, pkA, pkB, pkC, i64_w, i32_w]
      rfl
    refine pure_ (i := 11) (N := some 23) (v := ?_) (a' := ?_) #[tt,tt,ff,ff,tt,ff,tt,tt,tt,tt,ff,tt,ff,ff,ff,ff,ff,ff,ff,ff] rfl rfl (by kernel_rfl) (fun _ _ _ h => h) (Or.inl ⟨by rfl, ?_⟩) ?_ ?_
    rotate_left
    · intro w'
      go_simp
      with_reducible rfl
    rotate_left
    · simp only [Act.put, pkA, pkB, pkC, i64_w, i32_w]
      rfl
    refine take_ (i := 2) (N := some 14) (v := ?_) (a' := ?_) #[tt,tt,tt,ff,tt,ff,tt,tt,tt,tt,ff,tt,ff,ff,ff,ff,ff,ff,ff,ff] rfl rfl (by kernel_rfl) (fun _ _ _ h => h) (Or.inl ⟨by rfl, ?_⟩) hHeld ?_ ?_
    rotate_left
    · rintro w' ⟨s0, s1⟩
      go_simp
      with_reducible rfl
    rotate_left
    · simp only [Act.put, pkA, pkB, pkC, i64_w, i32_w]
      rfl
    refine pure_ (i := 3) (N := some 15) (v := ?_) (a' := ?_) #[tt,tt,tt,tt,tt,ff,tt,tt,tt,tt,ff,tt,ff,ff,ff,ff,ff,ff,ff,ff] rfl rfl (by kernel_rfl) (fun _ _ _ h => h) (Or.inl ⟨by rfl, ?_⟩) ?_ ?_
    rotate_left
    · intro w'
      go_simp
      with_reducible rfl
    rotate_left
    · simp only [Act.put, pkA, pkB, pkC, i64_w, i32_w]
      rfl
    refine take_ (i := 5) (N := some 17) (v := ?_) (a' := ?_) #[tt,tt,tt,tt,tt,tt,tt,tt,tt,tt,ff,tt,ff,ff,ff,ff,ff,ff,ff,ff] rfl rfl (by kernel_rfl) (fun _ _ _ h => h) (Or.inl ⟨by rfl, ?_⟩) hHeld ?_ ?_
    rotate_left
    · rintro w' ⟨s0, s1⟩
      go_simp
      with_reducible rfl
    rotate_left
    · simp only [Act.put, pkA, pkB, pkC, i64_w, i32_w]
      rfl
    refine take_ (i := 10) (N := some 22) (v := ?_) (a' := ?_) #[tt,tt,tt,tt,tt,tt,tt,tt,tt,tt,tt,tt,ff,ff,ff,ff,ff,ff,ff,ff] rfl rfl (by kernel_rfl) (fun _ _ _ h => h) (Or.inl ⟨by rfl, ?_⟩) hHeld ?_ ?_
    rotate_left
    · rintro w' ⟨s0, s1⟩
      go_simp
      with_reducible rfl
    rotate_left
    · simp only [Act.put, pkA, pkB, pkC, i64_w, i32_w]
      rfl
    refine take_ (i := 12) (N := some 24) (v := ?_) (a' := ?_) #[tt,tt,tt,tt,tt,tt,tt,tt,tt,tt,tt,tt,tt,ff,ff,ff,ff,ff,ff,ff] rfl rfl (by kernel_rfl) (fun _ _ _ h => h) (Or.inl ⟨by rfl, ?_⟩) hHeld ?_ ?_
    rotate_left
    · rintro w' ⟨s0, s1⟩
      go_simp
      with_reducible rfl
    rotate_left
    · simp only [Act.put, pkA, pkB, pkC, i64_w, i32_w]
      rfl
    refine pure_ (i := 13) (N := some 25) (v := ?_) (a' := ?_) #[tt,tt,tt,tt,tt,tt,tt,tt,tt,tt,tt,tt,tt,tt,ff,ff,ff,ff,ff,ff] rfl rfl (by kernel_rfl) (fun _ _ _ h => h) (Or.inl ⟨by rfl, ?_⟩) ?_ ?_
    rotate_left
    · intro w'
      go_simp
      with_reducible rfl
    rotate_left
    · simp only [Act.put, pkA, pkB, pkC, i64_w, i32_w]
      rfl
    refine pure_ (i := 14) (N := some 26) (v := ?_) (a' := ?_) #[tt,tt,tt,tt,tt,tt,tt,tt,tt,tt,tt,tt,tt,tt,tt,ff,ff,ff,ff,ff] rfl rfl (by kernel_rfl) (fun _ _ _ h => h) (Or.inl ⟨by rfl, ?_⟩) ?_ ?_
    rotate_left
    · intro w'
      go_simp
      with_reducible rfl
    rotate_left
    · simp only [Act.put, pkA, pkB, pkC, i64_w, i32_w]
      rfl
    refine pure_ (i := 15) (N := some 27) (v := ?_) (a' := ?_) #[tt,tt,tt,tt,tt,tt,tt,tt,tt,tt,tt,tt,tt,tt,tt,tt,ff,ff,ff,ff] rfl rfl (by kernel_rfl) (fun _ _ _ h => h) (Or.inl ⟨by rfl, ?_⟩) ?_ ?_
    rotate_left
    · intro w'
      go_simp
      with_reducible rfl
    rotate_left
    · simp only [Act.put, pkA, pkB, pkC, i64_w, i32_w]
      rfl
    refine pure_ (i := 16) (N := some 28) (v := ?_) (a' := ?_) #[tt,tt,tt,tt,tt,tt,tt,tt,tt,tt,tt,tt,tt,tt,tt,tt,tt,ff,ff,ff] rfl rfl (by kernel_rfl) (fun _ _ _ h => h) (Or.inl ⟨by rfl, ?_⟩) ?_ ?_
    rotate_left
    · intro w'
      go_simp
      with_reducible rfl
    rotate_left
    · simp only [Act.put, pkA, pkB, pkC, i64_w, i32_w]
      rfl
    refine one_ (i := 17) (N := some 29) #[tt,tt,tt,tt,tt,tt,tt,tt,tt,tt,tt,tt,tt,tt,tt,tt,tt,tt,ff,ff] rfl rfl (by kernel_rfl) (by decide) (fun K hK => ?_)
    refine value_ (w1 := ?_) (v := ?_) (by rfl) rfl ?_ ?_
    rotate_left 2
    · go_simp
      constructor
      · rfl
      · rfl
    refine hK.out _ _ ⟨(by have := hHeld.1; go_simp), (by have := hHeld.2; go_simp)⟩ (fun hHeld => ?_)
    clear hK K
    refine norm_ (a' := ?_) ?_ ?_
    rotate_left
    · show Act.put _ (some 29) _ = _
      simp only [Act.put, pkA, pkB, pkC, i64_w, i32_w]
      rfl
    refine one_ (i := 18) (N := some 30) #[tt,tt,tt,tt,tt,tt,tt,tt,tt,tt,tt,tt,tt,tt,tt,tt,tt,tt,tt,ff] rfl rfl (by kernel_rfl) (by decide) (fun K hK => ?_)
    refine goes_ Tryz.func72 (by kernel_rfl) rfl #[.slice (some ⟨W0.heap.size, 0, none⟩) 3 3] (by rfl) rfl rfl (by simp only [List.map_toArray, List.map_cons, List.map_nil]; rfl) ?_
    with_reducible refine (HN.out).mono ?_
    rintro e w1 ⟨v, rfl, hr, hb⟩
    refine ⟨_, rfl, ?_⟩
    have hb1 : w1.cell? ⟨w.heap.size, 0, none⟩ = some (.int .i64 (q : Int)) := (hb.cell (p := ⟨w.heap.size, 0, none⟩) hg0).trans c0
    have hb2 : w1.cell? ⟨w.heap.size, 1, none⟩ = some (.slice A2 b.length cp2) := (hb.cell (p := ⟨w.heap.size, 1, none⟩) hg0).trans c1
    have HR := Aside0.mk hr
    have HB := Aside0.mk hb
    clear hr hb
    refine hK.out _ _ ⟨hb1, hb2⟩ (fun hHeld => ?_)
    clear hK K
    refine norm_ (a' := ?_) ?_ ?_
    rotate_left
    · show Act.put _ (some 30) _ = _
      simp only [Act.put, pkA, pkB, pkC, i64_w, i32_w]
      rfl
    refine pure_ (i := 19) (N := some 4) (v := ?_) (a' := ?_) #[tt,tt,tt,tt,tt,tt,tt,tt,tt,tt,tt,tt,tt,tt,tt,tt,tt,tt,tt,tt] rfl rfl (by kernel_rfl) (fun _ _ _ h => h) (Or.inl ⟨by rfl, ?_⟩) ?_ ?_
    rotate_left
    · intro w'
      go_simp
      with_reducible rfl
    rotate_left
    · simp only [Act.put, pkA, pkB, pkC, i64_w, i32_w]
      rfl
    refine done_ (by kernel_rfl) ?_
    go_wp2
    go_ret
    exact ⟨_, rfl, Kd.R_lower HR.out (by omega), HB0.out.trans (HB.out.mono (by omega))⟩
  · have e : (mn : Int) = (l.length : Int) := by omega
    rw [e] at hcf
    have t1 : decide ((q : Int) + (b.length : Int) < (l.length : Int)) = false := decide_eq_false (by omega)
    have t2 : ¬ (q : Int) + (b.length : Int) < (l.length : Int) := by omega
    have t3 : (if (q : Int) + (b.length : Int) < (l.length : Int) then (q : Int) + (b.length : Int) else (l.length : Int)) = (l.length : Int) := if_neg (by omega)
    clear hC hC2 hCr hcp hcp2 hp hl hl2 hct hlen hlr ht hq hr hcl hcr hmn hc e
    go_enter Tryz.func66, Tryz.ntmps66
    go_wp2
    have c0 : (w.alloc (.cells #[.int .i64 (q : Int), .slice A2 b.length cp2, .bool false] 114)).cell? ⟨w.heap.size, 0, none⟩ = some (.int .i64 (q : Int)) := World.cell?_alloc_new _ _ _ _
    have c1 : (w.alloc (.cells #[.int .i64 (q : Int), .slice A2 b.length cp2, .bool false] 114)).cell? ⟨w.heap.size, 1, none⟩ = some (.slice A2 b.length cp2) := World.cell?_alloc_new _ _ _ _
    have HB0 := Aside0.mk (show Below w.heap.size w (w.alloc (.cells #[.int .i64 (q : Int), .slice A2 b.length cp2, .bool false] 114)) from (Below.refl _ _).alloc (Nat.le_refl _) _)
    have hg0 : w.heap.size < (w.alloc (.cells #[.int .i64 (q : Int), .slice A2 b.length cp2, .bool false] 114)).heap.size := by simp
    generalize w.alloc (.cells #[.int .i64 (q : Int), .slice A2 b.length cp2, .bool false] 114) = W0 at c0 c1 HB0 hg0 ⊢
    have HN := Aside0.mk (concat3 (HC.out _ HB0.out) (HC2.out _ HB0.out) (HC3.out _ HB0.out) HP.out HP2.out HP3.out HF.out)
    clear HF HC HC2 HC3 HP HP2 HP3
    refine start_ (n := 20) (S := fun w' => w'.cell? ⟨w.heap.size, 0, none⟩ = some (.int .i64 (q : Int)) ∧ w'.cell? ⟨w.heap.size, 1, none⟩ = some (.slice A2 b.length cp2)) (ds := []) #[ff,ff,ff,ff,ff,ff,ff,ff,ff,ff,ff,ff,ff,ff,ff,ff,ff,ff,ff,ff] (by kernel_rfl) rfl rfl ⟨c0, c1⟩ (fun hHeld => ?_)
    refine pure_ (i := 0) (N := some 12) (v := ?_) (a' := ?_) #[tt,ff,ff,ff,ff,ff,ff,ff,ff,ff,ff,ff,ff,ff,ff,ff,ff,ff,ff,ff] rfl rfl (by kernel_rfl) (fun _ _ _ h => h) (Or.inl ⟨by rfl, ?_⟩) ?_ ?_
    rotate_left
    · intro w'
      go_simp
      with_reducible rfl
    rotate_left
    · simp only [Act.put, pkA, pkB, pkC, i64_w, i32_w]
      rfl
    refine pure_ (i := 1) (N := some 13) (v := ?_) (a' := ?_) #[tt,tt,ff,ff,ff,ff,ff,ff,ff,ff,ff,ff,ff,ff,ff,ff,ff,ff,ff,ff] rfl rfl (by kernel_rfl) (fun _ _ _ h => h) (Or.inl ⟨by rfl, ?_⟩) ?_ ?_
    rotate_left
    · intro w'
      go_simp
      with_reducible rfl
    rotate_left
    · simp only [Act.put, pkA, pkB, pkC, i64_w, i32_w]
      rfl
    refine pure_ (i := 4) (N := some 16) (v := ?_) (a' := ?_) #[tt,tt,ff,ff,tt,ff,ff,ff,ff,ff,ff,ff,ff,ff,ff,ff,ff,ff,ff,ff] rfl rfl (by kernel_rfl) (fun _ _ _ h => h) (Or.inl ⟨by rfl, ?_⟩) ?_ ?_
    rotate_left
    · intro w'
      go_simp
      with_reducible rfl
    rotate_left
    · simp only [Act.put, pkA, pkB, pkC, i64_w, i32_w]
      rfl
    refine pure_ (i := 6) (N := some 18) (v := ?_) (a' := ?_) #[tt,tt,ff,ff,tt,ff,tt,ff,ff,ff,ff,ff,ff,ff,ff,ff,ff,ff,ff,ff] rfl rfl (by kernel_rfl) (fun _ _ _ h => h) (Or.inl ⟨by rfl, ?_⟩) ?_ ?_
    rotate_left
    · intro w'
      go_simp
      with_reducible rfl
    rotate_left
    · simp only [Act.put, pkA, pkB, pkC, i64_w, i32_w]
      rfl
    refine pure_ (i := 7) (N := some 19) (v := ?_) (a' := ?_) #[tt,tt,ff,ff,tt,ff,tt,tt,ff,ff,ff,ff,ff,ff,ff,ff,ff,ff,ff,ff] rfl rfl (by kernel_rfl) (fun _ _ _ h => h) (Or.inl ⟨by rfl, ?_⟩) ?_ ?_
    rotate_left
    · intro w'
      go_simp
      with_reducible rfl
    rotate_left
    · simp only [Act.put, pkA, pkB, pkC, i64_w, i32_w]
      rfl
    refine pure_ (i := 8) (N := some 20) (v := ?_) (a' := ?_) #[tt,tt,ff,ff,tt,ff,tt,tt,tt,ff,ff,ff,ff,ff,ff,ff,ff,ff,ff,ff] rfl rfl (by kernel_rfl) (fun _ _ _ h => h) (Or.inl ⟨by rfl, ?_⟩) ?_ ?_
    rotate_left
    · intro w'
      go_simp
      with_reducible rfl
    rotate_left
    · simp only [Act.put, pkA, pkB, pkC, i64_w, i32_w]
      rfl
    refine pure_ (i := 9) (N := some 21) (v := ?_) (a' := ?_) #[tt,tt,ff,ff,tt,ff,tt,tt,tt,tt,ff,ff,ff,ff,ff,ff,ff,ff,ff,ff] rfl rfl (by kernel_rfl) (fun _ _ _ h => h) (Or.inl ⟨by rfl, ?_⟩) ?_ ?_
    rotate_left
    · intro w'
      go_simp
      with_reducible rfl
    rotate_left
    · simp only [Act.put, pkA, pkB, pkC, i64_w, i32_w]
      rfl
    refine pure_ (i := 11) (N := some 23) (v := ?_) (a' := ?_) #[tt,tt,ff,ff,tt,ff,tt,tt,tt,tt,ff,tt,ff,ff,ff,ff,ff,ff,ff,ff] rfl rfl (by kernel_rfl) (fun _ _ _ h => h) (Or.inl ⟨by rfl, ?_⟩) ?_ ?_
    rotate_left
    · intro w'
      go_simp
      with_reducible rfl
    rotate_left
    · simp only [Act.put, pkA, pkB, pkC, i64_w, i32_w]
      rfl
    refine take_ (i := 2) (N := some 14) (v := ?_) (a' := ?_) #[tt,tt,tt,ff,tt,ff,tt,tt,tt,tt,ff,tt,ff,ff,ff,ff,ff,ff,ff,ff] rfl rfl (by kernel_rfl) (fun _ _ _ h => h) (Or.inl ⟨by rfl, ?_⟩) hHeld ?_ ?_
    rotate_left
    · rintro w' ⟨s0, s1⟩
      go_simp
      with_reducible rfl
    rotate_left
    · simp only [Act.put, pkA, pkB, pkC, i64_w, i32_w]
      rfl
    refine pure_ (i := 3) (N := some 15) (v := ?_) (a' := ?_) #[tt,tt,tt,tt,tt,ff,tt,tt,tt,tt,ff,tt,ff,ff,ff,ff,ff,ff,ff,ff] rfl rfl (by kernel_rfl) (fun _ _ _ h => h) (Or.inl ⟨by rfl, ?_⟩) ?_ ?_
    rotate_left
    · intro w'
      go_simp
      with_reducible rfl
    rotate_left
    · simp only [Act.put, pkA, pkB, pkC, i64_w, i32_w]
      rfl
    refine take_ (i := 5) (N := some 17) (v := ?_) (a' := ?_) #[tt,tt,tt,tt,tt,tt,tt,tt,tt,tt,ff,tt,ff,ff,ff,ff,ff,ff,ff,ff] rfl rfl (by kernel_rfl) (fun _ _ _ h => h) (Or.inl ⟨by rfl, ?_⟩) hHeld ?_ ?_
    rotate_left
    · rintro w' ⟨s0, s1⟩
      go_simp
      with_reducible rfl
    rotate_left
    · simp only [Act.put, pkA, pkB, pkC, i64_w, i32_w]
      rfl
    refine take_ (i := 10) (N := some 22) (v := ?_) (a' := ?_) #[tt,tt,tt,tt,tt,tt,tt,tt,tt,tt,tt,tt,ff,ff,ff,ff,ff,ff,ff,ff] rfl rfl (by kernel_rfl) (fun _ _ _ h => h) (Or.inl ⟨by rfl, ?_⟩) hHeld ?_ ?_
    rotate_left
    · rintro w' ⟨s0, s1⟩
      go_simp
      with_reducible rfl
    rotate_left
    · simp only [Act.put, pkA, pkB, pkC, i64_w, i32_w]
      rfl
    refine take_ (i := 12) (N := some 24) (v := ?_) (a' := ?_) #[tt,tt,tt,tt,tt,tt,tt,tt,tt,tt,tt,tt,tt,ff,ff,ff,ff,ff,ff,ff] rfl rfl (by kernel_rfl) (fun _ _ _ h => h) (Or.inl ⟨by rfl, ?_⟩) hHeld ?_ ?_
    rotate_left
    · rintro w' ⟨s0, s1⟩
      go_simp
      with_reducible rfl
    rotate_left
    · simp only [Act.put, pkA, pkB, pkC, i64_w, i32_w]
      rfl
    refine pure_ (i := 13) (N := some 25) (v := ?_) (a' := ?_) #[tt,tt,tt,tt,tt,tt,tt,tt,tt,tt,tt,tt,tt,tt,ff,ff,ff,ff,ff,ff] rfl rfl (by kernel_rfl) (fun _ _ _ h => h) (Or.inl ⟨by rfl, ?_⟩) ?_ ?_
    rotate_left
    · intro w'
      go_simp
      with_reducible rfl
    rotate_left
    · simp only [Act.put, pkA, pkB, pkC, i64_w, i32_w]
      rfl
    refine pure_ (i := 14) (N := some 26) (v := ?_) (a' := ?_) #[tt,tt,tt,tt,tt,tt,tt,tt,tt,tt,tt,tt,tt,tt,tt,ff,ff,ff,ff,ff] rfl rfl (by kernel_rfl) (fun _ _ _ h => h) (Or.inl ⟨by rfl, ?_⟩) ?_ ?_
    rotate_left
    · intro w'
      go_simp
      with_reducible rfl
    rotate_left
    · simp only [Act.put, pkA, pkB, pkC, i64_w, i32_w]
      rfl
    refine pure_ (i := 15) (N := some 27) (v := ?_) (a' := ?_) #[tt,tt,tt,tt,tt,tt,tt,tt,tt,tt,tt,tt,tt,tt,tt,tt,ff,ff,ff,ff] rfl rfl (by kernel_rfl) (fun _ _ _ h => h) (Or.inl ⟨by rfl, ?_⟩) ?_ ?_
    rotate_left
    · intro w'
      go_simp
      with_reducible rfl
    rotate_left
    · simp only [Act.put, pkA, pkB, pkC, i64_w, i32_w]
      rfl
    refine pure_ (i := 16) (N := some 28) (v := ?_) (a' := ?_) #[tt,tt,tt,tt,tt,tt,tt,tt,tt,tt,tt,tt,tt,tt,tt,tt,tt,ff,ff,ff] rfl rfl (by kernel_rfl) (fun _ _ _ h => h) (Or.inl ⟨by rfl, ?_⟩) ?_ ?_
    rotate_left
    · intro w'
      go_simp
      with_reducible rfl
    rotate_left
    · simp only [Act.put, pkA, pkB, pkC, i64_w, i32_w]
      rfl
    refine one_ (i := 17) (N := some 29) #[tt,tt,tt,tt,tt,tt,tt,tt,tt,tt,tt,tt,tt,tt,tt,tt,tt,tt,ff,ff] rfl rfl (by kernel_rfl) (by decide) (fun K hK => ?_)
    refine value_ (w1 := ?_) (v := ?_) (by rfl) rfl ?_ ?_
    rotate_left 2
    · go_simp
      constructor
      · rfl
      · rfl
    refine hK.out _ _ ⟨(by have := hHeld.1; go_simp), (by have := hHeld.2; go_simp)⟩ (fun hHeld => ?_)
    clear hK K
    refine norm_ (a' := ?_) ?_ ?_
    rotate_left
    · show Act.put _ (some 29) _ = _
      simp only [Act.put, pkA, pkB, pkC, i64_w, i32_w]
      rfl
    refine one_ (i := 18) (N := some 30) #[tt,tt,tt,tt,tt,tt,tt,tt,tt,tt,tt,tt,tt,tt,tt,tt,tt,tt,tt,ff] rfl rfl (by kernel_rfl) (by decide) (fun K hK => ?_)
    refine goes_ Tryz.func72 (by kernel_rfl) rfl #[.slice (some ⟨W0.heap.size, 0, none⟩) 3 3] (by rfl) rfl rfl (by simp only [List.map_toArray, List.map_cons, List.map_nil]; rfl) ?_
    with_reducible refine (HN.out).mono ?_
    rintro e w1 ⟨v, rfl, hr, hb⟩
    refine ⟨_, rfl, ?_⟩
    have hb1 : w1.cell? ⟨w.heap.size, 0, none⟩ = some (.int .i64 (q : Int)) := (hb.cell (p := ⟨w.heap.size, 0, none⟩) hg0).trans c0
    have hb2 : w1.cell? ⟨w.heap.size, 1, none⟩ = some (.slice A2 b.length cp2) := (hb.cell (p := ⟨w.heap.size, 1, none⟩) hg0).trans c1
    have HR := Aside0.mk hr
    have HB := Aside0.mk hb
    clear hr hb
    refine hK.out _ _ ⟨hb1, hb2⟩ (fun hHeld => ?_)
    clear hK K
    refine norm_ (a' := ?_) ?_ ?_
    rotate_left
    · show Act.put _ (some 30) _ = _
      simp only [Act.put, pkA, pkB, pkC, i64_w, i32_w]
      rfl
    refine pure_ (i := 19) (N := some 4) (v := ?_) (a' := ?_) #[tt,tt,tt,tt,tt,tt,tt,tt,tt,tt,tt,tt,tt,tt,tt,tt,tt,tt,tt,tt] rfl rfl (by kernel_rfl) (fun _ _ _ h => h) (Or.inl ⟨by rfl, ?_⟩) ?_ ?_
    rotate_left
    · intro w'
      go_simp
      with_reducible rfl
    rotate_left
    · simp only [Act.put, pkA, pkB, pkC, i64_w, i32_w]
      rfl
    refine done_ (by kernel_rfl) ?_
    go_wp2
    go_ret
    exact ⟨_, rfl, Kd.R_lower HR.out (by omega), HB0.out.trans (HB.out.mono (by omega))⟩
end Go.Proofs.YtpcfnkmljchiiaaGreatDoor.DChg
