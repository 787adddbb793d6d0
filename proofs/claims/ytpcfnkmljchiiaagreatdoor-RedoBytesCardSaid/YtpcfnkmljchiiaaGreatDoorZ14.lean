/- Steps towards RBoth: DCrc. -/
import Derived.Test.YtpcfnkmljchiiaaGreatDoorZ13
set_option linter.unusedVariables false
set_option linter.unusedSimpArgs false
/- Disk.Crash walked. -/
namespace Go.Proofs.YtpcfnkmljchiiaaGreatDoor.DCrc
open Go Go.RowKit Go.Maps Go.WideMaps Go.Proofs.YtpcfnkmljchiiaaGreatDoorW.PrintWords Go.Proofs.YtpcfnkmljchiiaaGreatDoorW.PrintLast Go.Proofs.YtpcfnkmljchiiaaGreatDoorW.PrintMore DBase DPl DAt DEnt DNam Go.Proofs.YtpcfnkmljchiiaaGreatDoor.Is DFil DUsd DChg DCg DStp DCh2 DOps DShc DCra DSwp DCrb
/-- What the loops carry: the disk, the numbers that are left, what has turned. -/
structure CS (B : Bx) (w : World) (p kb : Nat) (D : Dsk) (L : List (Nat × Value)) (m1 m2 : Nat) (fv ov : Value) (kp : List Int) (W : World) : Prop where
  lies : Lies B W p D L m1 m2 fv ov
  keep : KeepAt B w kb W kp
  turn : Turn B w W
theorem CS.below {B : Bx} {w W V : World} {p kb : Nat} {D : Dsk} {L : List (Nat × Value)} {m1 m2 : Nat} {fv ov : Value} {kp : List Int} (h : CS B w p kb D L m1 m2 fv ov kp W) (hb : Below W.heap.size W V) : CS B w p kb D L m1 m2 fv ov kp V :=
  ⟨h.lies.below hb, h.keep.but (But.of_below (row := none) hb) (by simp), h.turn.below hb⟩
theorem fits_take : ∀ (l : List Chg) (b : List Int), fits b l → ∀ (j : Nat) (c : Chg), l[j]? = some c → c.pos ≤ (chgAll b (l.take j)).length
  | [], _, _, j, c, h => by simp at h
  | d :: r, b, hf, 0, c, h => by
    simp only [List.getElem?_cons_zero, Option.some.injEq] at h
    subst h
    simpa [chgAll] using hf.1
  | d :: r, b, hf, j + 1, c, h => by
    have := fits_take r (d.go b) hf.2 j c (by simpa using h)
    simpa [chgAll] using this
theorem len_take : ∀ (l : List Chg) (b : List Int), b.length ≤ 1073741824 → (∀ c ∈ l, c.pos + c.b.length ≤ 1073741824) → ∀ j, (chgAll b (l.take j)).length ≤ 1073741824
  | [], b, hb, _, j => by simpa [chgAll] using hb
  | d :: r, b, hb, h, 0 => by simpa [chgAll] using hb
  | d :: r, b, hb, h, j + 1 => by
    have := len_take r (d.go b) (chg_len d b _ hb (h d List.mem_cons_self)) (fun c hc => h c (List.mem_cons_of_mem _ hc)) j
    simpa [chgAll] using this
theorem take_step (l : List Chg) (b : List Int) (j : Nat) (c : Chg) (h : l[j]? = some c) : chgAll b (l.take (j + 1)) = c.go (chgAll b (l.take j)) := by
  obtain ⟨hj, hx⟩ := List.getElem?_eq_some_iff.1 h
  rw [List.take_succ_eq_append_getElem hj, hx, chgAll_snoc]
theorem crashFs_nil {f : Fil} (h : f.opn = []) (r : List Fil) (kp : List Int) : crashFs (f :: r) kp = f :: crashFs r kp := by rw [crashFs, if_pos h]
theorem crashFs_cons {f : Fil} (h : f.opn ≠ []) (r : List Fil) (kp : List Int) : crashFs (f :: r) kp = ⟨(crashF f kp).1, (crashF f kp).1, []⟩ :: crashFs r (crashF f kp).2 := by rw [crashFs, if_neg h]
theorem drop_at {fs : List Fil} {i : Nat} {f : Fil} (h : fs[i]? = some f) : fs.drop i = f :: fs.drop (i + 1) := by
  obtain ⟨hi, hx⟩ := List.getElem?_eq_some_iff.1 h
  rw [List.drop_eq_getElem_cons hi, hx]
theorem mid_at {dn r : List Fil} {f : Fil} {i : Nat} (hd : dn.length = i) : (dn ++ f :: r)[i]? = some f := by rw [List.getElem?_append_right (by omega), hd]; simp
theorem mid_set {dn r : List Fil} {f g : Fil} {i : Nat} (hd : dn.length = i) : (dn ++ f :: r).set i g = dn ++ g :: r := by
  subst hd
  induction dn with
  | nil => rfl
  | cons a t ih => simp [ih]
theorem map_set {L : List (Nat × Value)} {i : Nat} {x : Nat × Value} (hx : L[i]? = some x) (v : Value) : (L.set i (x.1, v)).map Prod.fst = L.map Prod.fst := by
  have hil := (List.getElem?_eq_some_iff.1 hx).1
  apply List.ext_getElem?
  intro j
  rw [List.getElem?_map, List.getElem?_map, List.getElem?_set]
  by_cases hj : i = j
  · subst hj
    rw [if_pos rfl, if_pos hil, hx]
    rfl
  · rw [if_neg hj]
set_option maxRecDepth 100000 in
set_option maxHeartbeats 16000000 in
theorem crash_walk (B : Bx) (p : Nat) (D : Dsk) (L : List (Nat × Value)) (m1 m2 : Nat) (fv ov : Value) (A : Option Addr) (c : Nat) (l : List Int) (w : World) (h : Lies B w p D L m1 m2 fv ov) (hk : D.Ok) (hst : D.steps ≤ 1000000000) (hlc : l.length ≤ c) (hR : ∀ V, Turn B w V → ReadsInt V .i64 A l.length l) :
    Calls Tryz.prog 14 #[.pointer (some ⟨p, 0, none⟩), .slice A l.length c] w fun e w' => e = .returned (.tuple #[]) ∧ DiskAt B w' p (crashD D l) ∧ Turn B w w' := by
  have HB0 := Aside0.mk (show Below w.heap.size w (w.alloc (.cells #[.slice A l.length c] tI)) from (Below.refl _ _).alloc (Nat.le_refl _) _)
  have HCS0 := Aside0.mk (show CS B w p w.heap.size D L m1 m2 fv ov l (w.alloc (.cells #[.slice A l.length c] tI)) from ⟨h.below HB0.out, ⟨⟨A, c, heap_alloc_new w _, hlc, hR⟩, Nat.le_refl _⟩, Turn.of_below HB0.out⟩)
  have HOk := Aside0.mk hk
  have HOl := Aside0.mk (show D.opn.length ≤ 1000000000 by have := hk.cntN; omega)
  have HSl := Aside0.mk (show D.sure.length + D.opn.length ≤ 1000000000 by have := hk.cntN; omega)
  have HFl := Aside0.mk (show D.files.length ≤ 1000000000 by have := hk.cntF; omega)
  obtain ⟨Af, cpf, efv⟩ := Kd.R_slice h.ptrs
  rw [show (L.map Prod.fst).length = D.files.length by rw [List.length_map, h.files.len]] at efv
  subst efv
  obtain ⟨nF, hnF⟩ : ∃ nF, nF = D.files.length := ⟨_, rfl⟩
  have HNF := Aside0.mk hnF
  clear hnF
  obtain ⟨Ao, co, eo⟩ := Kd.R_slice h.opn
  obtain ⟨_, _, e2, hco, _⟩ := Kd.R_reads h.opn
  subst eo
  simp only [Value.slice.injEq] at e2
  obtain ⟨rfl, _, rfl⟩ := e2
  have c3 : (w.alloc (.cells #[.slice A l.length c] tI)).cell? ⟨p, 3, none⟩ = some (.slice Ao D.opn.length co) := (blk_cell HCS0.out.lies.obj 3).trans rfl
  have hop0 := ofK_le l D.opn.length
  obtain ⟨k0, hk0⟩ : ∃ k0, k0 = ofK l D.opn.length := ⟨_, rfl⟩
  rw [← hk0] at hop0
  have HK0 := Aside0.mk hk0
  have hct := cut_row 85 111 Tryz.underlying85 (by obtain ⟨i, hi, _⟩ := info_parts infoE; exact ⟨i, hi⟩) Ao D.opn.length co k0 (by omega)
  have HOL := Aside0.mk (show D.opn.length ≤ 1100000000000 by have := HOl.out; omega)
  have hk0b : (k0 : Int) ≤ 1000000000 := by have := HOl.out; omega
  have HK0b := Aside0.mk hop0
  clear h hk hR hk0 hco hop0
  go_enter Tryz.func14, Tryz.ntmps14
  go_wp2
  generalize hkb : w.heap.size = kb at HCS0 ⊢
  clear hkb HB0
  generalize w.alloc (.cells #[.slice A l.length c] tI) = W1 at c3 HCS0 ⊢
  refine start_ (n := 14) (S := fun w' => w'.cell? ⟨p, 3, none⟩ = some (.slice Ao D.opn.length co)) (ds := []) #[ff,ff,ff,ff,ff,ff,ff,ff,ff,ff,ff,ff,ff,ff] (by kernel_rfl) rfl rfl (c3) (fun hHeld => ?_)
  have HCS1 := Aside0.mk (HCS0.out.below (Below.refl _ _).drew)
  generalize W1.drew = w2 at HCS1 hHeld ⊢
  refine pure_ (i := 0) (N := some 14) (v := ?_) (a' := ?_) #[tt,ff,ff,ff,ff,ff,ff,ff,ff,ff,ff,ff,ff,ff] rfl rfl (by kernel_rfl) (fun _ _ _ h => h) (Or.inl ⟨by rfl, ?_⟩) ?_ ?_
  rotate_left
  · intro w'
    go_simp
    with_reducible rfl
  rotate_left
  · simp only [Act.put, pkA, pkB, pkC, i64_w, i32_w]
    rfl
  refine pure_ (i := 1) (N := some 15) (v := ?_) (a' := ?_) #[tt,tt,ff,ff,ff,ff,ff,ff,ff,ff,ff,ff,ff,ff] rfl rfl (by kernel_rfl) (fun _ _ _ h => h) (Or.inl ⟨by rfl, ?_⟩) ?_ ?_
  rotate_left
  · intro w'
    go_simp
    with_reducible rfl
  rotate_left
  · simp only [Act.put, pkA, pkB, pkC, i64_w, i32_w]
    rfl
  refine pure_ (i := 2) (N := some 16) (v := ?_) (a' := ?_) #[tt,tt,tt,ff,ff,ff,ff,ff,ff,ff,ff,ff,ff,ff] rfl rfl (by kernel_rfl) (fun _ _ _ h => h) (Or.inl ⟨by rfl, ?_⟩) ?_ ?_
  rotate_left
  · intro w'
    go_simp
    with_reducible rfl
  rotate_left
  · simp only [Act.put, pkA, pkB, pkC, i64_w, i32_w]
    rfl
  refine pure_ (i := 4) (N := some 18) (v := ?_) (a' := ?_) #[tt,tt,tt,ff,tt,ff,ff,ff,ff,ff,ff,ff,ff,ff] rfl rfl (by kernel_rfl) (fun _ _ _ h => h) (Or.inl ⟨by rfl, ?_⟩) ?_ ?_
  rotate_left
  · intro w'
    go_simp
    with_reducible rfl
  rotate_left
  · simp only [Act.put, pkA, pkB, pkC, i64_w, i32_w]
    rfl
  refine pure_ (i := 5) (N := some 19) (v := ?_) (a' := ?_) #[tt,tt,tt,ff,tt,tt,ff,ff,ff,ff,ff,ff,ff,ff] rfl rfl (by kernel_rfl) (fun _ _ _ h => h) (Or.inl ⟨by rfl, ?_⟩) ?_ ?_
  rotate_left
  · intro w'
    go_simp
    with_reducible rfl
  rotate_left
  · simp only [Act.put, pkA, pkB, pkC, i64_w, i32_w]
    rfl
  refine pure_ (i := 6) (N := some 20) (v := ?_) (a' := ?_) #[tt,tt,tt,ff,tt,tt,tt,ff,ff,ff,ff,ff,ff,ff] rfl rfl (by kernel_rfl) (fun _ _ _ h => h) (Or.inl ⟨by rfl, ?_⟩) ?_ ?_
  rotate_left
  · intro w'
    go_simp
    with_reducible rfl
  rotate_left
  · simp only [Act.put, pkA, pkB, pkC, i64_w, i32_w]
    rfl
  refine pure_ (i := 7) (N := some 21) (v := ?_) (a' := ?_) #[tt,tt,tt,ff,tt,tt,tt,tt,ff,ff,ff,ff,ff,ff] rfl rfl (by kernel_rfl) (fun _ _ _ h => h) (Or.inl ⟨by rfl, ?_⟩) ?_ ?_
  rotate_left
  · intro w'
    go_simp
    with_reducible rfl
  rotate_left
  · simp only [Act.put, pkA, pkB, pkC, i64_w, i32_w]
    rfl
  refine pure_ (i := 13) (N := some 27) (v := ?_) (a' := ?_) #[tt,tt,tt,ff,tt,tt,tt,tt,ff,ff,ff,ff,ff,tt] rfl rfl (by kernel_rfl) (fun _ _ _ h => h) (Or.inl ⟨by rfl, ?_⟩) ?_ ?_
  rotate_left
  · intro w'
    go_simp
    with_reducible rfl
  rotate_left
  · simp only [Act.put, pkA, pkB, pkC, i64_w, i32_w]
    rfl
  refine take_ (i := 3) (N := some 17) (v := ?_) (a' := ?_) #[tt,tt,tt,tt,tt,tt,tt,tt,ff,ff,ff,ff,ff,tt] rfl rfl (by kernel_rfl) (fun _ _ _ h => h) (Or.inl ⟨by rfl, ?_⟩) hHeld ?_ ?_
  rotate_left
  · intro w' s0
    go_simp
    with_reducible rfl
  rotate_left
  · simp only [Act.put, pkA, pkB, pkC, i64_w, i32_w]
    rfl
  refine take_ (i := 8) (N := some 22) (v := ?_) (a' := ?_) #[tt,tt,tt,tt,tt,tt,tt,tt,tt,ff,ff,ff,ff,tt] rfl rfl (by kernel_rfl) (fun _ _ _ h => h) (Or.inl ⟨by rfl, ?_⟩) hHeld ?_ ?_
  rotate_left
  · intro w' s0
    go_simp
    with_reducible rfl
  rotate_left
  · simp only [Act.put, pkA, pkB, pkC, i64_w, i32_w]
    rfl
  refine pure_ (i := 9) (N := some 23) (v := ?_) (a' := ?_) #[tt,tt,tt,tt,tt,tt,tt,tt,tt,tt,ff,ff,ff,tt] rfl rfl (by kernel_rfl) (fun _ _ _ h => h) (Or.inl ⟨by rfl, ?_⟩) ?_ ?_
  rotate_left
  · intro w'
    go_simp
    with_reducible rfl
  rotate_left
  · simp only [Act.put, pkA, pkB, pkC, i64_w, i32_w]
    rfl
  refine one_ (i := 10) (N := some 24) #[tt,tt,tt,tt,tt,tt,tt,tt,tt,tt,tt,ff,ff,tt] rfl rfl (by kernel_rfl) (by decide) (fun K hK => ?_)
  refine goesV_ Tryz.func64 (by kernel_rfl) rfl (.tmp 18) #[] #[.pointer (some ⟨kb, 0, none⟩)] #[.int .i64 (D.opn.length : Int), .pointer (some ⟨kb, 0, none⟩)] (by rfl) rfl rfl rfl (by simp only [List.map_toArray, List.map_cons, List.map_nil]; rfl) ?_
  with_reducible refine (of_calls B w kb D.opn.length l w2 HCS1.out.keep HCS1.out.turn HOL.out).mono ?_
  rintro e w3 ⟨rfl, hkp, hbt, htn⟩
  refine ⟨_, rfl, ?_⟩
  have HCS2 := Aside0.mk (show CS B w p kb D L m1 m2 (.slice Af D.files.length cpf) (.slice Ao D.opn.length co) l.tail w3 from ⟨by obtain ⟨A9, c9, ho9, _⟩ := HCS1.out.keep.ex; exact HCS1.out.lies.foreign ho9 (by decide) (by decide) hbt, hkp, htn⟩)
  rw [← HK0.out]
  have d3 : w3.cell? ⟨p, 3, none⟩ = some (.slice Ao D.opn.length co) := (blk_cell HCS2.out.lies.obj 3).trans rfl
  clear hkp hbt htn
  refine hK.out _ _ (d3) (fun hHeld => ?_)
  clear hK K
  refine norm_ (a' := ?_) ?_ ?_
  rotate_left
  · show Act.put _ (some 24) _ = _
    simp only [Act.put, pkA, pkB, pkC, i64_w, i32_w]
    rfl
  refine pure_ (i := 11) (N := some 25) (v := ?_) (a' := ?_) #[tt,tt,tt,tt,tt,tt,tt,tt,tt,tt,tt,tt,ff,tt] rfl rfl (by kernel_rfl) (fun _ _ _ h => h) (Or.inl ⟨by rfl, ?_⟩) ?_ ?_
  rotate_left
  · intro w'
    go_simp
    with_reducible rfl
  rotate_left
  · simp only [Act.put, pkA, pkB, pkC, i64_w, i32_w]
    rfl
  refine pure_ (i := 12) (N := some 26) (v := ?_) (a' := ?_) #[tt,tt,tt,tt,tt,tt,tt,tt,tt,tt,tt,tt,tt,tt] rfl rfl (by kernel_rfl) (fun _ _ _ h => h) (Or.inl ⟨by rfl, ?_⟩) ?_ ?_
  rotate_left
  · intro w'
    go_simp
    with_reducible rfl
  rotate_left
  · simp only [Act.put, pkA, pkB, pkC, i64_w, i32_w]
    rfl
  refine done_ (by kernel_rfl) ?_
  go_wp2
  have hcoK := HK0b.out
  go_loopw [27] (fun i wr => ∃ j : Nat, j ≤ k0 ∧ i = .int .i64 j ∧ Aside0 (CS B w p kb { D with sure := goAll D.sure (D.opn.take j) } L m1 m2 (.slice Af D.files.length cpf) (.slice Ao D.opn.length co) l.tail wr)) (fun i _ => k0 - (Go.RowKit.intOf i).toNat)
  case atStart => exact ⟨0, by omega, rfl, HCS2⟩
  case round =>
    obtain ⟨j, hj, rfl, HC⟩ := hrel
    by_cases hlt : j < k0
    · have t1 : decide (j < k0) = true := decide_eq_true hlt
      have hjl : j < D.opn.length := by omega
      obtain ⟨e, he⟩ : ∃ e, D.opn[j]? = some e := ⟨_, List.getElem?_eq_getElem hjl⟩
      obtain ⟨g, cp, ef, _, q0, q1, q2⟩ := ent_at HC.out.lies.opn j e he
      simp only [Value.slice.injEq] at ef
      obtain ⟨rfl, _, rfl⟩ := ef
      have u0 : (0 : Int) ≤ (j : Int) := by omega
      have u1 : (j : Int) < (k0 : Int) := by omega
      obtain ⟨eb0, eb1, eb2, eb3⟩ := HOk.out.opnF e (List.mem_of_getElem? he)
      have hfl := HFl.out
      have HEN := Aside0.mk (fun (U : World) (hn : NamesAt U m2 (goAll D.sure (D.opn.take j))) => ent_calls0 e.name e.gone e.file eb2 eb3 (by omega) (by omega) m2 (goAll D.sure (D.opn.take j)) U hn (by have h1 := len_goAll (D.opn.take j) D.sure; have h2 := HSl.out; rw [List.length_take] at h1; omega))
      have HTk := Aside0.mk (show goAll D.sure (D.opn.take (j + 1)) = e.go (goAll D.sure (D.opn.take j)) by
        rw [List.take_succ_eq_append_getElem hjl, (List.getElem?_eq_some_iff.1 he).2, goAll_snoc])
      have HBe := Aside0.mk (show Below wr.heap.size wr (wr.alloc (.cells #[.string e.name, .string e.gone, .int .i64 e.file] 111)) from (Below.refl _ _).alloc (Nat.le_refl _) _)
      have b0 : (wr.alloc (.cells #[.string e.name, .string e.gone, .int .i64 e.file] 111)).cell? ⟨wr.heap.size, 0, none⟩ = some (.string e.name) := (World.cell?_alloc_new _ _ _ _).trans rfl
      have b1 : (wr.alloc (.cells #[.string e.name, .string e.gone, .int .i64 e.file] 111)).cell? ⟨wr.heap.size, 1, none⟩ = some (.string e.gone) := (World.cell?_alloc_new _ _ _ _).trans rfl
      have b2 : (wr.alloc (.cells #[.string e.name, .string e.gone, .int .i64 e.file] 111)).cell? ⟨wr.heap.size, 2, none⟩ = some (.int .i64 e.file) := (World.cell?_alloc_new _ _ _ _).trans rfl
      have HC1 := Aside0.mk (HC.out.below HBe.out)
      have c2 := (blk_cell HC1.out.lies.obj 2).trans (rfl : _ = some (Value.map (some m2)))
      have HNe := Aside0.mk (show some wr.heap.size ≠ some m2 from fun e => by have := Option.some.inj e; have := HC.out.lies.sure.lt; omega)
      clear he eb0 eb1 eb2 eb3 hfl hjl
      go_wp2
      generalize wr.alloc (.cells #[.string e.name, .string e.gone, .int .i64 e.file] 111) = W4 at HBe b0 b1 b2 HC1 c2 ⊢
      refine start_ (n := 6) (S := fun w' => w'.cell? ⟨wr.heap.size, 0, none⟩ = some (.string e.name) ∧ w'.cell? ⟨wr.heap.size, 1, none⟩ = some (.string e.gone) ∧ w'.cell? ⟨wr.heap.size, 2, none⟩ = some (.int .i64 e.file) ∧ w'.cell? ⟨p, 2, none⟩ = some (.map (some m2))) (ds := [5]) #[ff,ff,ff,ff,ff,ff] (by kernel_rfl) rfl rfl ⟨b0, b1, b2, c2⟩ (fun hHeld => ?_)
      have HC2 := Aside0.mk (HC1.out.below (Below.refl _ _).drew)
      generalize W4.drew = W5 at HC2 hHeld ⊢
      refine pure_ (i := 1) (N := some 32) (v := ?_) (a' := ?_) #[ff,tt,ff,ff,ff,ff] rfl rfl (by kernel_rfl) (fun _ _ _ h => h) (Or.inl ⟨by rfl, ?_⟩) ?_ ?_
      rotate_left
      · intro w'
        go_simp
        with_reducible rfl
      rotate_left
      · simp only [Act.put, pkA, pkB, pkC, i64_w, i32_w]
        rfl
      refine pure_ (i := 2) (N := some 33) (v := ?_) (a' := ?_) #[ff,tt,tt,ff,ff,ff] rfl rfl (by kernel_rfl) (fun _ _ _ h => h) (Or.inl ⟨by rfl, ?_⟩) ?_ ?_
      rotate_left
      · intro w'
        go_simp
        with_reducible rfl
      rotate_left
      · simp only [Act.put, pkA, pkB, pkC, i64_w, i32_w]
        rfl
      refine pure_ (i := 3) (N := some 34) (v := ?_) (a' := ?_) #[ff,tt,tt,tt,ff,ff] rfl rfl (by kernel_rfl) (fun _ _ _ h => h) (Or.inl ⟨by rfl, ?_⟩) ?_ ?_
      rotate_left
      · intro w'
        go_simp
        with_reducible rfl
      rotate_left
      · simp only [Act.put, pkA, pkB, pkC, i64_w, i32_w]
        rfl
      refine take_ (i := 0) (N := some 31) (v := ?_) (a' := ?_) #[tt,tt,tt,tt,ff,ff] rfl rfl (by kernel_rfl) (fun _ _ _ h => h) (Or.inl ⟨by rfl, ?_⟩) hHeld ?_ ?_
      rotate_left
      · rintro w' ⟨s0, s1, s2, s3⟩
        go_simp
        with_reducible rfl
      rotate_left
      · simp only [Act.put, pkA, pkB, pkC, i64_w, i32_w]
        rfl
      refine take_ (i := 4) (N := some 35) (v := ?_) (a' := ?_) #[tt,tt,tt,tt,tt,ff] rfl rfl (by kernel_rfl) (fun _ _ _ h => h) (Or.inl ⟨by rfl, ?_⟩) hHeld ?_ ?_
      rotate_left
      · rintro w' ⟨s0, s1, s2, s3⟩
        go_simp
        with_reducible rfl
      rotate_left
      · simp only [Act.put, pkA, pkB, pkC, i64_w, i32_w]
        rfl
      refine last_ (i := 5) (N := some 36) #[tt,tt,tt,tt,tt,tt] rfl rfl (by kernel_rfl) (by decide) (fun K hK => ?_)
      refine goes_ Tryz.func65 (by kernel_rfl) rfl #[.agg #[.string e.name, .string e.gone, .int .i64 e.file], .map (some m2)] (by rfl) rfl rfl (by simp only [List.map_toArray, List.map_cons, List.map_nil]; rfl) ?_
      with_reducible refine (HEN.out W5 HC2.out.lies.sure).mono ?_
      rintro en W6 ⟨rfl, hn1, hg1⟩
      refine ⟨_, rfl, ?_⟩
      have HC3 := Aside0.mk (show CS B w p kb { D with sure := goAll D.sure (D.opn.take (j + 1)) } L m1 m2 (.slice Af D.files.length cpf) (.slice (some ⟨g, 0, none⟩) D.opn.length co) l.tail W6 from by
        rw [HTk.out]
        refine ⟨HC2.out.lies.resure hn1 hg1, HC2.out.keep.but (But.grown hg1) (fun e => ?_), HC2.out.turn.names HC2.out.lies.sure HC2.out.lies.lo2 hg1⟩
        obtain ⟨A9, c9, ho9, _⟩ := HC2.out.keep.ex
        obtain ⟨es, cl, h9⟩ := HC2.out.lies.sure.obj
        rw [Option.some.inj e, h9] at ho9
        cases ho9)
      clear hn1 hg1
      refine hK.out _ _ ?_
      clear hK K
      refine norm_ (a' := ?_) ?_ ?_
      rotate_left
      · show Act.put _ (some 36) _ = _
        simp only [Act.put, pkA, pkB, pkC, i64_w, i32_w]
        rfl
      refine done_ (by kernel_rfl) ?_
      go_wp2
      go_roundw
      case rel => exact ⟨j + 1, by omega, by go_num, HC3⟩
      case measure => simp [Go.RowKit.intOf]; omega
    · have t1 : decide (j < k0) = false := decide_eq_false hlt
      have HJ := Aside0.mk (show j = k0 by omega)
      have c0 : wr.cell? ⟨p, 0, none⟩ = some (.slice Af nF cpf) := by rw [HNF.out]; exact (blk_cell HC.out.lies.obj 0).trans rfl
      obtain ⟨wo, rfl⟩ : ∃ wo : World, wo = wr := ⟨_, rfl⟩
      obtain ⟨N1, hN1⟩ : ∃ N1, N1 = goAll D.sure (D.opn.take k0) := ⟨_, rfl⟩
      have HN1 := Aside0.mk hN1
      have HCA := Aside0.mk (show CS B w p kb { D with sure := N1 } L m1 m2 (.slice Af D.files.length cpf) (.slice Ao D.opn.length co) l.tail wo from by rw [hN1, ← HJ.out]; exact HC.out)
      clear hN1 HC
      go_wp2
      go_loopw [43] (fun ix wr => ∃ (i : Nat) (dn : List Fil) (kp : List Int) (L' : List (Nat × Value)), i ≤ nF ∧ ix = .int .i64 i ∧ Aside0 (dn.length = i) ∧ Aside0 (crashFs D.files l.tail = dn ++ crashFs (D.files.drop i) kp) ∧ Aside0 (L'.map Prod.fst = L.map Prod.fst) ∧
        Aside0 (CS B w p kb { D with sure := N1, files := dn ++ D.files.drop i } L' m1 m2 (.slice Af D.files.length cpf) (.slice Ao D.opn.length co) kp wr)) (fun ix _ => nF - (Go.RowKit.intOf ix).toNat)
      case atStart => exact ⟨0, [], l.tail, L, by omega, rfl, ⟨rfl⟩, ⟨by simp⟩, ⟨rfl⟩, ⟨by simpa using HCA.out⟩⟩
      case round =>
        obtain ⟨i, dn, kp, L', hi, rfl, HDn, HCr, HLm, HC⟩ := hrel
        by_cases hlt2 : i < nF
        · have t1 : decide (i < nF) = true := decide_eq_true hlt2
          obtain ⟨f, hf⟩ : ∃ f, D.files[i]? = some f := ⟨_, List.getElem?_eq_getElem (by rw [← HNF.out]; exact hlt2)⟩
          have hdr := drop_at hf
          rw [hdr] at HC HCr
          have HF2 := Aside0.mk (mid_at (r := D.files.drop (i + 1)) (f := f) HDn.out)
          have hil : i < L'.length := by have h1 := congrArg List.length HLm.out; rw [List.length_map, List.length_map] at h1; have h2 := HCS0.out.lies.files.len; have h3 := HNF.out; omega
          obtain ⟨x, hx⟩ : ∃ x, L'[i]? = some x := ⟨_, List.getElem?_eq_getElem hil⟩
          have HX := Aside0.mk hx
          obtain ⟨gF, cp3, ef, _, hg⟩ := ptr_at HC.out.lies.ptrs i x.1 (by rw [List.getElem?_map, hx]; rfl)
          simp only [Value.slice.injEq] at ef
          obtain ⟨rfl, _, rfl⟩ := ef
          have hkf := HOk.out.fil f (List.mem_of_getElem? hf)
          have HKf := Aside0.mk hkf
          have HFO := Aside0.mk (show f.opn.length ≤ 1000000000 by have := hkf.cnt; omega)
          obtain ⟨⟨nv, sv, ho, _, _⟩, _, hop⟩ := HC.out.lies.files.each i x f hx HF2.out
          obtain ⟨Ar, cr, er, hcr, _⟩ := Kd.R_reads hop
          have HCr2 := Aside0.mk hcr
          have q2 : wr.cell? ⟨x.1, 2, none⟩ = some (.slice Ar f.opn.length cr) := by rw [← er]; exact (blk_cell ho 2).trans rfl
          have HRv := Aside0.mk er
          have HFf := Aside0.mk hf
          have HFol := HFO.out
          have u2 : (0 : Int) ≤ (i : Int) := by omega
          have u3 : (i : Int) < (nF : Int) := by omega
          have hnFb : (nF : Int) ≤ 1000000000 := by have := HFl.out; rw [← HNF.out] at this; omega
          clear hf hdr hil hx ho hop er hkf hcr
          by_cases hem : f.opn = []
          · have t2 : ((f.opn.length : Int) == 0) = true := by simp [hem]
            have HEm := Aside0.mk hem
            clear hem
            go_wp2
            go_roundw
            case rel => exact ⟨i + 1, dn ++ [f], kp, L', by omega, by go_num, ⟨by simp [HDn.out]⟩, ⟨by rw [HCr.out, crashFs_nil HEm.out]; simp⟩, HLm, ⟨by simpa using HC.out⟩⟩
            case measure => simp [Go.RowKit.intOf]; omega
          · have t2 : ((f.opn.length : Int) == 0) = false := by simpa using hem
            have HEm := Aside0.mk hem
            clear hem
            obtain ⟨k1, hk1⟩ : ∃ k1, k1 = ofK kp f.opn.length := ⟨_, rfl⟩
            have HK1 := Aside0.mk hk1
            have HK1l := Aside0.mk (show k1 ≤ f.opn.length by rw [hk1]; exact ofK_le _ _)
            have HOf := Aside0.mk (fun (U : World) (hk : KeepAt B w kb U kp) (ht : Turn B w U) => of_calls B w kb f.opn.length kp U hk ht (by have := HFO.out; omega))
            rw [← hk1] at HOf
            have hct7 := cut_row 106 114 Tryz.underlying106 (by obtain ⟨i, hi, _⟩ := info_parts infoC; exact ⟨i, hi⟩) Ar f.opn.length cr k1 (by have := HK1l.out; have := HCr2.out; omega)
            clear hk1
            go_wp2_with (go_at_call 64; refine (HOf.out _ HC.out.keep HC.out.turn).mono ?_; rintro e w7 ⟨rfl, hkp, hbt, htn⟩; have HC7 := Aside0.mk (show CS B w p kb { D with sure := N1, files := dn ++ f :: D.files.drop (i + 1) } L' m1 m2 (.slice (some ⟨gF, 0, none⟩) D.files.length cpf) (.slice Ao D.opn.length co) kp.tail w7 from ⟨by obtain ⟨A9, c9, ho9, _⟩ := HC.out.keep.ex; exact HC.out.lies.foreign ho9 (by decide) (by decide) hbt, hkp, htn⟩); clear hkp hbt htn; have r2 : w7.cell? ⟨x.1, 2, none⟩ = some (.slice Ar f.opn.length cr) := (by obtain ⟨⟨nv, sv, ho, _, _⟩, _, hop⟩ := HC7.out.lies.files.each i x f HX.out HF2.out; rw [← HRv.out]; exact (blk_cell ho 2).trans rfl))
            obtain ⟨wq, rfl⟩ : ∃ wq : World, wq = wr := ⟨_, rfl⟩
            have HK1b := Aside0.mk (show (k1 : Int) ≤ 1000000000 by have := HK1l.out; omega)
            have hk1b := HK1b.out
            go_loopw [67] (fun ix wr => ∃ j2 : Nat, j2 ≤ k1 ∧ ix = .int .i64 j2 ∧ Aside0 (CS B w p kb { D with sure := N1, files := dn ++ { f with sure := chgAll f.sure (f.opn.take j2) } :: D.files.drop (i + 1) } L' m1 m2 (.slice (some ⟨gF, 0, none⟩) D.files.length cpf) (.slice Ao D.opn.length co) kp.tail wr)) (fun ix _ => k1 - (Go.RowKit.intOf ix).toNat)
            case atStart => exact ⟨0, by omega, rfl, ⟨by simpa [chgAll] using HC7.out⟩⟩
            case round =>
              obtain ⟨j2, hj2, rfl, HCi⟩ := hrel
              have HF3 := Aside0.mk (mid_at (r := D.files.drop (i + 1)) (f := ({ f with sure := chgAll f.sure (f.opn.take j2) } : Fil)) HDn.out)
              by_cases hlt3 : j2 < k1
              · have t3 : decide (j2 < k1) = true := decide_eq_true hlt3
                have hj2l : j2 < f.opn.length := by have := HK1l.out; omega
                obtain ⟨ch, hch⟩ : ∃ ch, f.opn[j2]? = some ch := ⟨_, List.getElem?_eq_getElem hj2l⟩
                obtain ⟨⟨nv3, sv3, ho3, hn3, hs3⟩, lo3, hop3⟩ := HCi.out.lies.files.each i x _ HX.out HF3.out
                obtain ⟨g3, cp4, A3, cb3, e3, _, q0, q1, q22, hb3⟩ := chg_at hop3 j2 ch hch
                rw [HRv.out] at e3
                simp only [Value.slice.injEq] at e3
                obtain ⟨rfl, _, rfl⟩ := e3
                obtain ⟨As, cs3, rfl⟩ := Kd.R_slice hs3
                have s1 : wr.cell? ⟨x.1, 1, none⟩ = some (.slice As (chgAll f.sure (f.opn.take j2)).length cs3) := (blk_cell ho3 1).trans rfl
                have hpos := fits_take f.opn f.sure HKf.out.fits j2 ch hch
                have hlen := len_take f.opn f.sure HKf.out.sureL HKf.out.opnL j2
                have hcl := HKf.out.opnL ch (List.mem_of_getElem? hch)
                have HTS := Aside0.mk (take_step f.opn f.sure j2 ch hch)
                obtain ⟨sb, hsb⟩ : ∃ sb, sb = chgAll f.sure (f.opn.take j2) := ⟨_, rfl⟩
                rw [← hsb] at s1 hpos hlen HTS hs3 HF3 HCi
                have HDo := Aside0.mk (fun (U : World) (hb : Below wr.heap.size wr U) => chg_calls B ch (.slice A3 ch.b.length cb3) (.slice As sb.length cs3) sb U (hb3.turn (Turn.of_below hb)) (hs3.turn (Turn.of_below hb)) hpos hlen (by omega))
                have HLow := Aside0.mk (show B.n ≤ wr.heap.size ∧ B.q < wr.heap.size by have := HCi.out.lies.lop; have := blk_lt HCi.out.lies.obj; exact ⟨by omega, HCi.out.lies.lt⟩)
                have HHo3 := Aside0.mk ho3
                have HLo3 := Aside0.mk lo3
                have HBb := Aside0.mk (show Below wr.heap.size wr (wr.alloc (.cells #[.int .i64 (ch.pos : Int), .slice A3 ch.b.length cb3, .bool ch.cut] 114)) from (Below.refl _ _).alloc (Nat.le_refl _) _)
                have b0 : (wr.alloc (.cells #[.int .i64 (ch.pos : Int), .slice A3 ch.b.length cb3, .bool ch.cut] 114)).cell? ⟨wr.heap.size, 0, none⟩ = some (.int .i64 (ch.pos : Int)) := (World.cell?_alloc_new _ _ _ _).trans rfl
                have b1 : (wr.alloc (.cells #[.int .i64 (ch.pos : Int), .slice A3 ch.b.length cb3, .bool ch.cut] 114)).cell? ⟨wr.heap.size, 1, none⟩ = some (.slice A3 ch.b.length cb3) := (World.cell?_alloc_new _ _ _ _).trans rfl
                have b2 : (wr.alloc (.cells #[.int .i64 (ch.pos : Int), .slice A3 ch.b.length cb3, .bool ch.cut] 114)).cell? ⟨wr.heap.size, 2, none⟩ = some (.bool ch.cut) := (World.cell?_alloc_new _ _ _ _).trans rfl
                have b3 := (HBb.out.cell (p := ⟨x.1, 1, none⟩) (World.block_lt_of_cell? wr _ s1)).trans s1
                have u4 : (0 : Int) ≤ (j2 : Int) := by omega
                have u5 : (j2 : Int) < (k1 : Int) := by omega
                clear hch hn3 hs3 hop3 hb3 hpos hlen hcl hsb hj2l ho3 lo3
                go_wp2
                generalize hW8 : wr.alloc (.cells #[.int .i64 (ch.pos : Int), .slice A3 ch.b.length cb3, .bool ch.cut] 114) = W8 at HBb b0 b1 b2 b3 ⊢
                clear hW8
                refine start_ (n := 10) (S := fun w' => w'.cell? ⟨wr.heap.size, 0, none⟩ = some (.int .i64 (ch.pos : Int)) ∧ w'.cell? ⟨wr.heap.size, 1, none⟩ = some (.slice A3 ch.b.length cb3) ∧ w'.cell? ⟨wr.heap.size, 2, none⟩ = some (.bool ch.cut) ∧ w'.cell? ⟨x.1, 1, none⟩ = some (.slice As sb.length cs3)) (ds := [6, 9]) #[ff,ff,ff,ff,ff,ff,ff,ff,ff,ff] (by kernel_rfl) rfl rfl ⟨b0, b1, b2, b3⟩ (fun hHeld => ?_)
                have HBc := Aside0.mk (HBb.out.trans ((Below.refl _ W8).drew.mono HBb.out.size))
                generalize W8.drew = W9 at HBc hHeld ⊢
                refine pure_ (i := 0) (N := some 71) (v := ?_) (a' := ?_) #[tt,ff,ff,ff,ff,ff,ff,ff,ff,ff] rfl rfl (by kernel_rfl) (fun _ _ _ h => h) (Or.inl ⟨by rfl, ?_⟩) ?_ ?_
                rotate_left
                · intro w'
                  go_simp
                  with_reducible rfl
                rotate_left
                · simp only [Act.put, pkA, pkB, pkC, i64_w, i32_w]
                  rfl
                refine pure_ (i := 2) (N := some 73) (v := ?_) (a' := ?_) #[tt,ff,tt,ff,ff,ff,ff,ff,ff,ff] rfl rfl (by kernel_rfl) (fun _ _ _ h => h) (Or.inl ⟨by rfl, ?_⟩) ?_ ?_
                rotate_left
                · intro w'
                  go_simp
                  with_reducible rfl
                rotate_left
                · simp only [Act.put, pkA, pkB, pkC, i64_w, i32_w]
                  rfl
                refine pure_ (i := 3) (N := some 74) (v := ?_) (a' := ?_) #[tt,ff,tt,tt,ff,ff,ff,ff,ff,ff] rfl rfl (by kernel_rfl) (fun _ _ _ h => h) (Or.inl ⟨by rfl, ?_⟩) ?_ ?_
                rotate_left
                · intro w'
                  go_simp
                  with_reducible rfl
                rotate_left
                · simp only [Act.put, pkA, pkB, pkC, i64_w, i32_w]
                  rfl
                refine pure_ (i := 4) (N := some 75) (v := ?_) (a' := ?_) #[tt,ff,tt,tt,tt,ff,ff,ff,ff,ff] rfl rfl (by kernel_rfl) (fun _ _ _ h => h) (Or.inl ⟨by rfl, ?_⟩) ?_ ?_
                rotate_left
                · intro w'
                  go_simp
                  with_reducible rfl
                rotate_left
                · simp only [Act.put, pkA, pkB, pkC, i64_w, i32_w]
                  rfl
                refine take_ (i := 1) (N := some 72) (v := ?_) (a' := ?_) #[tt,tt,tt,tt,tt,ff,ff,ff,ff,ff] rfl rfl (by kernel_rfl) (fun _ _ _ h => h) (Or.inl ⟨by rfl, ?_⟩) hHeld ?_ ?_
                rotate_left
                · rintro w' ⟨s0, s1, s2, s3⟩
                  go_simp
                  with_reducible rfl
                rotate_left
                · simp only [Act.put, pkA, pkB, pkC, i64_w, i32_w]
                  rfl
                refine take_ (i := 5) (N := some 76) (v := ?_) (a' := ?_) #[tt,tt,tt,tt,tt,tt,ff,ff,ff,ff] rfl rfl (by kernel_rfl) (fun _ _ _ h => h) (Or.inl ⟨by rfl, ?_⟩) hHeld ?_ ?_
                rotate_left
                · rintro w' ⟨s0, s1, s2, s3⟩
                  go_simp
                  with_reducible rfl
                rotate_left
                · simp only [Act.put, pkA, pkB, pkC, i64_w, i32_w]
                  rfl
                refine last_ (i := 6) (N := some 77) #[tt,tt,tt,tt,tt,tt,tt,ff,ff,ff] rfl rfl (by kernel_rfl) (by decide) (fun K hK => ?_)
                refine goes_ Tryz.func66 (by kernel_rfl) rfl #[.agg #[.int .i64 (ch.pos : Int), .slice A3 ch.b.length cb3, .bool ch.cut], .slice As sb.length cs3] (by rfl) rfl rfl (by simp only [List.map_toArray, List.map_cons, List.map_nil]; rfl) ?_
                with_reducible refine (HDo.out W9 HBc.out).mono ?_
                rintro e WA ⟨v, rfl, hr, hb⟩
                refine ⟨_, rfl, ?_⟩
                obtain ⟨Av, cv, rfl⟩ := Kd.R_slice hr
                have HBd := Aside0.mk (HBc.out.trans (hb.mono HBc.out.size))
                have HVd := Aside0.mk (show BytesAt B WA (.slice Av (ch.go sb).length cv) (ch.go sb) from BytesAt.lower hr (Nat.le_trans HLow.out.1 HBc.out.size) (Nat.lt_of_lt_of_le HLow.out.2 HBc.out.size))
                have HOd := Aside0.mk ((HBd.out.block _ (blk_lt HHo3.out)).trans HHo3.out)
                have e1 : WA.cell? ⟨x.1, 1, none⟩ = some (.slice As sb.length cs3) := (HBd.out.cell (p := ⟨x.1, 1, none⟩) (World.block_lt_of_cell? wr _ s1)).trans s1
                have f1 : WA.frozen? ⟨x.1, 1, none⟩ = false := blk_frozen HOd.out 1
                clear hr hb
                refine hK.out _ _ ?_
                clear hK K
                refine norm_ (a' := ?_) ?_ ?_
                rotate_left
                · show Act.put _ (some 77) _ = _
                  simp only [Act.put, pkA, pkB, pkC, i64_w, i32_w]
                  rfl
                refine pure_ (i := 7) (N := some 78) (v := ?_) (a' := ?_) #[tt,tt,tt,tt,tt,tt,tt,tt,ff,ff] rfl rfl (by kernel_rfl) (fun _ _ _ h => h) (Or.inl ⟨by rfl, ?_⟩) ?_ ?_
                rotate_left
                · intro w'
                  go_simp
                  with_reducible rfl
                rotate_left
                · simp only [Act.put, pkA, pkB, pkC, i64_w, i32_w]
                  rfl
                refine pure_ (i := 8) (N := some 79) (v := ?_) (a' := ?_) #[tt,tt,tt,tt,tt,tt,tt,tt,tt,ff] rfl rfl (by kernel_rfl) (fun _ _ _ h => h) (Or.inl ⟨by rfl, ?_⟩) ?_ ?_
                rotate_left
                · intro w'
                  go_simp
                  with_reducible rfl
                rotate_left
                · simp only [Act.put, pkA, pkB, pkC, i64_w, i32_w]
                  rfl
                refine last_ (i := 9) (N := none) #[tt,tt,tt,tt,tt,tt,tt,tt,tt,tt] rfl rfl (by kernel_rfl) (by decide) (fun K hK => ?_)
                refine skip_ (w1 := ?_) (by rfl) rfl ?_ ?_
                rotate_left
                · go_simp
                  rfl
                refine hK.out _ _ ?_
                clear hK K
                refine done_ (by kernel_rfl) ?_
                go_wp2
                go_roundw
                case rel => exact ⟨j2 + 1, by omega, by go_num, ⟨by
                  rw [HTS.out]
                  have h1 := HCi.out.lies.setSure i x _ HX.out HF3.out HBd.out HVd.out
                  simp only [mid_set HDn.out] at h1
                  refine ⟨h1, (HCi.out.keep.but (But.of_below (row := some x.1) HBd.out) ?_).but (But.setCell WA ⟨x.1, 1, none⟩ _) ?_, (HCi.out.turn.below HBd.out).setCell HOd.out rfl HLo3.out 1 _⟩
                  · intro e; obtain ⟨A9, c9, ho9, _⟩ := HCi.out.keep.ex; rw [Option.some.inj e, HHo3.out] at ho9; cases ho9
                  · intro e; obtain ⟨A9, c9, ho9, _⟩ := HCi.out.keep.ex; rw [Option.some.inj e, HHo3.out] at ho9; cases ho9⟩⟩
                case measure => simp [Go.RowKit.intOf]; omega
              · have t3 : decide (j2 < k1) = false := decide_eq_false hlt3
                have HJ2 := Aside0.mk (show j2 = k1 by omega)
                have HEJ := HJ2.out
                subst HEJ
                obtain ⟨sK, hsK⟩ : ∃ sK, sK = chgAll f.sure (f.opn.take j2) := ⟨_, rfl⟩
                have HSK := Aside0.mk hsK
                have hlen := len_take f.opn f.sure HKf.out.sureL HKf.out.opnL j2
                rw [← hsK] at HCi HF3 hlen
                obtain ⟨⟨nv3, sv3, ho3, hn3, hs3⟩, lo3, hop3⟩ := HCi.out.lies.files.each i x _ HX.out HF3.out
                obtain ⟨As, csK, rfl⟩ := Kd.R_slice hs3
                have HS1 := Aside0.mk ((blk_cell ho3 1).trans rfl : wr.cell? ⟨x.1, 1, none⟩ = some (.slice As sK.length csK))
                have q2r : wr.cell? ⟨x.1, 2, none⟩ = some (.slice Ar f.opn.length cr) := by rw [← HRv.out]; exact (blk_cell ho3 2).trans rfl
                have HHo3 := Aside0.mk ho3
                have HLo3 := Aside0.mk lo3
                have HSb := Aside0.mk hs3
                have HOp3 := Aside0.mk hop3
                have HLen := Aside0.mk hlen
                have HLow := Aside0.mk (show B.n ≤ wr.heap.size ∧ B.q < wr.heap.size by have := HCi.out.lies.lop; have := blk_lt HCi.out.lies.obj; exact ⟨by omega, HCi.out.lies.lt⟩)
                clear hsK hlen ho3 hn3 hs3 lo3 hop3 q2
                by_cases hfull : j2 < f.opn.length
                · have t4 : decide (j2 < f.opn.length) = true := decide_eq_true hfull
                  obtain ⟨ch, hch⟩ : ∃ ch, f.opn[j2]? = some ch := ⟨_, List.getElem?_eq_getElem hfull⟩
                  obtain ⟨g3, cp4, A3, cb3, e3, _, q0, q1, q22, hb3⟩ := chg_at HOp3.out j2 ch hch
                  rw [HRv.out] at e3
                  simp only [Value.slice.injEq] at e3
                  obtain ⟨rfl, _, rfl⟩ := e3
                  have u6 : (0 : Int) ≤ (j2 : Int) := by omega
                  have u7 : (j2 : Int) < (f.opn.length : Int) := by omega
                  have HCh := Aside0.mk hch
                  cases hcut : ch.cut with
                  | true =>
                    rw [hcut] at q22
                    have HCut := Aside0.mk hcut
                    clear hch hb3 hcut
                    have HDone := Aside0.mk (HCi.out.lies.setDone i x _ HX.out HF3.out HS1.out)
                    have HKp := Aside0.mk (show CS B w p kb { D with sure := N1, files := dn ++ ⟨sK, sK, []⟩ :: D.files.drop (i + 1) } (L'.set i (x.1, .slice none 0 0)) m1 m2 (.slice (some ⟨gF, 0, none⟩) D.files.length cpf) (.slice Ao D.opn.length co) kp.tail _ from by
                      have h1 := HDone.out.1
                      simp only [mid_set HDn.out] at h1
                      obtain ⟨⟨nv9, sv9, ho9, _, _⟩, _, _⟩ := HCi.out.lies.files.each i x _ HX.out HF3.out
                      have nk : some kb ≠ some x.1 := fun e => by obtain ⟨A9, c9, hk9, _⟩ := HCi.out.keep.ex; rw [Option.some.inj e, ho9] at hk9; cases hk9
                      exact ⟨h1, (HCi.out.keep.but (But.setCell _ ⟨x.1, 0, none⟩ _) nk).but (But.setCell _ ⟨x.1, 2, none⟩ _) nk, HCi.out.turn.trans HDone.out.2⟩)
                    have HCF := Aside0.mk (show crashF f kp = (sK, kp.tail) from by unfold crashF; simp only; rw [← HK1.out, HCh.out]; simp only; rw [if_pos HCut.out, ← HSK.out])
                    have z0 := HCi.out.lies.files.each i x _ HX.out HF3.out
                    obtain ⟨⟨nv9, sv9, ho9, _, _⟩, _, _⟩ := z0
                    have y0 := (blk_cell ho9 0).trans (rfl : _ = some nv9)
                    have y00 := blk_frozen ho9 0
                    have HO9 := Aside0.mk (blk_put ho9 0 (.slice As sK.length csK) rfl)
                    have y2 := (blk_cell HO9.out 2).trans (rfl : _ = some x.2)
                    have y20 := blk_frozen HO9.out 2
                    have y1 := HS1.out
                    clear ho9
                    go_wp2
                    go_roundw
                    case rel => exact ⟨i + 1, dn ++ [⟨sK, sK, []⟩], kp.tail, L'.set i (x.1, .slice none 0 0), by omega, by go_num, ⟨by simp [HDn.out]⟩, ⟨by rw [HCr.out, crashFs_cons HEm.out, HCF.out]; simp⟩, ⟨by rw [map_set HX.out]; exact HLm.out⟩, ⟨by simpa using HKp.out⟩⟩
                    case measure => simp [Go.RowKit.intOf]; omega
                  | false =>
                    have HCut := Aside0.mk hcut
                    obtain ⟨k2, hk2⟩ : ∃ k2, k2 = ofK kp.tail ch.b.length := ⟨_, rfl⟩
                    have HK2 := Aside0.mk hk2
                    have hk2l : k2 ≤ ch.b.length := by rw [hk2]; exact ofK_le _ _
                    have hchl := HKf.out.opnL ch (List.mem_of_getElem? hch)
                    have hpos := fits_take f.opn f.sure HKf.out.fits j2 ch hch
                    rw [← HSK.out] at hpos
                    have HOf2 := Aside0.mk (fun (U : World) (hk : KeepAt B w kb U kp.tail) (ht : Turn B w U) => of_calls B w kb ch.b.length kp.tail U hk ht (by omega))
                    rw [← hk2] at HOf2
                    obtain ⟨_, _, e9, hcb, _⟩ := Kd.R_reads hb3
                    simp only [Value.slice.injEq] at e9
                    obtain ⟨rfl, _, rfl⟩ := e9
                    have hctb := cut_top A3 ch.b.length cb3 k2 (by omega)
                    have hbt : BytesAt B wr (.slice A3 k2 cb3) (ch.b.take k2) := Kd.R_take hb3 (m := k2) hk2l
                    have hpb : (partC ch k2).pos + (partC ch k2).b.length ≤ 1080000000 := by
                      show ch.pos + (ch.b.take k2).length ≤ 1080000000
                      rw [List.length_take]
                      omega
                    have HDo := Aside0.mk (fun (U : World) (hb1 : BytesAt B U (.slice A3 k2 cb3) (ch.b.take k2)) (hb2 : BytesAt B U (.slice As sK.length csK) sK) => chg_calls B (partC ch k2) (.slice A3 k2 cb3) (.slice As sK.length csK) sK U hb1 hb2 hpos HLen.out hpb)
                    have HBt := Aside0.mk hbt
                    have ePos : ((partC ch k2).pos : Int) = (ch.pos : Int) := rfl
                    have eCut : (partC ch k2).cut = false := hcut
                    rw [ePos, eCut] at HDo
                    obtain ⟨sZ, hsZ⟩ : ∃ sZ, sZ = (partC ch k2).go sK := ⟨_, rfl⟩
                    rw [← hsZ] at HDo
                    have HSZe := Aside0.mk hsZ
                    clear hsZ
                    rw [hcut] at q22
                    have HBb := Aside0.mk (show Below wr.heap.size wr (wr.alloc (.cells #[.int .i64 (ch.pos : Int), .slice A3 ch.b.length cb3, .bool false] 114)) from (Below.refl _ _).alloc (Nat.le_refl _) _)
                    have HBx := Aside0.mk (heap_alloc_new wr (.cells #[.int .i64 (ch.pos : Int), .slice A3 ch.b.length cb3, .bool false] 114))
                    have HC8 := Aside0.mk (HCi.out.below HBb.out)
                    have HKne := Aside0.mk (show some wr.heap.size ≠ some kb from fun e => by obtain ⟨A9, c9, hk9, _⟩ := HCi.out.keep.ex; have := blk_lt hk9; have := Option.some.inj e; omega)
                    have HXne := Aside0.mk (show x.1 ≠ wr.heap.size by have := blk_lt HHo3.out; omega)
                    have HS8 := Aside0.mk ((HBb.out.cell (p := ⟨x.1, 1, none⟩) (World.block_lt_of_cell? wr _ HS1.out)).trans HS1.out)
                    have hcbl := hcb
                    clear hch hb3 hcut hk2 hchl hpos hbt hpb ePos eCut hcb
                    go_wp2
                    generalize hW8 : wr.alloc (.cells #[.int .i64 (ch.pos : Int), .slice A3 ch.b.length cb3, .bool false] 114) = W8 at HBb HBx HC8 HS8 ⊢
                    clear hW8
                    have b1 : W8.cell? ⟨wr.heap.size, 1, none⟩ = some (.slice A3 ch.b.length cb3) := (blk_cell HBx.out 1).trans rfl
                    refine start_ (n := 10) (S := fun w' => w'.cell? ⟨wr.heap.size, 1, none⟩ = some (.slice A3 ch.b.length cb3)) (ds := [9]) #[ff,ff,ff,ff,ff,ff,ff,ff,ff,ff] (by kernel_rfl) rfl rfl (b1) (fun hHeld => ?_)
                    have HC9 := Aside0.mk (HC8.out.below (Below.refl _ _).drew)
                    have HBx9 := Aside0.mk (show W8.drew.heap[wr.heap.size]? = _ from HBx.out)
                    have HU9 := Aside0.mk (show But wr W8.drew (some kb) from (But.of_below HBb.out).trans (But.of_below (Below.refl _ _).drew))
                    generalize W8.drew = W9 at HC9 HBx9 HU9 hHeld ⊢
                    refine pure_ (i := 0) (N := some 106) (v := ?_) (a' := ?_) #[tt,ff,ff,ff,ff,ff,ff,ff,ff,ff] rfl rfl (by kernel_rfl) (fun _ _ _ h => h) (Or.inl ⟨by rfl, ?_⟩) ?_ ?_
                    rotate_left
                    · intro w'
                      go_simp
                      with_reducible rfl
                    rotate_left
                    · simp only [Act.put, pkA, pkB, pkC, i64_w, i32_w]
                      rfl
                    refine pure_ (i := 2) (N := some 108) (v := ?_) (a' := ?_) #[tt,ff,tt,ff,ff,ff,ff,ff,ff,ff] rfl rfl (by kernel_rfl) (fun _ _ _ h => h) (Or.inl ⟨by rfl, ?_⟩) ?_ ?_
                    rotate_left
                    · intro w'
                      go_simp
                      with_reducible rfl
                    rotate_left
                    · simp only [Act.put, pkA, pkB, pkC, i64_w, i32_w]
                      rfl
                    refine pure_ (i := 3) (N := some 109) (v := ?_) (a' := ?_) #[tt,ff,tt,tt,ff,ff,ff,ff,ff,ff] rfl rfl (by kernel_rfl) (fun _ _ _ h => h) (Or.inl ⟨by rfl, ?_⟩) ?_ ?_
                    rotate_left
                    · intro w'
                      go_simp
                      with_reducible rfl
                    rotate_left
                    · simp only [Act.put, pkA, pkB, pkC, i64_w, i32_w]
                      rfl
                    refine take_ (i := 1) (N := some 107) (v := ?_) (a' := ?_) #[tt,tt,tt,tt,ff,ff,ff,ff,ff,ff] rfl rfl (by kernel_rfl) (fun _ _ _ h => h) (Or.inl ⟨by rfl, ?_⟩) hHeld ?_ ?_
                    rotate_left
                    · intro w' s0
                      go_simp
                      with_reducible rfl
                    rotate_left
                    · simp only [Act.put, pkA, pkB, pkC, i64_w, i32_w]
                      rfl
                    refine take_ (i := 4) (N := some 110) (v := ?_) (a' := ?_) #[tt,tt,tt,tt,tt,ff,ff,ff,ff,ff] rfl rfl (by kernel_rfl) (fun _ _ _ h => h) (Or.inl ⟨by rfl, ?_⟩) hHeld ?_ ?_
                    rotate_left
                    · intro w' s0
                      go_simp
                      with_reducible rfl
                    rotate_left
                    · simp only [Act.put, pkA, pkB, pkC, i64_w, i32_w]
                      rfl
                    refine pure_ (i := 5) (N := some 111) (v := ?_) (a' := ?_) #[tt,tt,tt,tt,tt,tt,ff,ff,ff,ff] rfl rfl (by kernel_rfl) (fun _ _ _ h => h) (Or.inl ⟨by rfl, ?_⟩) ?_ ?_
                    rotate_left
                    · intro w'
                      go_simp
                      with_reducible rfl
                    rotate_left
                    · simp only [Act.put, pkA, pkB, pkC, i64_w, i32_w]
                      rfl
                    refine one_ (i := 6) (N := some 112) #[tt,tt,tt,tt,tt,tt,tt,ff,ff,ff] rfl rfl (by kernel_rfl) (by decide) (fun K hK => ?_)
                    refine goesV_ Tryz.func64 (by kernel_rfl) rfl (.tmp 108) #[] #[.pointer (some ⟨kb, 0, none⟩)] #[.int .i64 (ch.b.length : Int), .pointer (some ⟨kb, 0, none⟩)] (by rfl) rfl rfl rfl (by simp only [List.map_toArray, List.map_cons, List.map_nil]; rfl) ?_
                    with_reducible refine (HOf2.out W9 HC9.out.keep HC9.out.turn).mono ?_
                    rintro e WA ⟨rfl, hkp, hbt, htn⟩
                    refine ⟨_, rfl, ?_⟩
                    have HKpA := Aside0.mk hkp
                    have HTnA := Aside0.mk htn
                    have HUA := Aside0.mk (HU9.out.trans hbt)
                    have HBxA := Aside0.mk (hbt.obj HBx9.out HKne.out)
                    have g1 : WA.cell? ⟨wr.heap.size, 1, none⟩ = some (.slice A3 ch.b.length cb3) := (blk_cell HBxA.out 1).trans rfl
                    have g2 : WA.frozen? ⟨wr.heap.size, 1, none⟩ = false := blk_frozen HBxA.out 1
                    clear hkp hbt htn
                    refine hK.out _ _ (g1) (fun hHeld => ?_)
                    clear hK K
                    refine norm_ (a' := ?_) ?_ ?_
                    rotate_left
                    · show Act.put _ (some 112) _ = _
                      simp only [Act.put, pkA, pkB, pkC, i64_w, i32_w]
                      rfl
                    refine pure_ (i := 7) (N := some 113) (v := ?_) (a' := ?_) #[tt,tt,tt,tt,tt,tt,tt,tt,ff,ff] rfl rfl (by kernel_rfl) (fun _ _ _ h => h) (Or.inl ⟨by rfl, ?_⟩) ?_ ?_
                    rotate_left
                    · intro w'
                      go_simp
                      with_reducible rfl
                    rotate_left
                    · simp only [Act.put, pkA, pkB, pkC, i64_w, i32_w]
                      rfl
                    refine pure_ (i := 8) (N := some 114) (v := ?_) (a' := ?_) #[tt,tt,tt,tt,tt,tt,tt,tt,tt,ff] rfl rfl (by kernel_rfl) (fun _ _ _ h => h) (Or.inl ⟨by rfl, ?_⟩) ?_ ?_
                    rotate_left
                    · intro w'
                      go_simp
                      with_reducible rfl
                    rotate_left
                    · simp only [Act.put, pkA, pkB, pkC, i64_w, i32_w]
                      rfl
                    refine last_ (i := 9) (N := none) #[tt,tt,tt,tt,tt,tt,tt,tt,tt,tt] rfl rfl (by kernel_rfl) (by decide) (fun K hK => ?_)
                    refine skip_ (w1 := ?_) (by rfl) rfl ?_ ?_
                    rotate_left
                    · go_simp
                      rfl
                    refine hK.out _ _ ?_
                    clear hK K
                    refine done_ (by kernel_rfl) ?_
                    have oB := blk_put HBxA.out 1 (.slice A3 k2 cb3) rfl
                    have kB := But.setCell WA ⟨wr.heap.size, 1, none⟩ (.slice A3 k2 cb3)
                    have uB : But wr (WA.setCell ⟨wr.heap.size, 1, none⟩ (.slice A3 k2 cb3)) (some kb) := ⟨Nat.le_trans HUA.out.1 kB.1, fun k hk hne => (kB.2 k (Nat.lt_of_lt_of_le hk HUA.out.1) (fun e => by have := Option.some.inj e; simp only at this; omega)).trans (HUA.out.2 k hk hne)⟩
                    have nB : Not wr (some kb) [5] := by obtain ⟨A9, c9, hk9, _⟩ := HCi.out.keep.ex; exact Not.cells (t := tI) (fun g hg => by obtain rfl := Option.some.inj hg; exact ⟨_, _, hk9⟩) (by decide)
                    have HBtB := Aside0.mk (BytesAt.but HBt.out uB nB)
                    have HSbB := Aside0.mk (BytesAt.but HSb.out uB nB)
                    have HCB := Aside0.mk (show CS B w p kb { D with sure := N1, files := dn ++ { f with sure := sK } :: D.files.drop (i + 1) } L' m1 m2 (.slice (some ⟨gF, 0, none⟩) D.files.length cpf) (.slice Ao D.opn.length co) kp.tail.tail (WA.setCell ⟨wr.heap.size, 1, none⟩ (.slice A3 k2 cb3)) from ⟨by obtain ⟨A9, c9, hk9, _⟩ := HCi.out.keep.ex; exact HCi.out.lies.foreign hk9 (by decide) (by decide) uB, HKpA.out.but kB HKne.out.symm, HTnA.out.setNew HCi.out.turn.size 1 _⟩)
                    have HOB := Aside0.mk oB
                    have HO3B := Aside0.mk (uB.obj HHo3.out (fun e => by obtain ⟨A9, c9, hk9, _⟩ := HCi.out.keep.ex; rw [← Option.some.inj e, HHo3.out] at hk9; cases hk9))
                    clear kB uB nB oB
                    go_wp2
                    generalize WA.setCell ⟨wr.heap.size, 1, none⟩ (.slice A3 k2 cb3) = WB at HBtB HSbB HCB HOB HO3B ⊢
                    have p0 : WB.cell? ⟨wr.heap.size, 0, none⟩ = some (.int .i64 (ch.pos : Int)) := (blk_cell HOB.out 0).trans rfl
                    have p1 : WB.cell? ⟨wr.heap.size, 1, none⟩ = some (.slice A3 k2 cb3) := (blk_cell HOB.out 1).trans rfl
                    have p2 : WB.cell? ⟨wr.heap.size, 2, none⟩ = some (.bool false) := (blk_cell HOB.out 2).trans rfl
                    have p3 : WB.cell? ⟨x.1, 1, none⟩ = some (.slice As sK.length csK) := (blk_cell HO3B.out 1).trans rfl
                    refine start_ (n := 10) (S := fun w' => w'.cell? ⟨wr.heap.size, 0, none⟩ = some (.int .i64 (ch.pos : Int)) ∧ w'.cell? ⟨wr.heap.size, 1, none⟩ = some (.slice A3 k2 cb3) ∧ w'.cell? ⟨wr.heap.size, 2, none⟩ = some (.bool false) ∧ w'.cell? ⟨x.1, 1, none⟩ = some (.slice As sK.length csK)) (ds := [6, 9]) #[ff,ff,ff,ff,ff,ff,ff,ff,ff,ff] (by kernel_rfl) rfl rfl ⟨p0, p1, p2, p3⟩ (fun hHeld => ?_)
                    have HCD := Aside0.mk (HCB.out.below (Below.refl _ _).drew)
                    have HBtD := Aside0.mk (show BytesAt B WB.drew _ _ from HBtB.out)
                    have HSbD := Aside0.mk (show BytesAt B WB.drew _ _ from HSbB.out)
                    have HO3D := Aside0.mk (show WB.drew.heap[x.1]? = _ from HO3B.out)
                    have HLowD := Aside0.mk (show B.n ≤ WB.drew.heap.size ∧ B.q < WB.drew.heap.size by have := HCD.out.lies.lop; have := blk_lt HCD.out.lies.obj; exact ⟨by omega, HCD.out.lies.lt⟩)
                    generalize WB.drew = WD at HCD HBtD HSbD HO3D HLowD hHeld ⊢
                    refine pure_ (i := 0) (N := some 115) (v := ?_) (a' := ?_) #[tt,ff,ff,ff,ff,ff,ff,ff,ff,ff] rfl rfl (by kernel_rfl) (fun _ _ _ h => h) (Or.inl ⟨by rfl, ?_⟩) ?_ ?_
                    rotate_left
                    · intro w'
                      go_simp
                      with_reducible rfl
                    rotate_left
                    · simp only [Act.put, pkA, pkB, pkC, i64_w, i32_w]
                      rfl
                    refine pure_ (i := 2) (N := some 117) (v := ?_) (a' := ?_) #[tt,ff,tt,ff,ff,ff,ff,ff,ff,ff] rfl rfl (by kernel_rfl) (fun _ _ _ h => h) (Or.inl ⟨by rfl, ?_⟩) ?_ ?_
                    rotate_left
                    · intro w'
                      go_simp
                      with_reducible rfl
                    rotate_left
                    · simp only [Act.put, pkA, pkB, pkC, i64_w, i32_w]
                      rfl
                    refine pure_ (i := 3) (N := some 118) (v := ?_) (a' := ?_) #[tt,ff,tt,tt,ff,ff,ff,ff,ff,ff] rfl rfl (by kernel_rfl) (fun _ _ _ h => h) (Or.inl ⟨by rfl, ?_⟩) ?_ ?_
                    rotate_left
                    · intro w'
                      go_simp
                      with_reducible rfl
                    rotate_left
                    · simp only [Act.put, pkA, pkB, pkC, i64_w, i32_w]
                      rfl
                    refine pure_ (i := 4) (N := some 119) (v := ?_) (a' := ?_) #[tt,ff,tt,tt,tt,ff,ff,ff,ff,ff] rfl rfl (by kernel_rfl) (fun _ _ _ h => h) (Or.inl ⟨by rfl, ?_⟩) ?_ ?_
                    rotate_left
                    · intro w'
                      go_simp
                      with_reducible rfl
                    rotate_left
                    · simp only [Act.put, pkA, pkB, pkC, i64_w, i32_w]
                      rfl
                    refine take_ (i := 1) (N := some 116) (v := ?_) (a' := ?_) #[tt,tt,tt,tt,tt,ff,ff,ff,ff,ff] rfl rfl (by kernel_rfl) (fun _ _ _ h => h) (Or.inl ⟨by rfl, ?_⟩) hHeld ?_ ?_
                    rotate_left
                    · rintro w' ⟨s0, s1, s2, s3⟩
                      go_simp
                      with_reducible rfl
                    rotate_left
                    · simp only [Act.put, pkA, pkB, pkC, i64_w, i32_w]
                      rfl
                    refine take_ (i := 5) (N := some 120) (v := ?_) (a' := ?_) #[tt,tt,tt,tt,tt,tt,ff,ff,ff,ff] rfl rfl (by kernel_rfl) (fun _ _ _ h => h) (Or.inl ⟨by rfl, ?_⟩) hHeld ?_ ?_
                    rotate_left
                    · rintro w' ⟨s0, s1, s2, s3⟩
                      go_simp
                      with_reducible rfl
                    rotate_left
                    · simp only [Act.put, pkA, pkB, pkC, i64_w, i32_w]
                      rfl
                    refine last_ (i := 6) (N := some 121) #[tt,tt,tt,tt,tt,tt,tt,ff,ff,ff] rfl rfl (by kernel_rfl) (by decide) (fun K hK => ?_)
                    refine goes_ Tryz.func66 (by kernel_rfl) rfl #[.agg #[.int .i64 (ch.pos : Int), .slice A3 k2 cb3, .bool false], .slice As sK.length csK] (by rfl) rfl rfl (by simp only [List.map_toArray, List.map_cons, List.map_nil]; rfl) ?_
                    with_reducible refine (HDo.out WD HBtD.out HSbD.out).mono ?_
                    rintro e WE ⟨v, rfl, hr, hb⟩
                    refine ⟨_, rfl, ?_⟩
                    obtain ⟨Av, cv, rfl⟩ := Kd.R_slice hr
                    have HBE := Aside0.mk hb
                    have HVE := Aside0.mk (show BytesAt B WE (.slice Av sZ.length cv) sZ from BytesAt.lower hr HLowD.out.1 HLowD.out.2)
                    have HOE := Aside0.mk ((hb.block _ (blk_lt HO3D.out)).trans HO3D.out)
                    have e1 : WE.cell? ⟨x.1, 1, none⟩ = some (.slice As sK.length csK) := (blk_cell HOE.out 1).trans rfl
                    have f1 : WE.frozen? ⟨x.1, 1, none⟩ = false := blk_frozen HOE.out 1
                    clear hr hb
                    refine hK.out _ _ ?_
                    clear hK K
                    refine norm_ (a' := ?_) ?_ ?_
                    rotate_left
                    · show Act.put _ (some 121) _ = _
                      simp only [Act.put, pkA, pkB, pkC, i64_w, i32_w]
                      rfl
                    refine pure_ (i := 7) (N := some 122) (v := ?_) (a' := ?_) #[tt,tt,tt,tt,tt,tt,tt,tt,ff,ff] rfl rfl (by kernel_rfl) (fun _ _ _ h => h) (Or.inl ⟨by rfl, ?_⟩) ?_ ?_
                    rotate_left
                    · intro w'
                      go_simp
                      with_reducible rfl
                    rotate_left
                    · simp only [Act.put, pkA, pkB, pkC, i64_w, i32_w]
                      rfl
                    refine pure_ (i := 8) (N := some 123) (v := ?_) (a' := ?_) #[tt,tt,tt,tt,tt,tt,tt,tt,tt,ff] rfl rfl (by kernel_rfl) (fun _ _ _ h => h) (Or.inl ⟨by rfl, ?_⟩) ?_ ?_
                    rotate_left
                    · intro w'
                      go_simp
                      with_reducible rfl
                    rotate_left
                    · simp only [Act.put, pkA, pkB, pkC, i64_w, i32_w]
                      rfl
                    refine last_ (i := 9) (N := none) #[tt,tt,tt,tt,tt,tt,tt,tt,tt,tt] rfl rfl (by kernel_rfl) (by decide) (fun K hK => ?_)
                    refine skip_ (w1 := ?_) (by rfl) rfl ?_ ?_
                    rotate_left
                    · go_simp
                      rfl
                    refine hK.out _ _ ?_
                    clear hK K
                    refine done_ (by kernel_rfl) ?_
                    have HF4 := Aside0.mk (mid_at (r := D.files.drop (i + 1)) (f := ({ f with sure := sZ } : Fil)) HDn.out)
                    have HCZ := Aside0.mk (show CS B w p kb { D with sure := N1, files := dn ++ { f with sure := sZ } :: D.files.drop (i + 1) } L' m1 m2 (.slice (some ⟨gF, 0, none⟩) D.files.length cpf) (.slice Ao D.opn.length co) kp.tail.tail (WE.setCell ⟨x.1, 1, none⟩ (.slice Av sZ.length cv)) from by
                      have h1 := HCD.out.lies.setSure i x _ HX.out HF3.out HBE.out HVE.out
                      simp only [mid_set HDn.out] at h1
                      have nk : some kb ≠ some x.1 := fun e => by obtain ⟨A9, c9, hk9, _⟩ := HCD.out.keep.ex; rw [Option.some.inj e, HO3D.out] at hk9; cases hk9
                      exact ⟨h1, (HCD.out.keep.but (But.of_below (row := some x.1) HBE.out) nk).but (But.setCell WE ⟨x.1, 1, none⟩ _) nk, (HCD.out.turn.below HBE.out).setCell HOE.out rfl HLo3.out 1 _⟩)
                    have HSZ := Aside0.mk ((blk_cell (blk_put HOE.out 1 (.slice Av sZ.length cv) rfl) 1).trans rfl : _ = some (Value.slice Av sZ.length cv))
                    clear HOE e1 f1 HCD HBtD HSbD HO3D HLowD HBE HVE
                    generalize WE.setCell ⟨x.1, 1, none⟩ (.slice Av sZ.length cv) = WZ at HCZ HSZ ⊢
                    have HDone := Aside0.mk (HCZ.out.lies.setDone i x _ HX.out HF4.out HSZ.out)
                    have HKp := Aside0.mk (show CS B w p kb { D with sure := N1, files := dn ++ ⟨sZ, sZ, []⟩ :: D.files.drop (i + 1) } (L'.set i (x.1, .slice none 0 0)) m1 m2 (.slice (some ⟨gF, 0, none⟩) D.files.length cpf) (.slice Ao D.opn.length co) kp.tail.tail _ from by
                      have h1 := HDone.out.1
                      simp only [mid_set HDn.out] at h1
                      obtain ⟨⟨nv9, sv9, ho9, _, _⟩, _, _⟩ := HCZ.out.lies.files.each i x _ HX.out HF4.out
                      have nk : some kb ≠ some x.1 := fun e => by obtain ⟨A9, c9, hk9, _⟩ := HCZ.out.keep.ex; rw [Option.some.inj e, ho9] at hk9; cases hk9
                      exact ⟨h1, (HCZ.out.keep.but (But.setCell _ ⟨x.1, 0, none⟩ _) nk).but (But.setCell _ ⟨x.1, 2, none⟩ _) nk, HCZ.out.turn.trans HDone.out.2⟩)
                    have HCF := Aside0.mk (show crashF f kp = (sZ, kp.tail.tail) from by unfold crashF; simp only; rw [← HK1.out, HCh.out]; simp only; rw [if_neg (by rw [HCut.out]; simp), ← HSK.out, ← HK2.out, ← HSZe.out])
                    have z0 := HCZ.out.lies.files.each i x _ HX.out HF4.out
                    obtain ⟨⟨nv9, sv9, ho9, _, _⟩, _, _⟩ := z0
                    have y0 := (blk_cell ho9 0).trans (rfl : _ = some nv9)
                    have y00 := blk_frozen ho9 0
                    have HO9 := Aside0.mk (blk_put ho9 0 (.slice Av sZ.length cv) rfl)
                    have y2 := (blk_cell HO9.out 2).trans (rfl : _ = some x.2)
                    have y20 := blk_frozen HO9.out 2
                    have y1 := HSZ.out
                    clear ho9
                    go_wp2
                    go_roundw
                    case rel => exact ⟨i + 1, dn ++ [⟨sZ, sZ, []⟩], kp.tail.tail, L'.set i (x.1, .slice none 0 0), by omega, by go_num, ⟨by simp [HDn.out]⟩, ⟨by rw [HCr.out, crashFs_cons HEm.out, HCF.out]; simp⟩, ⟨by rw [map_set HX.out]; exact HLm.out⟩, ⟨by simpa using HKp.out⟩⟩
                    case measure => simp [Go.RowKit.intOf]; omega
                · have t4 : decide (j2 < f.opn.length) = false := decide_eq_false hfull
                  have HNo := Aside0.mk (show f.opn[j2]? = none from List.getElem?_eq_none (by omega))
                  have HDone := Aside0.mk (HCi.out.lies.setDone i x _ HX.out HF3.out HS1.out)
                  have HKp := Aside0.mk (show CS B w p kb { D with sure := N1, files := dn ++ ⟨sK, sK, []⟩ :: D.files.drop (i + 1) } (L'.set i (x.1, .slice none 0 0)) m1 m2 (.slice (some ⟨gF, 0, none⟩) D.files.length cpf) (.slice Ao D.opn.length co) kp.tail _ from by
                    have h1 := HDone.out.1
                    simp only [mid_set HDn.out] at h1
                    obtain ⟨⟨nv9, sv9, ho9, _, _⟩, _, _⟩ := HCi.out.lies.files.each i x _ HX.out HF3.out
                    have nk : some kb ≠ some x.1 := fun e => by obtain ⟨A9, c9, hk9, _⟩ := HCi.out.keep.ex; rw [Option.some.inj e, ho9] at hk9; cases hk9
                    exact ⟨h1, (HCi.out.keep.but (But.setCell _ ⟨x.1, 0, none⟩ _) nk).but (But.setCell _ ⟨x.1, 2, none⟩ _) nk, HCi.out.turn.trans HDone.out.2⟩)
                  have HCF := Aside0.mk (show crashF f kp = (sK, kp.tail) from by unfold crashF; simp only; rw [← HK1.out, HNo.out]; simp only; rw [← HSK.out])
                  have z0 := HCi.out.lies.files.each i x _ HX.out HF3.out
                  obtain ⟨⟨nv9, sv9, ho9, _, _⟩, _, _⟩ := z0
                  have y0 := (blk_cell ho9 0).trans (rfl : _ = some nv9)
                  have y00 := blk_frozen ho9 0
                  have HO9 := Aside0.mk (blk_put ho9 0 (.slice As sK.length csK) rfl)
                  have y2 := (blk_cell HO9.out 2).trans (rfl : _ = some x.2)
                  have y20 := blk_frozen HO9.out 2
                  have y1 := HS1.out
                  clear ho9
                  go_wp2
                  go_roundw
                  case rel => exact ⟨i + 1, dn ++ [⟨sK, sK, []⟩], kp.tail, L'.set i (x.1, .slice none 0 0), by omega, by go_num, ⟨by simp [HDn.out]⟩, ⟨by rw [HCr.out, crashFs_cons HEm.out, HCF.out]; simp⟩, ⟨by rw [map_set HX.out]; exact HLm.out⟩, ⟨by simpa using HKp.out⟩⟩
                  case measure => simp [Go.RowKit.intOf]; omega
        · have t1 : decide (i < nF) = false := decide_eq_false hlt2
          have HJ2 := Aside0.mk (show D.files.drop i = [] from List.drop_eq_nil_of_le (by rw [← HNF.out]; omega))
          have HCC := Aside0.mk (show CS B w p kb { D with sure := N1, files := dn } L' m1 m2 (.slice Af D.files.length cpf) (.slice Ao D.opn.length co) kp wr from by have := HC.out; rw [HJ2.out] at this; simpa using this)
          have HDN := Aside0.mk (show crashFs D.files l.tail = dn from by rw [HCr.out, HJ2.out]; simp [crashFs])
          have HDl := Aside0.mk (show dn.length ≤ 1000000000 by have := HFl.out; rw [← HNF.out] at this; rw [HDn.out]; omega)
          have HNl := Aside0.mk (show N1.length ≤ 1000000000 by rw [HN1.out]; have := len_goAll (D.opn.take k0) D.sure; have h2 := HSl.out; have h3 := HK0b.out; rw [List.length_take] at this; omega)
          have c2 := (blk_cell HCC.out.lies.obj 2).trans (rfl : _ = some (Value.map (some m2)))
          have HCl := Aside0.mk (clone_calls m2 N1 wr HCC.out.lies.sure)
          clear HC HCr c0
          go_wp2_with (first
            | (go_at_call 67; refine HCl.out.mono ?_; rintro e W3 ⟨rfl, hn, hb⟩; have HN3 := Aside0.mk hn; have HB3 := Aside0.mk hb; have HC3 := Aside0.mk (HCC.out.below hb);
               have z1 : W3.cell? ⟨p, 1, none⟩ = some (.map (some m1)) := (blk_cell HC3.out.lies.obj 1).trans rfl;
               have y1 : W3.frozen? ⟨p, 1, none⟩ = false := blk_frozen HC3.out.lies.obj 1;
               have HO4 := Aside0.mk (blk_put HC3.out.lies.obj 1 (.map (some wr.heap.size)) rfl);
               have z3 : (W3.setCell ⟨p, 1, none⟩ (.map (some wr.heap.size))).cell? ⟨p, 3, none⟩ = some (.slice Ao D.opn.length co) := (blk_cell HO4.out 3).trans rfl;
               have y3 : (W3.setCell ⟨p, 1, none⟩ (.map (some wr.heap.size))).frozen? ⟨p, 3, none⟩ = false := blk_frozen HO4.out 3;
               have HO5 := Aside0.mk (blk_put HO4.out 3 (.slice none 0 0) rfl);
               have z6 : ((W3.setCell ⟨p, 1, none⟩ (.map (some wr.heap.size))).setCell ⟨p, 3, none⟩ (.slice none 0 0)).cell? ⟨p, 6, none⟩ = some (.bool D.off) := (blk_cell HO5.out 6).trans rfl;
               have y6 : ((W3.setCell ⟨p, 1, none⟩ (.map (some wr.heap.size))).setCell ⟨p, 3, none⟩ (.slice none 0 0)).frozen? ⟨p, 6, none⟩ = false := blk_frozen HO5.out 6;
               have HO6 := Aside0.mk (blk_put HO5.out 6 (.bool false) rfl);
               have z5 : (((W3.setCell ⟨p, 1, none⟩ (.map (some wr.heap.size))).setCell ⟨p, 3, none⟩ (.slice none 0 0)).setCell ⟨p, 6, none⟩ (.bool false)).cell? ⟨p, 5, none⟩ = some (.int .i64 D.armed) := (blk_cell HO6.out 5).trans rfl;
               have y5 : (((W3.setCell ⟨p, 1, none⟩ (.map (some wr.heap.size))).setCell ⟨p, 3, none⟩ (.slice none 0 0)).setCell ⟨p, 6, none⟩ (.bool false)).frozen? ⟨p, 5, none⟩ = false := blk_frozen HO6.out 5;
               have HO7 := Aside0.mk (blk_put HO6.out 5 (.int .i64 (-1)) rfl);
               have HTV := Aside0.mk ((((HC3.out.turn.setCell HC3.out.lies.obj rfl HC3.out.lies.lop 1 (.map (some wr.heap.size))).setCell HO4.out rfl HC3.out.lies.lop 3 (.slice none 0 0)).setCell HO5.out rfl HC3.out.lies.lop 6 (.bool false)).setCell HO6.out rfl HC3.out.lies.lop 5 (.int .i64 (-1)));
               have HKV := Aside0.mk ((((But.setCell W3 ⟨p, 1, none⟩ (.map (some wr.heap.size))).trans (But.setCell _ ⟨p, 3, none⟩ (.slice none 0 0))).trans (But.setCell _ ⟨p, 6, none⟩ (.bool false))).trans (But.setCell _ ⟨p, 5, none⟩ (.int .i64 (-1))));
               have HLV := Aside0.mk (HC3.out.lies.remake HKV.out HO7.out (HN3.out.same (HKV.out.2 _ HN3.out.lt (HC3.out.lies.nep HN3.out))) (HC3.out.lies.sure.same (HKV.out.2 _ HC3.out.lies.sure.lt (HC3.out.lies.nep HC3.out.lies.sure))) (by have h1 := HCC.out.lies.lop; have h2 := blk_lt HCC.out.lies.obj; omega) HC3.out.lies.lo2 (by have := HCC.out.lies.sure.lt; omega) (Kd.R_nil _ _ _ _ _));
               clear hn hb)
            | (go_at_call 68; refine (sweep_calls B p _ _ _ _ _ _ _ HLV.out HDl.out HNl.out).mono ?_; rintro e W9 ⟨rfl, hl9, ht9⟩; have HL9 := Aside0.mk hl9; have HT9 := Aside0.mk ht9; clear hl9 ht9))
          all_goals try go_end0
          refine ⟨rfl, ?_, HTV.out.trans HT9.out⟩
          have e9 : crashD D l = ⟨sweepFs dn N1, N1, N1, [], D.quota, -1, false, D.steps⟩ := by
            unfold crashD
            simp only
            rw [HDN.out, ← HK0.out, ← HN1.out]
          rw [e9]
          exact ⟨_, _, _, _, _, HL9.out⟩
set_option maxRecDepth 100000 in
/-- Disk.Crash, on a disk. -/
theorem crash_calls (B : Bx) (p : Nat) (D : Dsk) (A : Option Addr) (c : Nat) (l : List Int) (w : World) (h : DiskAt B w p D) (hk : D.Ok) (hst : D.steps ≤ 1000000000) (hlc : l.length ≤ c) (hR : ∀ V, Turn B w V → ReadsInt V .i64 A l.length l) :
    Calls Tryz.prog 14 #[.pointer (some ⟨p, 0, none⟩), .slice A l.length c] w fun e w' => e = .returned (.tuple #[]) ∧ DiskAt B w' p (crashD D l) ∧ Turn B w w' := by
  obtain ⟨L, m1, m2, fv, ov, hl⟩ := h
  exact crash_walk B p D L m1 m2 fv ov A c l w hl hk hst hlc hR
end Go.Proofs.YtpcfnkmljchiiaaGreatDoor.DCrc
