/- Steps towards RDiskAll: DRdo. -/
import Derived.Deep.CutRange
import Derived.Test.YtpcfnkmljchiiaaGreatDoorZ27
import Derived.Test.YtpcfnkmljchiiaaGreatDoorZ04
set_option linter.unusedVariables false
set_option linter.unusedSimpArgs false
/- The document's names behind a step, walked. -/
namespace Go.Proofs.YtpcfnkmljchiiaaGreatDoor.DRdo
open Go Go.RowKit Go.Maps Go.Proofs.YtpcfnkmljchiiaaGreatDoorW.PrintWords Go.Proofs.YtpcfnkmljchiiaaGreatDoorW.PrintLast DPl DAt DRn DRd DRl DRt DDo DRdp
theorem infoS : (Tryz.prog.info? 9).map (fun i => (i.zero, i.size, i.bytes)) = some (some (.string ⟨#[]⟩), 1, 16) := by kernel_rfl
theorem infoN : (Tryz.prog.info? 3).map (fun i => (i.zero, i.size, i.bytes)) = some (some (.int .i64 0), 1, 8) := by kernel_rfl
theorem str_cell {w : World} {A : Option Addr} {l : List ByteArray} (h : Kd.C Kd.string w A l.length l) (i : Nat) (x : ByteArray) (hi : l[i]? = some x) : ∃ ad, A = some ad ∧ w.cell? (ad.add i) = some (.string x) := by
  obtain ⟨hl, hx⟩ := List.getElem?_eq_some_iff.1 hi
  obtain ⟨ad, c, e, hc, hk, hcell⟩ := Kd.C_get h x (i : Int) (by omega) (by omega)
  have eg : l.getD i x = x := by rw [List.getD_eq_getElem?_getD, hi]; rfl
  simp only [Int.toNat_natCast, eg] at hk
  have hk : c = [.string x] := hk
  refine ⟨ad, e, ?_⟩
  have := hcell 0 _ (by rw [hk]; rfl)
  simpa [Kd.string, Kd.scalar] using this
theorem int_cell {w : World} {A : Option Addr} {l : List Int} (h : Kd.C (Kd.int .i64) w A l.length l) (i : Nat) (x : Int) (hi : l[i]? = some x) : ∃ ad, A = some ad ∧ w.cell? (ad.add i) = some (.int .i64 x) := by
  obtain ⟨hl, hx⟩ := List.getElem?_eq_some_iff.1 hi
  obtain ⟨ad, c, e, hc, hk, hcell⟩ := Kd.C_get h x (i : Int) (by omega) (by omega)
  have eg : l.getD i x = x := by rw [List.getD_eq_getElem?_getD, hi]; rfl
  simp only [Int.toNat_natCast, eg] at hk
  have hk : c = [.int .i64 x] := hk
  refine ⟨ad, e, ?_⟩
  have := hcell 0 _ (by rw [hk]; rfl)
  simpa [Kd.int, Kd.scalar] using this
theorem names_at {N : Nms} {i : Nat} {q : List UInt8 × Int} (h : N[i]? = some q) : (namesL N)[i]? = some (nmS q.1) ∧ (numsL N)[i]? = some q.2 := by
  unfold namesL numsL
  rw [List.getElem?_map, List.getElem?_map, h]
  exact ⟨rfl, rfl⟩
theorem doW_start (w : World) (nv0 iv0 : Value) (e : Ent) (o1 o2 o3 o4 : Obj) (h1 : o1 = .cells #[nv0, iv0] tN (0, 0)) (h2 : o2 = .cells #[.string e.name, .string e.gone, .int .i64 e.file] tE (0, 0)) (h3 : o3 = .cells #[.slice none 0 0, .slice none 0 0] tN (0, 0)) (h4 : o4 = .cells #[.slice none 0 0, .slice none 0 0] tN (0, 0)) :
    DoW w nv0 iv0 e (.slice none 0 0) (.slice none 0 0) (.slice none 0 0) (.slice none 0 0) [] [] ((((w.alloc o1).alloc o2).alloc o3).alloc o4) := by
  subst h1 h2 h3 h4
  have s1 : ∀ (U : World) (o : Obj), (U.alloc o).heap.size = U.heap.size + 1 := fun U o => by simp
  have al : ∀ (U : World) (o : Obj), Below U.heap.size U (U.alloc o) := fun U o => (Below.refl _ U).alloc (Nat.le_refl _) o
  generalize hu1 : w.alloc (.cells #[nv0, iv0] tN (0, 0)) = U1
  have e1 := heap_alloc_new w (.cells #[nv0, iv0] tN (0, 0))
  have z1 := s1 w (.cells #[nv0, iv0] tN (0, 0))
  have a1 := al w (.cells #[nv0, iv0] tN (0, 0))
  rw [hu1] at e1 z1 a1
  generalize hu2 : U1.alloc (.cells #[.string e.name, .string e.gone, .int .i64 e.file] tE (0, 0)) = U2
  have e2 := heap_alloc_new U1 (.cells #[.string e.name, .string e.gone, .int .i64 e.file] tE (0, 0))
  have z2 := s1 U1 (.cells #[.string e.name, .string e.gone, .int .i64 e.file] tE (0, 0))
  have a2 := al U1 (.cells #[.string e.name, .string e.gone, .int .i64 e.file] tE (0, 0))
  rw [hu2] at e2 z2 a2
  generalize hu3 : U2.alloc (.cells #[.slice none 0 0, .slice none 0 0] tN (0, 0)) = U3
  have e3 := heap_alloc_new U2 (.cells #[.slice none 0 0, .slice none 0 0] tN (0, 0))
  have z3 := s1 U2 (.cells #[.slice none 0 0, .slice none 0 0] tN (0, 0))
  have a3 := al U2 (.cells #[.slice none 0 0, .slice none 0 0] tN (0, 0))
  rw [hu3] at e3 z3 a3
  have e4 := heap_alloc_new U3 (.cells #[.slice none 0 0, .slice none 0 0] tN (0, 0))
  have a4 := al U3 (.cells #[.slice none 0 0, .slice none 0 0] tN (0, 0))
  have q1 : U1.heap.size = w.heap.size + 1 := z1
  have q2 : U2.heap.size = w.heap.size + 1 + 1 := by omega
  have q3 : U3.heap.size = w.heap.size + 1 + 1 + 1 := by omega
  rw [q1] at e2
  rw [q2] at e3
  rw [q3] at e4
  refine ⟨a1.trans ((a2.trans ((a3.trans (a4.mono a3.size)).mono a2.size)).mono a1.size), ?_, ?_, ?_, e4, Kd.R_nil _ _ _ _ _, Kd.R_nil _ _ _ _ _⟩
  · exact (a4.block _ (by omega)).trans ((a3.block _ (by omega)).trans ((a2.block _ (by omega)).trans e1))
  · exact (a4.block _ (by omega)).trans ((a3.block _ (by omega)).trans e2)
  · exact (a4.block _ (by omega)).trans e3
/-- What is left to do behind the name's own place. -/
def NX (e : Ent) (put : Bool) (M N : Nms) (i : Nat) (q : List UInt8 × Int) (R : Nms) : Prop :=
  (q.1 ≠ e.gone.data.toList ∧ (e.file < 0 ∨ q.1 ≠ e.name.data.toList) → (M ++ [q]) ++ docDo e put (N.drop (i + 1)) = R) ∧ (¬(q.1 ≠ e.gone.data.toList ∧ (e.file < 0 ∨ q.1 ≠ e.name.data.toList)) → M ++ docDo e put (N.drop (i + 1)) = R)
theorem doc_same (e : Ent) (put : Bool) (M N : Nms) (i : Nat) (q : List UInt8 × Int) (R : Nms) (h : (M ++ ((if put = false ∧ before q.1 e.name.data.toList = false then [(e.name.data.toList, e.file)] else []) ++ (if q.1 ≠ e.gone.data.toList ∧ (e.file < 0 ∨ q.1 ≠ e.name.data.toList) then [q] else []))) ++ docDo e (put || !before q.1 e.name.data.toList) (N.drop (i + 1)) = R) (hp : (!put && !before q.1 e.name.data.toList) = false) : NX e put M N i q R := by
  cases put with
  | true => exact doc_next e true M N i q R h (by simp)
  | false =>
    have hb : before q.1 e.name.data.toList = true := by simpa using hp
    have h2 := doc_next e false M N i q R h (by simp [hb])
    rw [hb] at h2
    exact h2
theorem doc_put (e : Ent) (put : Bool) (M N : Nms) (i : Nat) (q : List UInt8 × Int) (R : Nms) (h : (M ++ ((if put = false ∧ before q.1 e.name.data.toList = false then [(e.name.data.toList, e.file)] else []) ++ (if q.1 ≠ e.gone.data.toList ∧ (e.file < 0 ∨ q.1 ≠ e.name.data.toList) then [q] else []))) ++ docDo e (put || !before q.1 e.name.data.toList) (N.drop (i + 1)) = R) (hp : (!put && !before q.1 e.name.data.toList) = true) : put = false ∧ NX e true (M ++ [(e.name.data.toList, e.file)]) N i q R ∧ (M ++ [(e.name.data.toList, e.file)]).length ≤ R.length := by
  have h2 : put = false ∧ before q.1 e.name.data.toList = false := by simpa using hp
  obtain ⟨rfl, hb⟩ := h2
  exact ⟨rfl, doc_put1 e M N i q R h hb, doc_put1_len e M N i q R h hb⟩
set_option maxRecDepth 100000 in
set_option maxHeartbeats 16000000 in
theorem do_walk (e : Ent) (N : Nms) (A1 : Option Addr) (c1 : Nat) (A2 : Option Addr) (c2 : Nat) (w : World) (h1 : Kd.C Kd.string w A1 (namesL N).length (namesL N)) (h2 : Kd.C (Kd.int .i64) w A2 (numsL N).length (numsL N)) (hc1 : N.length ≤ c1) (hc2 : N.length ≤ c2) (hN : N.length ≤ 1000000000000) :
    Calls Tryz.prog 105 #[.agg #[.slice A1 N.length c1, .slice A2 N.length c2], .agg #[.string e.name, .string e.gone, .int .i64 e.file]] w fun en w' => ∃ nv iv, en = .returned (.agg #[nv, iv]) ∧ Kd.R Kd.string 9 w' w.heap.size (fun _ => True) nv (namesL (docDo e (decide (e.file < 0)) N)) ∧ Kd.R (Kd.int .i64) 3 w' w.heap.size (fun _ => True) iv (numsL (docDo e (decide (e.file < 0)) N)) ∧ Below w.heap.size w w' := by
  have H1 := Aside0.mk h1
  have H2 := Aside0.mk h2
  have HC1 := Aside0.mk hc1
  have HC2 := Aside0.mk hc2
  have HNl := Aside0.mk (names_len N)
  have HIl := Aside0.mk (nums_len N)
  obtain ⟨n, hn⟩ : ∃ n, n = N.length := ⟨_, rfl⟩
  have HNn := Aside0.mk hn
  obtain ⟨R, hR⟩ : ∃ R, docDo e (decide (e.file < 0)) N = R := ⟨_, rfl⟩
  have HRr := Aside0.mk hR
  have HRl := Aside0.mk (show R.length ≤ 2 * n + 1 by rw [← hR, hn]; exact doc_len e _ N)
  rw [hR]
  rw [← hn] at hN ⊢
  clear h1 h2 hc1 hc2 hn hR
  go_enter Tryz.func105, Tryz.ntmps105
  go_upto_block 0 with (fail)
  have HW0 := Aside0.mk (doW_start w (.slice A1 n c1) (.slice A2 n c2) e _ _ _ _ rfl rfl rfl rfl)
  generalize (((w.alloc (.cells #[.slice A1 n c1, .slice A2 n c2] tN)).alloc (.cells #[.string e.name, .string e.gone, .int .i64 e.file] tE)).alloc (.cells #[.slice none 0 0, .slice none 0 0] tN)).alloc (.cells #[.slice none 0 0, .slice none 0 0] tN) = W0 at HW0 ⊢
  go_wp2
  go_loopw [6, 15] (fun pv i wr => ∃ (k : Nat) (put : Bool) (M : Nms) (nm im : Value), k ≤ n ∧ i = .int .i64 k ∧ pv = .bool put ∧ Aside0 (M ++ docDo e put (N.drop k) = R) ∧ Aside0 (DoW w (.slice A1 n c1) (.slice A2 n c2) e nm im nm im (namesL M) (numsL M) wr)) (fun _ i _ => n - (Go.RowKit.intOf i).toNat)
  case atStart => exact ⟨0, decide (e.file < 0), [], .slice none 0 0, .slice none 0 0, by omega, rfl, rfl, ⟨by simpa using HRr.out⟩, HW0⟩
  case round =>
    obtain ⟨k, put, M, nm, im, hk, rfl, rfl, HM, HW⟩ := hrel
    have HMl := Aside0.mk (show M.length ≤ 2 * n + 1 by have h1 := HRl.out; rw [← HM.out, List.length_append] at h1; omega)
    have HWd := Aside0.mk HW.out.drew
    by_cases hlt : k < n
    · have t1 : decide (k < n) = true := decide_eq_true hlt
      obtain ⟨q, hq⟩ : ∃ q, N[k]? = some q := ⟨_, List.getElem?_eq_getElem (by rw [← HNn.out]; exact hlt)⟩
      have HQ := Aside0.mk hq
      have HDS := Aside0.mk (doc_step e put M N k q hq R HM.out)
      obtain ⟨ad1, ea1, hca1⟩ := str_cell H1.out k _ (names_at hq).1
      obtain ⟨ad2, ea2, hca2⟩ := int_cell H2.out k _ (names_at hq).2
      subst ea1 ea2
      have HQ1 := Aside0.mk (fun (U : World) (hb : Below w.heap.size w U) => (hb.cell (World.block_lt_of_cell? w _ hca1)).trans hca1)
      have HQ2 := Aside0.mk (fun (U : World) (hb : Below w.heap.size w U) => (hb.cell (World.block_lt_of_cell? w _ hca2)).trans hca2)
      have k0 : (0 : Int) ≤ (k : Int) := by omega
      have k1 : (k : Int) < (n : Int) := by omega
      have b1 := HW.out.cn0
      have b2 := HW.out.ce0
      have b3 := HQ1.out _ HW.out.bel
      have b4 := HW.out.ce1
      have b5 := HW.out.ce2
      clear hq hca1 hca2 b1 b2 b3 b4 b5
      obtain ⟨bp, hbp⟩ : ∃ bp : Bool, bp = (!put && !before q.1 e.name.data.toList) := ⟨_, rfl⟩
      have HBP := Aside0.mk hbp
      clear hbp HM
      go_upto_region 6 with (fail)
      go_cut [29] from 16 to 87 (fun s wx => s = .bool bp ∧ Aside0 (DoW w (.slice (some ad1) n c1) (.slice (some ad2) n c2) e nm im nm im (namesL M) (numsL M) wx))
      case first =>
        cases put with
        | true =>
          refine start_ (n := 12) (S := fun w' => w'.cell? ⟨w.heap.size, 0, none⟩ = some (.slice (some ad1) n c1) ∧ w'.cell? ⟨w.heap.size + 1, 0, none⟩ = some (.string e.name) ∧ w'.cell? (ad1.add k) = some (.string (nmS q.1)) ∧ w'.cell? ⟨w.heap.size + 1, 1, none⟩ = some (.string e.gone) ∧ w'.cell? ⟨w.heap.size + 1, 2, none⟩ = some (.int .i64 e.file)) (ds := []) #[ff,ff,ff,ff,ff,ff,ff,ff,ff,ff,ff,ff] (by kernel_rfl) rfl rfl ⟨HWd.out.cn0, HWd.out.ce0, (HQ1.out _ HWd.out.bel), HWd.out.ce1, HWd.out.ce2⟩ (fun hHeld => ?_)
          generalize wr.drew = wa at HWd hHeld ⊢
          refine pure_ (i := 0) (N := some 18) (v := ?_) (a' := ?_) #[tt,ff,ff,ff,ff,ff,ff,ff,ff,ff,ff,ff] rfl rfl (by kernel_rfl) (fun _ _ _ h => h) (Or.inl ⟨by rfl, ?_⟩) ?_ ?_
          rotate_left
          · intro w'
            go_simp
            with_reducible rfl
          rotate_left
          · simp only [Act.put, pkA, pkB, pkC, i64_w, i32_w]
            rfl
          refine pure_ (i := 1) (N := some 19) (v := ?_) (a' := ?_) #[tt,tt,ff,ff,ff,ff,ff,ff,ff,ff,ff,ff] rfl rfl (by kernel_rfl) (fun _ _ _ h => h) (Or.inl ⟨by rfl, ?_⟩) ?_ ?_
          rotate_left
          · intro w'
            go_simp
            with_reducible rfl
          rotate_left
          · simp only [Act.put, pkA, pkB, pkC, i64_w, i32_w]
            rfl
          refine pure_ (i := 2) (N := some 20) (v := ?_) (a' := ?_) #[tt,tt,tt,ff,ff,ff,ff,ff,ff,ff,ff,ff] rfl rfl (by kernel_rfl) (fun _ _ _ h => h) (Or.inl ⟨by rfl, ?_⟩) ?_ ?_
          rotate_left
          · intro w'
            go_simp
            with_reducible rfl
          rotate_left
          · simp only [Act.put, pkA, pkB, pkC, i64_w, i32_w]
            rfl
          refine pure_ (i := 3) (N := some 21) (v := undef) (a' := ?_) #[tt,tt,tt,tt,ff,ff,ff,ff,ff,ff,ff,ff] rfl rfl (by kernel_rfl) (fun _ _ _ h => h) (Or.inr ⟨by rfl, rfl⟩) ?_ ?_
          rotate_left
          · simp only [Act.put, pkA, pkB, pkC, i64_w, i32_w]
            rfl
          refine pure_ (i := 4) (N := some 22) (v := undef) (a' := ?_) #[tt,tt,tt,tt,tt,ff,ff,ff,ff,ff,ff,ff] rfl rfl (by kernel_rfl) (fun _ _ _ h => h) (Or.inr ⟨by rfl, rfl⟩) ?_ ?_
          rotate_left
          · simp only [Act.put, pkA, pkB, pkC, i64_w, i32_w]
            rfl
          refine pure_ (i := 5) (N := some 23) (v := undef) (a' := ?_) #[tt,tt,tt,tt,tt,tt,ff,ff,ff,ff,ff,ff] rfl rfl (by kernel_rfl) (fun _ _ _ h => h) (Or.inr ⟨by rfl, rfl⟩) ?_ ?_
          rotate_left
          · simp only [Act.put, pkA, pkB, pkC, i64_w, i32_w]
            rfl
          refine pure_ (i := 6) (N := some 24) (v := undef) (a' := ?_) #[tt,tt,tt,tt,tt,tt,tt,ff,ff,ff,ff,ff] rfl rfl (by kernel_rfl) (fun _ _ _ h => h) (Or.inr ⟨by rfl, rfl⟩) ?_ ?_
          rotate_left
          · simp only [Act.put, pkA, pkB, pkC, i64_w, i32_w]
            rfl
          refine pure_ (i := 7) (N := some 25) (v := undef) (a' := ?_) #[tt,tt,tt,tt,tt,tt,tt,tt,ff,ff,ff,ff] rfl rfl (by kernel_rfl) (fun _ _ _ h => h) (Or.inr ⟨by rfl, rfl⟩) ?_ ?_
          rotate_left
          · simp only [Act.put, pkA, pkB, pkC, i64_w, i32_w]
            rfl
          refine pure_ (i := 8) (N := some 26) (v := undef) (a' := ?_) #[tt,tt,tt,tt,tt,tt,tt,tt,tt,ff,ff,ff] rfl rfl (by kernel_rfl) (fun _ _ _ h => h) (Or.inr ⟨by rfl, rfl⟩) ?_ ?_
          rotate_left
          · simp only [Act.put, pkA, pkB, pkC, i64_w, i32_w]
            rfl
          refine pure_ (i := 9) (N := some 27) (v := undef) (a' := ?_) #[tt,tt,tt,tt,tt,tt,tt,tt,tt,tt,ff,ff] rfl rfl (by kernel_rfl) (fun _ _ _ h => h) (Or.inr ⟨by rfl, rfl⟩) ?_ ?_
          rotate_left
          · simp only [Act.put, pkA, pkB, pkC, i64_w, i32_w]
            rfl
          refine pure_ (i := 10) (N := some 28) (v := undef) (a' := ?_) #[tt,tt,tt,tt,tt,tt,tt,tt,tt,tt,tt,ff] rfl rfl (by kernel_rfl) (fun _ _ _ h => h) (Or.inr ⟨by rfl, rfl⟩) ?_ ?_
          rotate_left
          · simp only [Act.put, pkA, pkB, pkC, i64_w, i32_w]
            rfl
          refine pure_ (i := 11) (N := some 29) (v := ?_) (a' := ?_) #[tt,tt,tt,tt,tt,tt,tt,tt,tt,tt,tt,tt] rfl rfl (by kernel_rfl) (fun _ _ _ h => h) (Or.inl ⟨by rfl, ?_⟩) ?_ ?_
          rotate_left
          · intro w'
            go_simp
            with_reducible rfl
          rotate_left
          · simp only [Act.put, pkA, pkB, pkC, i64_w, i32_w]
            rfl
          refine done_ (by kernel_rfl) ?_
          clear HW
          have HW := HWd
          clear HWd
          have HWd := Aside0.mk HW.out.drew
          go_wp2
          go_meet
          exact ⟨by rw [HBP.out]; rfl, HW⟩
        | false =>
          cases hb : before q.1 e.name.data.toList with
          | true =>
            have g1 : Op.bytesLess (nmS q.1).toList e.name.toList = true := by have := geq_nm q.1 e.name; rw [hb] at this; simpa using this
            have HB2 := Aside0.mk hb
            clear hb
            refine start_ (n := 12) (S := fun w' => w'.cell? ⟨w.heap.size, 0, none⟩ = some (.slice (some ad1) n c1) ∧ w'.cell? ⟨w.heap.size + 1, 0, none⟩ = some (.string e.name) ∧ w'.cell? (ad1.add k) = some (.string (nmS q.1)) ∧ w'.cell? ⟨w.heap.size + 1, 1, none⟩ = some (.string e.gone) ∧ w'.cell? ⟨w.heap.size + 1, 2, none⟩ = some (.int .i64 e.file)) (ds := []) #[ff,ff,ff,ff,ff,ff,ff,ff,ff,ff,ff,ff] (by kernel_rfl) rfl rfl ⟨HWd.out.cn0, HWd.out.ce0, (HQ1.out _ HWd.out.bel), HWd.out.ce1, HWd.out.ce2⟩ (fun hHeld => ?_)
            generalize wr.drew = wa at HWd hHeld ⊢
            refine pure_ (i := 0) (N := some 18) (v := ?_) (a' := ?_) #[tt,ff,ff,ff,ff,ff,ff,ff,ff,ff,ff,ff] rfl rfl (by kernel_rfl) (fun _ _ _ h => h) (Or.inl ⟨by rfl, ?_⟩) ?_ ?_
            rotate_left
            · intro w'
              go_simp
              with_reducible rfl
            rotate_left
            · simp only [Act.put, pkA, pkB, pkC, i64_w, i32_w]
              rfl
            refine pure_ (i := 1) (N := some 19) (v := ?_) (a' := ?_) #[tt,tt,ff,ff,ff,ff,ff,ff,ff,ff,ff,ff] rfl rfl (by kernel_rfl) (fun _ _ _ h => h) (Or.inl ⟨by rfl, ?_⟩) ?_ ?_
            rotate_left
            · intro w'
              go_simp
              with_reducible rfl
            rotate_left
            · simp only [Act.put, pkA, pkB, pkC, i64_w, i32_w]
              rfl
            refine pure_ (i := 2) (N := some 20) (v := ?_) (a' := ?_) #[tt,tt,tt,ff,ff,ff,ff,ff,ff,ff,ff,ff] rfl rfl (by kernel_rfl) (fun _ _ _ h => h) (Or.inl ⟨by rfl, ?_⟩) ?_ ?_
            rotate_left
            · intro w'
              go_simp
              with_reducible rfl
            rotate_left
            · simp only [Act.put, pkA, pkB, pkC, i64_w, i32_w]
              rfl
            refine pure_ (i := 3) (N := some 21) (v := ?_) (a' := ?_) #[tt,tt,tt,tt,ff,ff,ff,ff,ff,ff,ff,ff] rfl rfl (by kernel_rfl) (fun _ _ _ h => h) (Or.inl ⟨by rfl, ?_⟩) ?_ ?_
            rotate_left
            · intro w'
              go_simp
              with_reducible rfl
            rotate_left
            · simp only [Act.put, pkA, pkB, pkC, i64_w, i32_w]
              rfl
            refine pure_ (i := 5) (N := some 23) (v := ?_) (a' := ?_) #[tt,tt,tt,tt,ff,tt,ff,ff,ff,ff,ff,ff] rfl rfl (by kernel_rfl) (fun _ _ _ h => h) (Or.inl ⟨by rfl, ?_⟩) ?_ ?_
            rotate_left
            · intro w'
              go_simp
              with_reducible rfl
            rotate_left
            · simp only [Act.put, pkA, pkB, pkC, i64_w, i32_w]
              rfl
            refine pure_ (i := 8) (N := some 26) (v := ?_) (a' := ?_) #[tt,tt,tt,tt,ff,tt,ff,ff,tt,ff,ff,ff] rfl rfl (by kernel_rfl) (fun _ _ _ h => h) (Or.inl ⟨by rfl, ?_⟩) ?_ ?_
            rotate_left
            · intro w'
              go_simp
              with_reducible rfl
            rotate_left
            · simp only [Act.put, pkA, pkB, pkC, i64_w, i32_w]
              rfl
            refine take_ (i := 4) (N := some 22) (v := ?_) (a' := ?_) #[tt,tt,tt,tt,tt,tt,ff,ff,tt,ff,ff,ff] rfl rfl (by kernel_rfl) (fun _ _ _ h => h) (Or.inl ⟨by rfl, ?_⟩) hHeld ?_ ?_
            rotate_left
            · rintro w' ⟨s0, s1, s2, s3, s4⟩
              go_simp
              with_reducible rfl
            rotate_left
            · simp only [Act.put, pkA, pkB, pkC, i64_w, i32_w]
              rfl
            refine pure_ (i := 6) (N := some 24) (v := ?_) (a' := ?_) #[tt,tt,tt,tt,tt,tt,tt,ff,tt,ff,ff,ff] rfl rfl (by kernel_rfl) (fun _ _ _ h => h) (Or.inl ⟨by rfl, ?_⟩) ?_ ?_
            rotate_left
            · intro w'
              go_simp
              with_reducible rfl
            rotate_left
            · simp only [Act.put, pkA, pkB, pkC, i64_w, i32_w]
              rfl
            refine take_ (i := 7) (N := some 25) (v := ?_) (a' := ?_) #[tt,tt,tt,tt,tt,tt,tt,tt,tt,ff,ff,ff] rfl rfl (by kernel_rfl) (fun _ _ _ h => h) (Or.inl ⟨by rfl, ?_⟩) hHeld ?_ ?_
            rotate_left
            · rintro w' ⟨s0, s1, s2, s3, s4⟩
              go_simp
              with_reducible rfl
            rotate_left
            · simp only [Act.put, pkA, pkB, pkC, i64_w, i32_w]
              rfl
            refine take_ (i := 9) (N := some 27) (v := ?_) (a' := ?_) #[tt,tt,tt,tt,tt,tt,tt,tt,tt,tt,ff,ff] rfl rfl (by kernel_rfl) (fun _ _ _ h => h) (Or.inl ⟨by rfl, ?_⟩) hHeld ?_ ?_
            rotate_left
            · rintro w' ⟨s0, s1, s2, s3, s4⟩
              go_simp
              with_reducible rfl
            rotate_left
            · simp only [Act.put, pkA, pkB, pkC, i64_w, i32_w]
              rfl
            refine pure_ (i := 10) (N := some 28) (v := ?_) (a' := ?_) #[tt,tt,tt,tt,tt,tt,tt,tt,tt,tt,tt,ff] rfl rfl (by kernel_rfl) (fun _ _ _ h => h) (Or.inl ⟨by rfl, ?_⟩) ?_ ?_
            rotate_left
            · intro w'
              go_simp
              with_reducible rfl
            rotate_left
            · simp only [Act.put, pkA, pkB, pkC, i64_w, i32_w]
              rfl
            refine pure_ (i := 11) (N := some 29) (v := ?_) (a' := ?_) #[tt,tt,tt,tt,tt,tt,tt,tt,tt,tt,tt,tt] rfl rfl (by kernel_rfl) (fun _ _ _ h => h) (Or.inl ⟨by rfl, ?_⟩) ?_ ?_
            rotate_left
            · intro w'
              go_simp
              with_reducible rfl
            rotate_left
            · simp only [Act.put, pkA, pkB, pkC, i64_w, i32_w]
              rfl
            refine done_ (by kernel_rfl) ?_
            clear HW
            have HW := HWd
            clear HWd
            have HWd := Aside0.mk HW.out.drew
            go_wp2
            go_meet
            exact ⟨by rw [HBP.out, HB2.out]; rfl, HW⟩
          | false =>
            have g1 : Op.bytesLess (nmS q.1).toList e.name.toList = false := by have := geq_nm q.1 e.name; rw [hb] at this; simpa using this
            have HB2 := Aside0.mk hb
            clear hb
            refine start_ (n := 12) (S := fun w' => w'.cell? ⟨w.heap.size, 0, none⟩ = some (.slice (some ad1) n c1) ∧ w'.cell? ⟨w.heap.size + 1, 0, none⟩ = some (.string e.name) ∧ w'.cell? (ad1.add k) = some (.string (nmS q.1)) ∧ w'.cell? ⟨w.heap.size + 1, 1, none⟩ = some (.string e.gone) ∧ w'.cell? ⟨w.heap.size + 1, 2, none⟩ = some (.int .i64 e.file)) (ds := []) #[ff,ff,ff,ff,ff,ff,ff,ff,ff,ff,ff,ff] (by kernel_rfl) rfl rfl ⟨HWd.out.cn0, HWd.out.ce0, (HQ1.out _ HWd.out.bel), HWd.out.ce1, HWd.out.ce2⟩ (fun hHeld => ?_)
            generalize wr.drew = wa at HWd hHeld ⊢
            refine pure_ (i := 0) (N := some 18) (v := ?_) (a' := ?_) #[tt,ff,ff,ff,ff,ff,ff,ff,ff,ff,ff,ff] rfl rfl (by kernel_rfl) (fun _ _ _ h => h) (Or.inl ⟨by rfl, ?_⟩) ?_ ?_
            rotate_left
            · intro w'
              go_simp
              with_reducible rfl
            rotate_left
            · simp only [Act.put, pkA, pkB, pkC, i64_w, i32_w]
              rfl
            refine pure_ (i := 1) (N := some 19) (v := ?_) (a' := ?_) #[tt,tt,ff,ff,ff,ff,ff,ff,ff,ff,ff,ff] rfl rfl (by kernel_rfl) (fun _ _ _ h => h) (Or.inl ⟨by rfl, ?_⟩) ?_ ?_
            rotate_left
            · intro w'
              go_simp
              with_reducible rfl
            rotate_left
            · simp only [Act.put, pkA, pkB, pkC, i64_w, i32_w]
              rfl
            refine pure_ (i := 2) (N := some 20) (v := ?_) (a' := ?_) #[tt,tt,tt,ff,ff,ff,ff,ff,ff,ff,ff,ff] rfl rfl (by kernel_rfl) (fun _ _ _ h => h) (Or.inl ⟨by rfl, ?_⟩) ?_ ?_
            rotate_left
            · intro w'
              go_simp
              with_reducible rfl
            rotate_left
            · simp only [Act.put, pkA, pkB, pkC, i64_w, i32_w]
              rfl
            refine pure_ (i := 3) (N := some 21) (v := ?_) (a' := ?_) #[tt,tt,tt,tt,ff,ff,ff,ff,ff,ff,ff,ff] rfl rfl (by kernel_rfl) (fun _ _ _ h => h) (Or.inl ⟨by rfl, ?_⟩) ?_ ?_
            rotate_left
            · intro w'
              go_simp
              with_reducible rfl
            rotate_left
            · simp only [Act.put, pkA, pkB, pkC, i64_w, i32_w]
              rfl
            refine pure_ (i := 5) (N := some 23) (v := ?_) (a' := ?_) #[tt,tt,tt,tt,ff,tt,ff,ff,ff,ff,ff,ff] rfl rfl (by kernel_rfl) (fun _ _ _ h => h) (Or.inl ⟨by rfl, ?_⟩) ?_ ?_
            rotate_left
            · intro w'
              go_simp
              with_reducible rfl
            rotate_left
            · simp only [Act.put, pkA, pkB, pkC, i64_w, i32_w]
              rfl
            refine pure_ (i := 8) (N := some 26) (v := ?_) (a' := ?_) #[tt,tt,tt,tt,ff,tt,ff,ff,tt,ff,ff,ff] rfl rfl (by kernel_rfl) (fun _ _ _ h => h) (Or.inl ⟨by rfl, ?_⟩) ?_ ?_
            rotate_left
            · intro w'
              go_simp
              with_reducible rfl
            rotate_left
            · simp only [Act.put, pkA, pkB, pkC, i64_w, i32_w]
              rfl
            refine take_ (i := 4) (N := some 22) (v := ?_) (a' := ?_) #[tt,tt,tt,tt,tt,tt,ff,ff,tt,ff,ff,ff] rfl rfl (by kernel_rfl) (fun _ _ _ h => h) (Or.inl ⟨by rfl, ?_⟩) hHeld ?_ ?_
            rotate_left
            · rintro w' ⟨s0, s1, s2, s3, s4⟩
              go_simp
              with_reducible rfl
            rotate_left
            · simp only [Act.put, pkA, pkB, pkC, i64_w, i32_w]
              rfl
            refine pure_ (i := 6) (N := some 24) (v := ?_) (a' := ?_) #[tt,tt,tt,tt,tt,tt,tt,ff,tt,ff,ff,ff] rfl rfl (by kernel_rfl) (fun _ _ _ h => h) (Or.inl ⟨by rfl, ?_⟩) ?_ ?_
            rotate_left
            · intro w'
              go_simp
              with_reducible rfl
            rotate_left
            · simp only [Act.put, pkA, pkB, pkC, i64_w, i32_w]
              rfl
            refine take_ (i := 7) (N := some 25) (v := ?_) (a' := ?_) #[tt,tt,tt,tt,tt,tt,tt,tt,tt,ff,ff,ff] rfl rfl (by kernel_rfl) (fun _ _ _ h => h) (Or.inl ⟨by rfl, ?_⟩) hHeld ?_ ?_
            rotate_left
            · rintro w' ⟨s0, s1, s2, s3, s4⟩
              go_simp
              with_reducible rfl
            rotate_left
            · simp only [Act.put, pkA, pkB, pkC, i64_w, i32_w]
              rfl
            refine take_ (i := 9) (N := some 27) (v := ?_) (a' := ?_) #[tt,tt,tt,tt,tt,tt,tt,tt,tt,tt,ff,ff] rfl rfl (by kernel_rfl) (fun _ _ _ h => h) (Or.inl ⟨by rfl, ?_⟩) hHeld ?_ ?_
            rotate_left
            · rintro w' ⟨s0, s1, s2, s3, s4⟩
              go_simp
              with_reducible rfl
            rotate_left
            · simp only [Act.put, pkA, pkB, pkC, i64_w, i32_w]
              rfl
            refine pure_ (i := 10) (N := some 28) (v := ?_) (a' := ?_) #[tt,tt,tt,tt,tt,tt,tt,tt,tt,tt,tt,ff] rfl rfl (by kernel_rfl) (fun _ _ _ h => h) (Or.inl ⟨by rfl, ?_⟩) ?_ ?_
            rotate_left
            · intro w'
              go_simp
              with_reducible rfl
            rotate_left
            · simp only [Act.put, pkA, pkB, pkC, i64_w, i32_w]
              rfl
            refine pure_ (i := 11) (N := some 29) (v := ?_) (a' := ?_) #[tt,tt,tt,tt,tt,tt,tt,tt,tt,tt,tt,tt] rfl rfl (by kernel_rfl) (fun _ _ _ h => h) (Or.inl ⟨by rfl, ?_⟩) ?_ ?_
            rotate_left
            · intro w'
              go_simp
              with_reducible rfl
            rotate_left
            · simp only [Act.put, pkA, pkB, pkC, i64_w, i32_w]
              rfl
            refine done_ (by kernel_rfl) ?_
            clear HW
            have HW := HWd
            clear HWd
            have HWd := Aside0.mk HW.out.drew
            go_wp2
            go_meet
            exact ⟨by rw [HBP.out, HB2.out]; rfl, HW⟩
      case rest =>
        clear HW HWd
        obtain ⟨rfl, HW⟩ := hcut
        have HWd := Aside0.mk HW.out.drew
        go_upto_if 29 with (fail)
        go_cut [6] from 16 to 87 (fun s wx => ∃ (put1 : Bool) (M1 : Nms) (nm1 im1 : Value), s = .bool put1 ∧ Aside0 (NX e put1 M1 N k q R) ∧ Aside0 (M1.length ≤ 2 * n + 1) ∧ Aside0 (DoW w (.slice (some ad1) n c1) (.slice (some ad2) n c2) e nm1 im1 nm1 im1 (namesL M1) (numsL M1) wx))
        case first =>
          cases bp with
          | false =>
            have HMF := Aside0.mk (doc_same e put M N k q R HDS.out HBP.out.symm)
            clear HDS HBP
            go_wp2
            go_meet
            exact ⟨put, M, nm, im, rfl, HMF, HMl, HW⟩
          | true =>
            obtain ⟨hp0, hmf, hml⟩ := doc_put e put M N k q R HDS.out HBP.out.symm
            have HMF := Aside0.mk hmf
            have HML := Aside0.mk (Nat.le_trans hml HRl.out)
            clear HDS HBP hmf hml
            subst hp0
            go_upto_region 7 with (fail)
            refine start_ (n := 16) (S := fun w' => w'.cell? ⟨w.heap.size + 1 + 1 + 1, 0, none⟩ = some nm ∧ w'.cell? ⟨w.heap.size + 1 + 1 + 1, 1, none⟩ = some im ∧ w'.cell? ⟨w.heap.size + 1, 0, none⟩ = some (.string e.name) ∧ w'.cell? ⟨w.heap.size + 1, 2, none⟩ = some (.int .i64 e.file)) (ds := [13, 15]) #[ff,ff,ff,ff,ff,ff,ff,ff,ff,ff,ff,ff,ff,ff,ff,ff] (by kernel_rfl) rfl rfl ⟨HWd.out.co0, HWd.out.co1, HWd.out.ce0, HWd.out.ce2⟩ (fun hHeld => ?_)
            have HD0 := Aside0.mk HW.out.drew
            generalize wc.drew = u0 at HD0 hHeld ⊢
            refine pure_ (i := 0) (N := some 30) (v := ?_) (a' := ?_) #[tt,ff,ff,ff,ff,ff,ff,ff,ff,ff,ff,ff,ff,ff,ff,ff] rfl rfl (by kernel_rfl) (fun _ _ _ h => h) (Or.inl ⟨by rfl, ?_⟩) ?_ ?_
            rotate_left
            · intro w'
              go_simp
              with_reducible rfl
            rotate_left
            · simp only [Act.put, pkA, pkB, pkC, i64_w, i32_w]
              rfl
            refine pure_ (i := 2) (N := some 32) (v := ?_) (a' := ?_) #[tt,ff,tt,ff,ff,ff,ff,ff,ff,ff,ff,ff,ff,ff,ff,ff] rfl rfl (by kernel_rfl) (fun _ _ _ h => h) (Or.inl ⟨by rfl, ?_⟩) ?_ ?_
            rotate_left
            · intro w'
              go_simp
              with_reducible rfl
            rotate_left
            · simp only [Act.put, pkA, pkB, pkC, i64_w, i32_w]
              rfl
            refine pure_ (i := 6) (N := some 36) (v := ?_) (a' := ?_) #[tt,ff,tt,ff,ff,ff,tt,ff,ff,ff,ff,ff,ff,ff,ff,ff] rfl rfl (by kernel_rfl) (fun _ _ _ h => h) (Or.inl ⟨by rfl, ?_⟩) ?_ ?_
            rotate_left
            · intro w'
              go_simp
              with_reducible rfl
            rotate_left
            · simp only [Act.put, pkA, pkB, pkC, i64_w, i32_w]
              rfl
            refine pure_ (i := 8) (N := some 38) (v := ?_) (a' := ?_) #[tt,ff,tt,ff,ff,ff,tt,ff,tt,ff,ff,ff,ff,ff,ff,ff] rfl rfl (by kernel_rfl) (fun _ _ _ h => h) (Or.inl ⟨by rfl, ?_⟩) ?_ ?_
            rotate_left
            · intro w'
              go_simp
              with_reducible rfl
            rotate_left
            · simp only [Act.put, pkA, pkB, pkC, i64_w, i32_w]
              rfl
            refine take_ (i := 1) (N := some 31) (v := ?_) (a' := ?_) #[tt,tt,tt,ff,ff,ff,tt,ff,tt,ff,ff,ff,ff,ff,ff,ff] rfl rfl (by kernel_rfl) (fun _ _ _ h => h) (Or.inl ⟨by rfl, ?_⟩) hHeld ?_ ?_
            rotate_left
            · rintro w' ⟨s0, s1, s2, s3⟩
              go_simp
              with_reducible rfl
            rotate_left
            · simp only [Act.put, pkA, pkB, pkC, i64_w, i32_w]
              rfl
            refine take_ (i := 3) (N := some 33) (v := ?_) (a' := ?_) #[tt,tt,tt,tt,ff,ff,tt,ff,tt,ff,ff,ff,ff,ff,ff,ff] rfl rfl (by kernel_rfl) (fun _ _ _ h => h) (Or.inl ⟨by rfl, ?_⟩) hHeld ?_ ?_
            rotate_left
            · rintro w' ⟨s0, s1, s2, s3⟩
              go_simp
              with_reducible rfl
            rotate_left
            · simp only [Act.put, pkA, pkB, pkC, i64_w, i32_w]
              rfl
            refine take_ (i := 7) (N := some 37) (v := ?_) (a' := ?_) #[tt,tt,tt,tt,ff,ff,tt,tt,tt,ff,ff,ff,ff,ff,ff,ff] rfl rfl (by kernel_rfl) (fun _ _ _ h => h) (Or.inl ⟨by rfl, ?_⟩) hHeld ?_ ?_
            rotate_left
            · rintro w' ⟨s0, s1, s2, s3⟩
              go_simp
              with_reducible rfl
            rotate_left
            · simp only [Act.put, pkA, pkB, pkC, i64_w, i32_w]
              rfl
            refine take_ (i := 9) (N := some 39) (v := ?_) (a' := ?_) #[tt,tt,tt,tt,ff,ff,tt,tt,tt,tt,ff,ff,ff,ff,ff,ff] rfl rfl (by kernel_rfl) (fun _ _ _ h => h) (Or.inl ⟨by rfl, ?_⟩) hHeld ?_ ?_
            rotate_left
            · rintro w' ⟨s0, s1, s2, s3⟩
              go_simp
              with_reducible rfl
            rotate_left
            · simp only [Act.put, pkA, pkB, pkC, i64_w, i32_w]
              rfl
            refine join_ (σ := Value × Nat × Nat) 4 #[tt,tt,tt,tt,tt,tt,tt,tt,tt,tt,tt,ff,tt,ff,ff,ff] (fun s => [(35, s.1), (34, .slice (some ⟨s.2.1, 0, none⟩) 1 1), (40, .slice (some ⟨s.2.2, 0, none⟩) 1 1), (42, .pointer (some ⟨w.heap.size + 1 + 1 + 1, 0, none⟩))]) (fun s w' => DoW w (.slice (some ad1) n c1) (.slice (some ad2) n c2) e nm im s.1 im (namesL M ++ [e.name]) (numsL M) w' ∧ w'.heap[s.2.2]? = some (.cells #[.int .i64 (e.file)] 3 (0, 0))) ?_ ?_
            rotate_left
            · intro hCont
              refine two_ (i := 4) (j := 10) (Ni := some 34) (Nj := some 40) #[tt,tt,tt,tt,tt,ff,tt,tt,tt,tt,ff,ff,ff,ff,ff,ff] #[tt,tt,tt,tt,ff,ff,tt,tt,tt,tt,tt,ff,ff,ff,ff,ff] rfl rfl rfl rfl (by kernel_rfl) (by decide) (by decide) (fun K hK => ?_) (fun K hK => ?_)
              · skip
                refine value_ (w1 := ?_) (v := ?_) (by rfl) rfl ?_ ?_
                rotate_left 2
                · go_simp
                  constructor
                  · rfl
                  · rfl
                have HD1 := Aside0.mk (HD0.out.alloc (.cells #[.string (e.name)] 9))
                have HLS1 := Aside0.mk (heap_alloc_new u0 (.cells #[.string (e.name)] 9))
                generalize u0.alloc (.cells #[.string (e.name)] 9) = u1 at HD1 HLS1 ⊢
                refine hK.out _ _ ⟨HD1.out.co0, HD1.out.co1, HD1.out.ce0, HD1.out.ce2⟩ (fun hHeld => ?_)
                clear hK K
                refine norm_ (a' := ?_) ?_ ?_
                rotate_left
                · show Act.put _ (some 34) _ = _
                  simp only [Act.put, pkA, pkB, pkC, i64_w, i32_w]
                  rfl
                refine two_ (i := 5) (j := 10) (Ni := some 35) (Nj := some 40) #[tt,tt,tt,tt,tt,tt,tt,tt,tt,tt,ff,ff,ff,ff,ff,ff] #[tt,tt,tt,tt,tt,ff,tt,tt,tt,tt,tt,ff,ff,ff,ff,ff] rfl rfl rfl rfl (by kernel_rfl) (by decide) (by decide) (fun K hK => ?_) (fun K hK => ?_)
                · skip
                  refine Kd.R_append_rows_step Kd.string (w0 := w) w.heap.size (by rfl) (.tmp 31) (.tmp 34) 37 9 (.string ⟨#[]⟩) 16 rfl Tryz.underlying37 infoS rfl (by decide) (by omega) nm (namesL M) [e.name] _ _ _ (fun _ => True) (fun _ => False) rfl rfl ?aO ?aR (fun _ _ h => h) (fun _ h => h.elim) ?aF ?aB ?aS ?aL ?_
                  case aO => exact HD1.out.rn
                  case aR => exact one_str HLS1.out
                  case aF => exact fun _ _ => trivial
                  case aB => exact HD1.out.bel
                  case aS => exact HD1.out.bel.size
                  case aL => have := HMl.out; rw [names_len]; omega
                  intro v1 u2 ho hb hg hat
                  have HD2 := Aside0.mk (HD1.out.addN ho hb hg)
                  clear ho hb hg hat
                  refine hK.out _ _ ⟨HD2.out.co0, HD2.out.co1, HD2.out.ce0, HD2.out.ce2⟩ (fun hHeld => ?_)
                  clear hK K
                  refine norm_ (a' := ?_) ?_ ?_
                  rotate_left
                  · show Act.put _ (some 35) _ = _
                    simp only [Act.put, pkA, pkB, pkC, i64_w, i32_w]
                    rfl
                  refine pure_ (i := 12) (N := some 42) (v := ?_) (a' := ?_) #[tt,tt,tt,tt,tt,tt,tt,tt,tt,tt,ff,ff,tt,ff,ff,ff] rfl rfl (by kernel_rfl) (fun _ _ _ h => h) (Or.inl ⟨by rfl, ?_⟩) ?_ ?_
                  rotate_left
                  · intro w'
                    go_simp
                    with_reducible rfl
                  rotate_left
                  · simp only [Act.put, pkA, pkB, pkC, i64_w, i32_w]
                    rfl
                  refine one_ (i := 10) (N := some 40) #[tt,tt,tt,tt,tt,tt,tt,tt,tt,tt,tt,ff,tt,ff,ff,ff] rfl rfl (by kernel_rfl) (by decide) (fun K hK => ?_)
                  refine value_ (w1 := ?_) (v := ?_) (by rfl) rfl ?_ ?_
                  rotate_left 2
                  · go_simp
                    constructor
                    · rfl
                    · rfl
                  have HD3 := Aside0.mk (HD2.out.alloc (.cells #[.int .i64 (e.file)] 3))
                  have HLI3 := Aside0.mk (heap_alloc_new u2 (.cells #[.int .i64 (e.file)] 3))
                  generalize u2.alloc (.cells #[.int .i64 (e.file)] 3) = u3 at HD3 HLI3 ⊢
                  refine hK.out _ _ ⟨HD3.out.co0, HD3.out.co1, HD3.out.ce0, HD3.out.ce2⟩ (fun hHeld => ?_)
                  clear hK K
                  refine norm_ (a' := ?_) ?_ ?_
                  rotate_left
                  · show Act.put _ (some 40) _ = _
                    simp only [Act.put, pkA, pkB, pkC, i64_w, i32_w]
                    rfl
                  exact norm_ (by simp only [putAll, Act.put, pkA, pkB, pkC]) (hCont (v1, u0.heap.size, u2.heap.size) _ ⟨HD3.out, HLI3.out⟩)
                · skip
                  refine value_ (w1 := ?_) (v := ?_) (by rfl) rfl ?_ ?_
                  rotate_left 2
                  · go_simp
                    constructor
                    · rfl
                    · rfl
                  have HD2 := Aside0.mk (HD1.out.alloc (.cells #[.int .i64 (e.file)] 3))
                  have HLI2 := Aside0.mk (heap_alloc_new u1 (.cells #[.int .i64 (e.file)] 3))
                  have HLS2 := Aside0.mk (obj_alloc HLS1.out (.cells #[.int .i64 (e.file)] 3))
                  generalize u1.alloc (.cells #[.int .i64 (e.file)] 3) = u2 at HD2 HLI2 HLS2 ⊢
                  refine hK.out _ _ ⟨HD2.out.co0, HD2.out.co1, HD2.out.ce0, HD2.out.ce2⟩ (fun hHeld => ?_)
                  clear hK K
                  refine norm_ (a' := ?_) ?_ ?_
                  rotate_left
                  · show Act.put _ (some 40) _ = _
                    simp only [Act.put, pkA, pkB, pkC, i64_w, i32_w]
                    rfl
                  refine one_ (i := 5) (N := some 35) #[tt,tt,tt,tt,tt,tt,tt,tt,tt,tt,tt,ff,ff,ff,ff,ff] rfl rfl (by kernel_rfl) (by decide) (fun K hK => ?_)
                  refine Kd.R_append_rows_step Kd.string (w0 := w) w.heap.size (by rfl) (.tmp 31) (.tmp 34) 37 9 (.string ⟨#[]⟩) 16 rfl Tryz.underlying37 infoS rfl (by decide) (by omega) nm (namesL M) [e.name] _ _ _ (fun _ => True) (fun _ => False) rfl rfl ?aO ?aR (fun _ _ h => h) (fun _ h => h.elim) ?aF ?aB ?aS ?aL ?_
                  case aO => exact HD2.out.rn
                  case aR => exact one_str HLS2.out
                  case aF => exact fun _ _ => trivial
                  case aB => exact HD2.out.bel
                  case aS => exact HD2.out.bel.size
                  case aL => have := HMl.out; rw [names_len]; omega
                  intro v1 u3 ho hb hg hat
                  have HD3 := Aside0.mk (HD2.out.addN ho hb hg)
                  have HLI3 := Aside0.mk (obj_grown HD2.out.rn hg HLI2.out)
                  clear ho hb hg hat
                  refine hK.out _ _ ⟨HD3.out.co0, HD3.out.co1, HD3.out.ce0, HD3.out.ce2⟩ (fun hHeld => ?_)
                  clear hK K
                  refine norm_ (a' := ?_) ?_ ?_
                  rotate_left
                  · show Act.put _ (some 35) _ = _
                    simp only [Act.put, pkA, pkB, pkC, i64_w, i32_w]
                    rfl
                  refine pure_ (i := 12) (N := some 42) (v := ?_) (a' := ?_) #[tt,tt,tt,tt,tt,tt,tt,tt,tt,tt,tt,ff,tt,ff,ff,ff] rfl rfl (by kernel_rfl) (fun _ _ _ h => h) (Or.inl ⟨by rfl, ?_⟩) ?_ ?_
                  rotate_left
                  · intro w'
                    go_simp
                    with_reducible rfl
                  rotate_left
                  · simp only [Act.put, pkA, pkB, pkC, i64_w, i32_w]
                    rfl
                  exact norm_ (by simp only [putAll, Act.put, pkA, pkB, pkC]) (hCont (v1, u0.heap.size, u1.heap.size) _ ⟨HD3.out, HLI3.out⟩)
              · skip
                refine value_ (w1 := ?_) (v := ?_) (by rfl) rfl ?_ ?_
                rotate_left 2
                · go_simp
                  constructor
                  · rfl
                  · rfl
                have HD1 := Aside0.mk (HD0.out.alloc (.cells #[.int .i64 (e.file)] 3))
                have HLI1 := Aside0.mk (heap_alloc_new u0 (.cells #[.int .i64 (e.file)] 3))
                generalize u0.alloc (.cells #[.int .i64 (e.file)] 3) = u1 at HD1 HLI1 ⊢
                refine hK.out _ _ ⟨HD1.out.co0, HD1.out.co1, HD1.out.ce0, HD1.out.ce2⟩ (fun hHeld => ?_)
                clear hK K
                refine norm_ (a' := ?_) ?_ ?_
                rotate_left
                · show Act.put _ (some 40) _ = _
                  simp only [Act.put, pkA, pkB, pkC, i64_w, i32_w]
                  rfl
                refine one_ (i := 4) (N := some 34) #[tt,tt,tt,tt,tt,ff,tt,tt,tt,tt,tt,ff,ff,ff,ff,ff] rfl rfl (by kernel_rfl) (by decide) (fun K hK => ?_)
                refine value_ (w1 := ?_) (v := ?_) (by rfl) rfl ?_ ?_
                rotate_left 2
                · go_simp
                  constructor
                  · rfl
                  · rfl
                have HD2 := Aside0.mk (HD1.out.alloc (.cells #[.string (e.name)] 9))
                have HLS2 := Aside0.mk (heap_alloc_new u1 (.cells #[.string (e.name)] 9))
                have HLI2 := Aside0.mk (obj_alloc HLI1.out (.cells #[.string (e.name)] 9))
                generalize u1.alloc (.cells #[.string (e.name)] 9) = u2 at HD2 HLS2 HLI2 ⊢
                refine hK.out _ _ ⟨HD2.out.co0, HD2.out.co1, HD2.out.ce0, HD2.out.ce2⟩ (fun hHeld => ?_)
                clear hK K
                refine norm_ (a' := ?_) ?_ ?_
                rotate_left
                · show Act.put _ (some 34) _ = _
                  simp only [Act.put, pkA, pkB, pkC, i64_w, i32_w]
                  rfl
                refine one_ (i := 5) (N := some 35) #[tt,tt,tt,tt,tt,tt,tt,tt,tt,tt,tt,ff,ff,ff,ff,ff] rfl rfl (by kernel_rfl) (by decide) (fun K hK => ?_)
                refine Kd.R_append_rows_step Kd.string (w0 := w) w.heap.size (by rfl) (.tmp 31) (.tmp 34) 37 9 (.string ⟨#[]⟩) 16 rfl Tryz.underlying37 infoS rfl (by decide) (by omega) nm (namesL M) [e.name] _ _ _ (fun _ => True) (fun _ => False) rfl rfl ?aO ?aR (fun _ _ h => h) (fun _ h => h.elim) ?aF ?aB ?aS ?aL ?_
                case aO => exact HD2.out.rn
                case aR => exact one_str HLS2.out
                case aF => exact fun _ _ => trivial
                case aB => exact HD2.out.bel
                case aS => exact HD2.out.bel.size
                case aL => have := HMl.out; rw [names_len]; omega
                intro v1 u3 ho hb hg hat
                have HD3 := Aside0.mk (HD2.out.addN ho hb hg)
                have HLI3 := Aside0.mk (obj_grown HD2.out.rn hg HLI2.out)
                clear ho hb hg hat
                refine hK.out _ _ ⟨HD3.out.co0, HD3.out.co1, HD3.out.ce0, HD3.out.ce2⟩ (fun hHeld => ?_)
                clear hK K
                refine norm_ (a' := ?_) ?_ ?_
                rotate_left
                · show Act.put _ (some 35) _ = _
                  simp only [Act.put, pkA, pkB, pkC, i64_w, i32_w]
                  rfl
                refine pure_ (i := 12) (N := some 42) (v := ?_) (a' := ?_) #[tt,tt,tt,tt,tt,tt,tt,tt,tt,tt,tt,ff,tt,ff,ff,ff] rfl rfl (by kernel_rfl) (fun _ _ _ h => h) (Or.inl ⟨by rfl, ?_⟩) ?_ ?_
                rotate_left
                · intro w'
                  go_simp
                  with_reducible rfl
                rotate_left
                · simp only [Act.put, pkA, pkB, pkC, i64_w, i32_w]
                  rfl
                exact norm_ (by simp only [putAll, Act.put, pkA, pkB, pkC]) (hCont (v1, u1.heap.size, u0.heap.size) _ ⟨HD3.out, HLI3.out⟩)
            rintro ⟨v1, ga, gb⟩ u4 ⟨hD4, hL4⟩
            obtain ⟨Av, cv, hv1⟩ := Kd.R_slice hD4.rn
            replace hv1 : v1 = .slice Av ((namesL M).length + 1) cv := by simpa using hv1
            have HD4 : Aside0 (DoW w (.slice (some ad1) n c1) (.slice (some ad2) n c2) e nm im v1 im (namesL M ++ [e.name]) (numsL M) u4) := ⟨hD4⟩
            have HLI4 : Aside0 (u4.heap[gb]? = some (.cells #[.int .i64 (e.file)] 3 (0, 0))) := ⟨hL4⟩
            clear hD4 hL4
            subst hv1
            have hHeld : u4.cell? ⟨w.heap.size + 1 + 1 + 1, 0, none⟩ = some nm ∧ u4.cell? ⟨w.heap.size + 1 + 1 + 1, 1, none⟩ = some im ∧ u4.cell? ⟨w.heap.size + 1, 0, none⟩ = some (.string e.name) ∧ u4.cell? ⟨w.heap.size + 1, 2, none⟩ = some (.int .i64 e.file) := ⟨HD4.out.co0, HD4.out.co1, HD4.out.ce0, HD4.out.ce2⟩
            refine norm_ (a' := ?_) ?_ ?_
            rotate_left
            · simp only [putAll, Act.put, pkA, pkB, pkC]
              rfl
            refine one_ (i := 11) (N := some 41) #[tt,tt,tt,tt,tt,tt,tt,tt,tt,tt,tt,tt,tt,ff,ff,ff] rfl rfl (by kernel_rfl) (by decide) (fun K hK => ?_)
            refine Kd.R_append_rows_step (Kd.int .i64) (w0 := w) w.heap.size (by rfl) (.tmp 37) (.tmp 40) 33 3 (.int .i64 0) 8 rfl Tryz.underlying33 infoN rfl (by decide) (by omega) im (numsL M) [e.file] _ _ _ (fun _ => True) (fun _ => False) rfl rfl ?aO ?aR (fun _ _ h => h) (fun _ h => h.elim) ?aF ?aB ?aS ?aL ?_
            case aO => exact HD4.out.ri
            case aR => exact one_int HLI4.out
            case aF => exact fun _ _ => trivial
            case aB => exact HD4.out.bel
            case aS => exact HD4.out.bel.size
            case aL => have := HMl.out; rw [nums_len]; omega
            intro v2 u5 ho hb hg hat
            obtain ⟨Av2, cv2, hv2⟩ := Kd.R_slice ho
            replace hv2 : v2 = .slice Av2 ((numsL M).length + 1) cv2 := by simpa using hv2
            subst hv2
            have HD5 := Aside0.mk (HD4.out.addI ho hb hg)
            have fz0 := HD5.out.fo 0
            have fz1 := HD5.out.fo 1
            clear ho hb hg hat
            refine hK.out _ _ ⟨HD5.out.co0, HD5.out.co1, HD5.out.ce0, HD5.out.ce2⟩ (fun hHeld => ?_)
            clear hK K
            refine norm_ (a' := ?_) ?_ ?_
            rotate_left
            · show Act.put _ (some 41) _ = _
              simp only [Act.put, pkA, pkB, pkC, i64_w, i32_w]
              rfl
            refine last_ (i := 13) (N := none) #[tt,tt,tt,tt,tt,tt,tt,tt,tt,tt,tt,tt,tt,tt,ff,ff] rfl rfl (by kernel_rfl) (by decide) (fun K hK => ?_)
            refine skip_ (w1 := ?_) (by rfl) rfl ?_ ?_
            rotate_left
            · go_simp
              rfl
            refine hK.out _ _ ?_
            clear hK K
            refine pure_ (i := 14) (N := some 43) (v := ?_) (a' := ?_) #[tt,tt,tt,tt,tt,tt,tt,tt,tt,tt,tt,tt,tt,tt,tt,ff] rfl rfl (by kernel_rfl) (fun _ _ _ h => h) (Or.inl ⟨by rfl, ?_⟩) ?_ ?_
            rotate_left
            · intro w'
              go_simp
              with_reducible rfl
            rotate_left
            · simp only [Act.put, pkA, pkB, pkC, i64_w, i32_w]
              rfl
            refine last_ (i := 15) (N := none) #[tt,tt,tt,tt,tt,tt,tt,tt,tt,tt,tt,tt,tt,tt,tt,tt] rfl rfl (by kernel_rfl) (by decide) (fun K hK => ?_)
            refine skip_ (w1 := ?_) (by rfl) rfl ?_ ?_
            rotate_left
            · go_simp
              rfl
            refine hK.out _ _ ?_
            clear hK K
            refine done_ (by kernel_rfl) ?_
            have HWn := Aside0.mk ((HD5.out.put 0 (.slice Av ((namesL M).length + 1) cv) (.slice Av ((namesL M).length + 1) cv) im rfl).put 1 (.slice Av2 ((numsL M).length + 1) cv2) (.slice Av ((namesL M).length + 1) cv) (.slice Av2 ((numsL M).length + 1) cv2) rfl)
            have HW := Aside0.mk (show DoW w (.slice (some ad1) n c1) (.slice (some ad2) n c2) e _ _ _ _ (namesL (M ++ [(e.name.data.toList, e.file)])) (numsL (M ++ [(e.name.data.toList, e.file)])) _ from by rw [names_snoc, nums_snoc, nmS_data]; exact HWn.out)
            clear HWn HD0 HD4 HLI4 HD5 hHeld fz0 fz1 HWd HMl
            go_wp2
            go_meet
            exact ⟨true, _, _, _, rfl, HMF, HML, HW⟩
        case rest =>
          clear HW HWd HDS HBP HMl
          obtain ⟨put1, M1, nm1, im1, rfl, HMF, HMl, HW⟩ := hcut
          have HWd := Aside0.mk HW.out.drew
          obtain ⟨bq, hbq⟩ : ∃ bq : Bool, bq = decide (q.1 ≠ e.gone.data.toList ∧ (e.file < 0 ∨ q.1 ≠ e.name.data.toList)) := ⟨_, rfl⟩
          have HBQ := Aside0.mk hbq
          clear hbq
          go_upto_region 9 with (fail)
          go_cut [66] from 16 to 87 (fun s wx => s = .bool bq ∧ Aside0 (DoW w (.slice (some ad1) n c1) (.slice (some ad2) n c2) e nm1 im1 nm1 im1 (namesL M1) (numsL M1) wx))
          case first =>
            by_cases hg : q.1 = e.gone.data.toList
            · have n1 : ((nmS q.1).toList == e.gone.toList) = true := by have := neq_nm q.1 e.gone; rw [decide_eq_false (fun h => h hg)] at this; simpa using this
              have HB2 := Aside0.mk (decide_eq_false (fun h : q.1 ≠ e.gone.data.toList ∧ (e.file < 0 ∨ q.1 ≠ e.name.data.toList) => h.1 hg))
              clear hg
              refine start_ (n := 23) (S := fun w' => w'.cell? ⟨w.heap.size, 0, none⟩ = some (.slice (some ad1) n c1) ∧ w'.cell? ⟨w.heap.size + 1, 0, none⟩ = some (.string e.name) ∧ w'.cell? (ad1.add k) = some (.string (nmS q.1)) ∧ w'.cell? ⟨w.heap.size + 1, 1, none⟩ = some (.string e.gone) ∧ w'.cell? ⟨w.heap.size + 1, 2, none⟩ = some (.int .i64 e.file)) (ds := []) #[ff,ff,ff,ff,ff,ff,ff,ff,ff,ff,ff,ff,ff,ff,ff,ff,ff,ff,ff,ff,ff,ff,ff] (by kernel_rfl) rfl rfl ⟨HWd.out.cn0, HWd.out.ce0, (HQ1.out _ HWd.out.bel), HWd.out.ce1, HWd.out.ce2⟩ (fun hHeld => ?_)
              generalize wc.drew = wb at HWd hHeld ⊢
              refine pure_ (i := 0) (N := some 44) (v := ?_) (a' := ?_) #[tt,ff,ff,ff,ff,ff,ff,ff,ff,ff,ff,ff,ff,ff,ff,ff,ff,ff,ff,ff,ff,ff,ff] rfl rfl (by kernel_rfl) (fun _ _ _ h => h) (Or.inl ⟨by rfl, ?_⟩) ?_ ?_
              rotate_left
              · intro w'
                go_simp
                with_reducible rfl
              rotate_left
              · simp only [Act.put, pkA, pkB, pkC, i64_w, i32_w]
                rfl
              refine pure_ (i := 2) (N := some 46) (v := ?_) (a' := ?_) #[tt,ff,tt,ff,ff,ff,ff,ff,ff,ff,ff,ff,ff,ff,ff,ff,ff,ff,ff,ff,ff,ff,ff] rfl rfl (by kernel_rfl) (fun _ _ _ h => h) (Or.inl ⟨by rfl, ?_⟩) ?_ ?_
              rotate_left
              · intro w'
                go_simp
                with_reducible rfl
              rotate_left
              · simp only [Act.put, pkA, pkB, pkC, i64_w, i32_w]
                rfl
              refine pure_ (i := 5) (N := some 49) (v := ?_) (a' := ?_) #[tt,ff,tt,ff,ff,tt,ff,ff,ff,ff,ff,ff,ff,ff,ff,ff,ff,ff,ff,ff,ff,ff,ff] rfl rfl (by kernel_rfl) (fun _ _ _ h => h) (Or.inl ⟨by rfl, ?_⟩) ?_ ?_
              rotate_left
              · intro w'
                go_simp
                with_reducible rfl
              rotate_left
              · simp only [Act.put, pkA, pkB, pkC, i64_w, i32_w]
                rfl
              refine take_ (i := 1) (N := some 45) (v := ?_) (a' := ?_) #[tt,tt,tt,ff,ff,tt,ff,ff,ff,ff,ff,ff,ff,ff,ff,ff,ff,ff,ff,ff,ff,ff,ff] rfl rfl (by kernel_rfl) (fun _ _ _ h => h) (Or.inl ⟨by rfl, ?_⟩) hHeld ?_ ?_
              rotate_left
              · rintro w' ⟨s0, s1, s2, s3, s4⟩
                go_simp
                with_reducible rfl
              rotate_left
              · simp only [Act.put, pkA, pkB, pkC, i64_w, i32_w]
                rfl
              refine pure_ (i := 3) (N := some 47) (v := ?_) (a' := ?_) #[tt,tt,tt,tt,ff,tt,ff,ff,ff,ff,ff,ff,ff,ff,ff,ff,ff,ff,ff,ff,ff,ff,ff] rfl rfl (by kernel_rfl) (fun _ _ _ h => h) (Or.inl ⟨by rfl, ?_⟩) ?_ ?_
              rotate_left
              · intro w'
                go_simp
                with_reducible rfl
              rotate_left
              · simp only [Act.put, pkA, pkB, pkC, i64_w, i32_w]
                rfl
              refine take_ (i := 4) (N := some 48) (v := ?_) (a' := ?_) #[tt,tt,tt,tt,tt,tt,ff,ff,ff,ff,ff,ff,ff,ff,ff,ff,ff,ff,ff,ff,ff,ff,ff] rfl rfl (by kernel_rfl) (fun _ _ _ h => h) (Or.inl ⟨by rfl, ?_⟩) hHeld ?_ ?_
              rotate_left
              · rintro w' ⟨s0, s1, s2, s3, s4⟩
                go_simp
                with_reducible rfl
              rotate_left
              · simp only [Act.put, pkA, pkB, pkC, i64_w, i32_w]
                rfl
              refine take_ (i := 6) (N := some 50) (v := ?_) (a' := ?_) #[tt,tt,tt,tt,tt,tt,tt,ff,ff,ff,ff,ff,ff,ff,ff,ff,ff,ff,ff,ff,ff,ff,ff] rfl rfl (by kernel_rfl) (fun _ _ _ h => h) (Or.inl ⟨by rfl, ?_⟩) hHeld ?_ ?_
              rotate_left
              · rintro w' ⟨s0, s1, s2, s3, s4⟩
                go_simp
                with_reducible rfl
              rotate_left
              · simp only [Act.put, pkA, pkB, pkC, i64_w, i32_w]
                rfl
              refine pure_ (i := 7) (N := some 51) (v := ?_) (a' := ?_) #[tt,tt,tt,tt,tt,tt,tt,tt,ff,ff,ff,ff,ff,ff,ff,ff,ff,ff,ff,ff,ff,ff,ff] rfl rfl (by kernel_rfl) (fun _ _ _ h => h) (Or.inl ⟨by rfl, ?_⟩) ?_ ?_
              rotate_left
              · intro w'
                go_simp
                with_reducible rfl
              rotate_left
              · simp only [Act.put, pkA, pkB, pkC, i64_w, i32_w]
                rfl
              refine pure_ (i := 8) (N := some 52) (v := ?_) (a' := ?_) #[tt,tt,tt,tt,tt,tt,tt,tt,tt,ff,ff,ff,ff,ff,ff,ff,ff,ff,ff,ff,ff,ff,ff] rfl rfl (by kernel_rfl) (fun _ _ _ h => h) (Or.inl ⟨by rfl, ?_⟩) ?_ ?_
              rotate_left
              · intro w'
                go_simp
                with_reducible rfl
              rotate_left
              · simp only [Act.put, pkA, pkB, pkC, i64_w, i32_w]
                rfl
              refine pure_ (i := 9) (N := some 53) (v := undef) (a' := ?_) #[tt,tt,tt,tt,tt,tt,tt,tt,tt,tt,ff,ff,ff,ff,ff,ff,ff,ff,ff,ff,ff,ff,ff] rfl rfl (by kernel_rfl) (fun _ _ _ h => h) (Or.inr ⟨by rfl, rfl⟩) ?_ ?_
              rotate_left
              · simp only [Act.put, pkA, pkB, pkC, i64_w, i32_w]
                rfl
              refine pure_ (i := 10) (N := some 54) (v := undef) (a' := ?_) #[tt,tt,tt,tt,tt,tt,tt,tt,tt,tt,tt,ff,ff,ff,ff,ff,ff,ff,ff,ff,ff,ff,ff] rfl rfl (by kernel_rfl) (fun _ _ _ h => h) (Or.inr ⟨by rfl, rfl⟩) ?_ ?_
              rotate_left
              · simp only [Act.put, pkA, pkB, pkC, i64_w, i32_w]
                rfl
              refine pure_ (i := 11) (N := some 55) (v := undef) (a' := ?_) #[tt,tt,tt,tt,tt,tt,tt,tt,tt,tt,tt,tt,ff,ff,ff,ff,ff,ff,ff,ff,ff,ff,ff] rfl rfl (by kernel_rfl) (fun _ _ _ h => h) (Or.inr ⟨by rfl, rfl⟩) ?_ ?_
              rotate_left
              · simp only [Act.put, pkA, pkB, pkC, i64_w, i32_w]
                rfl
              refine pure_ (i := 12) (N := some 56) (v := undef) (a' := ?_) #[tt,tt,tt,tt,tt,tt,tt,tt,tt,tt,tt,tt,tt,ff,ff,ff,ff,ff,ff,ff,ff,ff,ff] rfl rfl (by kernel_rfl) (fun _ _ _ h => h) (Or.inr ⟨by rfl, rfl⟩) ?_ ?_
              rotate_left
              · simp only [Act.put, pkA, pkB, pkC, i64_w, i32_w]
                rfl
              refine pure_ (i := 13) (N := some 57) (v := undef) (a' := ?_) #[tt,tt,tt,tt,tt,tt,tt,tt,tt,tt,tt,tt,tt,tt,ff,ff,ff,ff,ff,ff,ff,ff,ff] rfl rfl (by kernel_rfl) (fun _ _ _ h => h) (Or.inr ⟨by rfl, rfl⟩) ?_ ?_
              rotate_left
              · simp only [Act.put, pkA, pkB, pkC, i64_w, i32_w]
                rfl
              refine pure_ (i := 14) (N := some 58) (v := undef) (a' := ?_) #[tt,tt,tt,tt,tt,tt,tt,tt,tt,tt,tt,tt,tt,tt,tt,ff,ff,ff,ff,ff,ff,ff,ff] rfl rfl (by kernel_rfl) (fun _ _ _ h => h) (Or.inr ⟨by rfl, rfl⟩) ?_ ?_
              rotate_left
              · simp only [Act.put, pkA, pkB, pkC, i64_w, i32_w]
                rfl
              refine pure_ (i := 15) (N := some 59) (v := undef) (a' := ?_) #[tt,tt,tt,tt,tt,tt,tt,tt,tt,tt,tt,tt,tt,tt,tt,tt,ff,ff,ff,ff,ff,ff,ff] rfl rfl (by kernel_rfl) (fun _ _ _ h => h) (Or.inr ⟨by rfl, rfl⟩) ?_ ?_
              rotate_left
              · simp only [Act.put, pkA, pkB, pkC, i64_w, i32_w]
                rfl
              refine pure_ (i := 16) (N := some 60) (v := undef) (a' := ?_) #[tt,tt,tt,tt,tt,tt,tt,tt,tt,tt,tt,tt,tt,tt,tt,tt,tt,ff,ff,ff,ff,ff,ff] rfl rfl (by kernel_rfl) (fun _ _ _ h => h) (Or.inr ⟨by rfl, rfl⟩) ?_ ?_
              rotate_left
              · simp only [Act.put, pkA, pkB, pkC, i64_w, i32_w]
                rfl
              refine pure_ (i := 17) (N := some 61) (v := undef) (a' := ?_) #[tt,tt,tt,tt,tt,tt,tt,tt,tt,tt,tt,tt,tt,tt,tt,tt,tt,tt,ff,ff,ff,ff,ff] rfl rfl (by kernel_rfl) (fun _ _ _ h => h) (Or.inr ⟨by rfl, rfl⟩) ?_ ?_
              rotate_left
              · simp only [Act.put, pkA, pkB, pkC, i64_w, i32_w]
                rfl
              refine pure_ (i := 18) (N := some 62) (v := undef) (a' := ?_) #[tt,tt,tt,tt,tt,tt,tt,tt,tt,tt,tt,tt,tt,tt,tt,tt,tt,tt,tt,ff,ff,ff,ff] rfl rfl (by kernel_rfl) (fun _ _ _ h => h) (Or.inr ⟨by rfl, rfl⟩) ?_ ?_
              rotate_left
              · simp only [Act.put, pkA, pkB, pkC, i64_w, i32_w]
                rfl
              refine pure_ (i := 19) (N := some 63) (v := undef) (a' := ?_) #[tt,tt,tt,tt,tt,tt,tt,tt,tt,tt,tt,tt,tt,tt,tt,tt,tt,tt,tt,tt,ff,ff,ff] rfl rfl (by kernel_rfl) (fun _ _ _ h => h) (Or.inr ⟨by rfl, rfl⟩) ?_ ?_
              rotate_left
              · simp only [Act.put, pkA, pkB, pkC, i64_w, i32_w]
                rfl
              refine pure_ (i := 20) (N := some 64) (v := undef) (a' := ?_) #[tt,tt,tt,tt,tt,tt,tt,tt,tt,tt,tt,tt,tt,tt,tt,tt,tt,tt,tt,tt,tt,ff,ff] rfl rfl (by kernel_rfl) (fun _ _ _ h => h) (Or.inr ⟨by rfl, rfl⟩) ?_ ?_
              rotate_left
              · simp only [Act.put, pkA, pkB, pkC, i64_w, i32_w]
                rfl
              refine pure_ (i := 21) (N := some 65) (v := undef) (a' := ?_) #[tt,tt,tt,tt,tt,tt,tt,tt,tt,tt,tt,tt,tt,tt,tt,tt,tt,tt,tt,tt,tt,tt,ff] rfl rfl (by kernel_rfl) (fun _ _ _ h => h) (Or.inr ⟨by rfl, rfl⟩) ?_ ?_
              rotate_left
              · simp only [Act.put, pkA, pkB, pkC, i64_w, i32_w]
                rfl
              refine pure_ (i := 22) (N := some 66) (v := ?_) (a' := ?_) #[tt,tt,tt,tt,tt,tt,tt,tt,tt,tt,tt,tt,tt,tt,tt,tt,tt,tt,tt,tt,tt,tt,tt] rfl rfl (by kernel_rfl) (fun _ _ _ h => h) (Or.inl ⟨by rfl, ?_⟩) ?_ ?_
              rotate_left
              · intro w'
                go_simp
                with_reducible rfl
              rotate_left
              · simp only [Act.put, pkA, pkB, pkC, i64_w, i32_w]
                rfl
              refine done_ (by kernel_rfl) ?_
              clear HW
              have HW := HWd
              clear HWd
              have HWd := Aside0.mk HW.out.drew
              go_wp2
              go_meet
              exact ⟨by rw [HBQ.out]; exact congrArg Value.bool (HB2.out.symm), HW⟩
            · have n1 : ((nmS q.1).toList == e.gone.toList) = false := by have := neq_nm q.1 e.gone; rw [decide_eq_true hg] at this; simpa using this
              have HG := Aside0.mk hg
              clear hg
              by_cases hf : e.file < 0
              · have n2 : decide (e.file < 0) = true := decide_eq_true hf
                have HB2 := Aside0.mk (decide_eq_true (show q.1 ≠ e.gone.data.toList ∧ (e.file < 0 ∨ q.1 ≠ e.name.data.toList) from ⟨HG.out, .inl hf⟩))
                clear hf HG
                refine start_ (n := 23) (S := fun w' => w'.cell? ⟨w.heap.size, 0, none⟩ = some (.slice (some ad1) n c1) ∧ w'.cell? ⟨w.heap.size + 1, 0, none⟩ = some (.string e.name) ∧ w'.cell? (ad1.add k) = some (.string (nmS q.1)) ∧ w'.cell? ⟨w.heap.size + 1, 1, none⟩ = some (.string e.gone) ∧ w'.cell? ⟨w.heap.size + 1, 2, none⟩ = some (.int .i64 e.file)) (ds := []) #[ff,ff,ff,ff,ff,ff,ff,ff,ff,ff,ff,ff,ff,ff,ff,ff,ff,ff,ff,ff,ff,ff,ff] (by kernel_rfl) rfl rfl ⟨HWd.out.cn0, HWd.out.ce0, (HQ1.out _ HWd.out.bel), HWd.out.ce1, HWd.out.ce2⟩ (fun hHeld => ?_)
                generalize wc.drew = wb at HWd hHeld ⊢
                refine pure_ (i := 0) (N := some 44) (v := ?_) (a' := ?_) #[tt,ff,ff,ff,ff,ff,ff,ff,ff,ff,ff,ff,ff,ff,ff,ff,ff,ff,ff,ff,ff,ff,ff] rfl rfl (by kernel_rfl) (fun _ _ _ h => h) (Or.inl ⟨by rfl, ?_⟩) ?_ ?_
                rotate_left
                · intro w'
                  go_simp
                  with_reducible rfl
                rotate_left
                · simp only [Act.put, pkA, pkB, pkC, i64_w, i32_w]
                  rfl
                refine pure_ (i := 2) (N := some 46) (v := ?_) (a' := ?_) #[tt,ff,tt,ff,ff,ff,ff,ff,ff,ff,ff,ff,ff,ff,ff,ff,ff,ff,ff,ff,ff,ff,ff] rfl rfl (by kernel_rfl) (fun _ _ _ h => h) (Or.inl ⟨by rfl, ?_⟩) ?_ ?_
                rotate_left
                · intro w'
                  go_simp
                  with_reducible rfl
                rotate_left
                · simp only [Act.put, pkA, pkB, pkC, i64_w, i32_w]
                  rfl
                refine pure_ (i := 5) (N := some 49) (v := ?_) (a' := ?_) #[tt,ff,tt,ff,ff,tt,ff,ff,ff,ff,ff,ff,ff,ff,ff,ff,ff,ff,ff,ff,ff,ff,ff] rfl rfl (by kernel_rfl) (fun _ _ _ h => h) (Or.inl ⟨by rfl, ?_⟩) ?_ ?_
                rotate_left
                · intro w'
                  go_simp
                  with_reducible rfl
                rotate_left
                · simp only [Act.put, pkA, pkB, pkC, i64_w, i32_w]
                  rfl
                refine take_ (i := 1) (N := some 45) (v := ?_) (a' := ?_) #[tt,tt,tt,ff,ff,tt,ff,ff,ff,ff,ff,ff,ff,ff,ff,ff,ff,ff,ff,ff,ff,ff,ff] rfl rfl (by kernel_rfl) (fun _ _ _ h => h) (Or.inl ⟨by rfl, ?_⟩) hHeld ?_ ?_
                rotate_left
                · rintro w' ⟨s0, s1, s2, s3, s4⟩
                  go_simp
                  with_reducible rfl
                rotate_left
                · simp only [Act.put, pkA, pkB, pkC, i64_w, i32_w]
                  rfl
                refine pure_ (i := 3) (N := some 47) (v := ?_) (a' := ?_) #[tt,tt,tt,tt,ff,tt,ff,ff,ff,ff,ff,ff,ff,ff,ff,ff,ff,ff,ff,ff,ff,ff,ff] rfl rfl (by kernel_rfl) (fun _ _ _ h => h) (Or.inl ⟨by rfl, ?_⟩) ?_ ?_
                rotate_left
                · intro w'
                  go_simp
                  with_reducible rfl
                rotate_left
                · simp only [Act.put, pkA, pkB, pkC, i64_w, i32_w]
                  rfl
                refine take_ (i := 4) (N := some 48) (v := ?_) (a' := ?_) #[tt,tt,tt,tt,tt,tt,ff,ff,ff,ff,ff,ff,ff,ff,ff,ff,ff,ff,ff,ff,ff,ff,ff] rfl rfl (by kernel_rfl) (fun _ _ _ h => h) (Or.inl ⟨by rfl, ?_⟩) hHeld ?_ ?_
                rotate_left
                · rintro w' ⟨s0, s1, s2, s3, s4⟩
                  go_simp
                  with_reducible rfl
                rotate_left
                · simp only [Act.put, pkA, pkB, pkC, i64_w, i32_w]
                  rfl
                refine take_ (i := 6) (N := some 50) (v := ?_) (a' := ?_) #[tt,tt,tt,tt,tt,tt,tt,ff,ff,ff,ff,ff,ff,ff,ff,ff,ff,ff,ff,ff,ff,ff,ff] rfl rfl (by kernel_rfl) (fun _ _ _ h => h) (Or.inl ⟨by rfl, ?_⟩) hHeld ?_ ?_
                rotate_left
                · rintro w' ⟨s0, s1, s2, s3, s4⟩
                  go_simp
                  with_reducible rfl
                rotate_left
                · simp only [Act.put, pkA, pkB, pkC, i64_w, i32_w]
                  rfl
                refine pure_ (i := 7) (N := some 51) (v := ?_) (a' := ?_) #[tt,tt,tt,tt,tt,tt,tt,tt,ff,ff,ff,ff,ff,ff,ff,ff,ff,ff,ff,ff,ff,ff,ff] rfl rfl (by kernel_rfl) (fun _ _ _ h => h) (Or.inl ⟨by rfl, ?_⟩) ?_ ?_
                rotate_left
                · intro w'
                  go_simp
                  with_reducible rfl
                rotate_left
                · simp only [Act.put, pkA, pkB, pkC, i64_w, i32_w]
                  rfl
                refine pure_ (i := 8) (N := some 52) (v := ?_) (a' := ?_) #[tt,tt,tt,tt,tt,tt,tt,tt,tt,ff,ff,ff,ff,ff,ff,ff,ff,ff,ff,ff,ff,ff,ff] rfl rfl (by kernel_rfl) (fun _ _ _ h => h) (Or.inl ⟨by rfl, ?_⟩) ?_ ?_
                rotate_left
                · intro w'
                  go_simp
                  with_reducible rfl
                rotate_left
                · simp only [Act.put, pkA, pkB, pkC, i64_w, i32_w]
                  rfl
                refine pure_ (i := 9) (N := some 53) (v := ?_) (a' := ?_) #[tt,tt,tt,tt,tt,tt,tt,tt,tt,tt,ff,ff,ff,ff,ff,ff,ff,ff,ff,ff,ff,ff,ff] rfl rfl (by kernel_rfl) (fun _ _ _ h => h) (Or.inl ⟨by rfl, ?_⟩) ?_ ?_
                rotate_left
                · intro w'
                  go_simp
                  with_reducible rfl
                rotate_left
                · simp only [Act.put, pkA, pkB, pkC, i64_w, i32_w]
                  rfl
                refine take_ (i := 10) (N := some 54) (v := ?_) (a' := ?_) #[tt,tt,tt,tt,tt,tt,tt,tt,tt,tt,tt,ff,ff,ff,ff,ff,ff,ff,ff,ff,ff,ff,ff] rfl rfl (by kernel_rfl) (fun _ _ _ h => h) (Or.inl ⟨by rfl, ?_⟩) hHeld ?_ ?_
                rotate_left
                · rintro w' ⟨s0, s1, s2, s3, s4⟩
                  go_simp
                  with_reducible rfl
                rotate_left
                · simp only [Act.put, pkA, pkB, pkC, i64_w, i32_w]
                  rfl
                refine pure_ (i := 11) (N := some 55) (v := ?_) (a' := ?_) #[tt,tt,tt,tt,tt,tt,tt,tt,tt,tt,tt,tt,ff,ff,ff,ff,ff,ff,ff,ff,ff,ff,ff] rfl rfl (by kernel_rfl) (fun _ _ _ h => h) (Or.inl ⟨by rfl, ?_⟩) ?_ ?_
                rotate_left
                · intro w'
                  go_simp
                  with_reducible rfl
                rotate_left
                · simp only [Act.put, pkA, pkB, pkC, i64_w, i32_w]
                  rfl
                refine pure_ (i := 12) (N := some 56) (v := ?_) (a' := ?_) #[tt,tt,tt,tt,tt,tt,tt,tt,tt,tt,tt,tt,tt,ff,ff,ff,ff,ff,ff,ff,ff,ff,ff] rfl rfl (by kernel_rfl) (fun _ _ _ h => h) (Or.inl ⟨by rfl, ?_⟩) ?_ ?_
                rotate_left
                · intro w'
                  go_simp
                  with_reducible rfl
                rotate_left
                · simp only [Act.put, pkA, pkB, pkC, i64_w, i32_w]
                  rfl
                refine pure_ (i := 13) (N := some 57) (v := undef) (a' := ?_) #[tt,tt,tt,tt,tt,tt,tt,tt,tt,tt,tt,tt,tt,tt,ff,ff,ff,ff,ff,ff,ff,ff,ff] rfl rfl (by kernel_rfl) (fun _ _ _ h => h) (Or.inr ⟨by rfl, rfl⟩) ?_ ?_
                rotate_left
                · simp only [Act.put, pkA, pkB, pkC, i64_w, i32_w]
                  rfl
                refine pure_ (i := 14) (N := some 58) (v := undef) (a' := ?_) #[tt,tt,tt,tt,tt,tt,tt,tt,tt,tt,tt,tt,tt,tt,tt,ff,ff,ff,ff,ff,ff,ff,ff] rfl rfl (by kernel_rfl) (fun _ _ _ h => h) (Or.inr ⟨by rfl, rfl⟩) ?_ ?_
                rotate_left
                · simp only [Act.put, pkA, pkB, pkC, i64_w, i32_w]
                  rfl
                refine pure_ (i := 15) (N := some 59) (v := undef) (a' := ?_) #[tt,tt,tt,tt,tt,tt,tt,tt,tt,tt,tt,tt,tt,tt,tt,tt,ff,ff,ff,ff,ff,ff,ff] rfl rfl (by kernel_rfl) (fun _ _ _ h => h) (Or.inr ⟨by rfl, rfl⟩) ?_ ?_
                rotate_left
                · simp only [Act.put, pkA, pkB, pkC, i64_w, i32_w]
                  rfl
                refine pure_ (i := 16) (N := some 60) (v := undef) (a' := ?_) #[tt,tt,tt,tt,tt,tt,tt,tt,tt,tt,tt,tt,tt,tt,tt,tt,tt,ff,ff,ff,ff,ff,ff] rfl rfl (by kernel_rfl) (fun _ _ _ h => h) (Or.inr ⟨by rfl, rfl⟩) ?_ ?_
                rotate_left
                · simp only [Act.put, pkA, pkB, pkC, i64_w, i32_w]
                  rfl
                refine pure_ (i := 17) (N := some 61) (v := undef) (a' := ?_) #[tt,tt,tt,tt,tt,tt,tt,tt,tt,tt,tt,tt,tt,tt,tt,tt,tt,tt,ff,ff,ff,ff,ff] rfl rfl (by kernel_rfl) (fun _ _ _ h => h) (Or.inr ⟨by rfl, rfl⟩) ?_ ?_
                rotate_left
                · simp only [Act.put, pkA, pkB, pkC, i64_w, i32_w]
                  rfl
                refine pure_ (i := 18) (N := some 62) (v := undef) (a' := ?_) #[tt,tt,tt,tt,tt,tt,tt,tt,tt,tt,tt,tt,tt,tt,tt,tt,tt,tt,tt,ff,ff,ff,ff] rfl rfl (by kernel_rfl) (fun _ _ _ h => h) (Or.inr ⟨by rfl, rfl⟩) ?_ ?_
                rotate_left
                · simp only [Act.put, pkA, pkB, pkC, i64_w, i32_w]
                  rfl
                refine pure_ (i := 19) (N := some 63) (v := undef) (a' := ?_) #[tt,tt,tt,tt,tt,tt,tt,tt,tt,tt,tt,tt,tt,tt,tt,tt,tt,tt,tt,tt,ff,ff,ff] rfl rfl (by kernel_rfl) (fun _ _ _ h => h) (Or.inr ⟨by rfl, rfl⟩) ?_ ?_
                rotate_left
                · simp only [Act.put, pkA, pkB, pkC, i64_w, i32_w]
                  rfl
                refine pure_ (i := 20) (N := some 64) (v := undef) (a' := ?_) #[tt,tt,tt,tt,tt,tt,tt,tt,tt,tt,tt,tt,tt,tt,tt,tt,tt,tt,tt,tt,tt,ff,ff] rfl rfl (by kernel_rfl) (fun _ _ _ h => h) (Or.inr ⟨by rfl, rfl⟩) ?_ ?_
                rotate_left
                · simp only [Act.put, pkA, pkB, pkC, i64_w, i32_w]
                  rfl
                refine pure_ (i := 21) (N := some 65) (v := ?_) (a' := ?_) #[tt,tt,tt,tt,tt,tt,tt,tt,tt,tt,tt,tt,tt,tt,tt,tt,tt,tt,tt,tt,tt,tt,ff] rfl rfl (by kernel_rfl) (fun _ _ _ h => h) (Or.inl ⟨by rfl, ?_⟩) ?_ ?_
                rotate_left
                · intro w'
                  go_simp
                  with_reducible rfl
                rotate_left
                · simp only [Act.put, pkA, pkB, pkC, i64_w, i32_w]
                  rfl
                refine pure_ (i := 22) (N := some 66) (v := ?_) (a' := ?_) #[tt,tt,tt,tt,tt,tt,tt,tt,tt,tt,tt,tt,tt,tt,tt,tt,tt,tt,tt,tt,tt,tt,tt] rfl rfl (by kernel_rfl) (fun _ _ _ h => h) (Or.inl ⟨by rfl, ?_⟩) ?_ ?_
                rotate_left
                · intro w'
                  go_simp
                  with_reducible rfl
                rotate_left
                · simp only [Act.put, pkA, pkB, pkC, i64_w, i32_w]
                  rfl
                refine done_ (by kernel_rfl) ?_
                clear HW
                have HW := HWd
                clear HWd
                have HWd := Aside0.mk HW.out.drew
                go_wp2
                go_meet
                exact ⟨by rw [HBQ.out]; exact congrArg Value.bool (HB2.out.symm), HW⟩
              · have n2 : decide (e.file < 0) = false := decide_eq_false hf
                have HF := Aside0.mk hf
                clear hf
                by_cases hm : q.1 = e.name.data.toList
                · have n3 : ((nmS q.1).toList == e.name.toList) = true := by have := neq_nm q.1 e.name; rw [decide_eq_false (fun h => h hm)] at this; simpa using this
                  have HB2 := Aside0.mk (decide_eq_false (fun h : q.1 ≠ e.gone.data.toList ∧ (e.file < 0 ∨ q.1 ≠ e.name.data.toList) => h.2.elim HF.out (fun h => h hm)))
                  clear hm HG HF
                  refine start_ (n := 23) (S := fun w' => w'.cell? ⟨w.heap.size, 0, none⟩ = some (.slice (some ad1) n c1) ∧ w'.cell? ⟨w.heap.size + 1, 0, none⟩ = some (.string e.name) ∧ w'.cell? (ad1.add k) = some (.string (nmS q.1)) ∧ w'.cell? ⟨w.heap.size + 1, 1, none⟩ = some (.string e.gone) ∧ w'.cell? ⟨w.heap.size + 1, 2, none⟩ = some (.int .i64 e.file)) (ds := []) #[ff,ff,ff,ff,ff,ff,ff,ff,ff,ff,ff,ff,ff,ff,ff,ff,ff,ff,ff,ff,ff,ff,ff] (by kernel_rfl) rfl rfl ⟨HWd.out.cn0, HWd.out.ce0, (HQ1.out _ HWd.out.bel), HWd.out.ce1, HWd.out.ce2⟩ (fun hHeld => ?_)
                  generalize wc.drew = wb at HWd hHeld ⊢
                  refine pure_ (i := 0) (N := some 44) (v := ?_) (a' := ?_) #[tt,ff,ff,ff,ff,ff,ff,ff,ff,ff,ff,ff,ff,ff,ff,ff,ff,ff,ff,ff,ff,ff,ff] rfl rfl (by kernel_rfl) (fun _ _ _ h => h) (Or.inl ⟨by rfl, ?_⟩) ?_ ?_
                  rotate_left
                  · intro w'
                    go_simp
                    with_reducible rfl
                  rotate_left
                  · simp only [Act.put, pkA, pkB, pkC, i64_w, i32_w]
                    rfl
                  refine pure_ (i := 2) (N := some 46) (v := ?_) (a' := ?_) #[tt,ff,tt,ff,ff,ff,ff,ff,ff,ff,ff,ff,ff,ff,ff,ff,ff,ff,ff,ff,ff,ff,ff] rfl rfl (by kernel_rfl) (fun _ _ _ h => h) (Or.inl ⟨by rfl, ?_⟩) ?_ ?_
                  rotate_left
                  · intro w'
                    go_simp
                    with_reducible rfl
                  rotate_left
                  · simp only [Act.put, pkA, pkB, pkC, i64_w, i32_w]
                    rfl
                  refine pure_ (i := 5) (N := some 49) (v := ?_) (a' := ?_) #[tt,ff,tt,ff,ff,tt,ff,ff,ff,ff,ff,ff,ff,ff,ff,ff,ff,ff,ff,ff,ff,ff,ff] rfl rfl (by kernel_rfl) (fun _ _ _ h => h) (Or.inl ⟨by rfl, ?_⟩) ?_ ?_
                  rotate_left
                  · intro w'
                    go_simp
                    with_reducible rfl
                  rotate_left
                  · simp only [Act.put, pkA, pkB, pkC, i64_w, i32_w]
                    rfl
                  refine take_ (i := 1) (N := some 45) (v := ?_) (a' := ?_) #[tt,tt,tt,ff,ff,tt,ff,ff,ff,ff,ff,ff,ff,ff,ff,ff,ff,ff,ff,ff,ff,ff,ff] rfl rfl (by kernel_rfl) (fun _ _ _ h => h) (Or.inl ⟨by rfl, ?_⟩) hHeld ?_ ?_
                  rotate_left
                  · rintro w' ⟨s0, s1, s2, s3, s4⟩
                    go_simp
                    with_reducible rfl
                  rotate_left
                  · simp only [Act.put, pkA, pkB, pkC, i64_w, i32_w]
                    rfl
                  refine pure_ (i := 3) (N := some 47) (v := ?_) (a' := ?_) #[tt,tt,tt,tt,ff,tt,ff,ff,ff,ff,ff,ff,ff,ff,ff,ff,ff,ff,ff,ff,ff,ff,ff] rfl rfl (by kernel_rfl) (fun _ _ _ h => h) (Or.inl ⟨by rfl, ?_⟩) ?_ ?_
                  rotate_left
                  · intro w'
                    go_simp
                    with_reducible rfl
                  rotate_left
                  · simp only [Act.put, pkA, pkB, pkC, i64_w, i32_w]
                    rfl
                  refine take_ (i := 4) (N := some 48) (v := ?_) (a' := ?_) #[tt,tt,tt,tt,tt,tt,ff,ff,ff,ff,ff,ff,ff,ff,ff,ff,ff,ff,ff,ff,ff,ff,ff] rfl rfl (by kernel_rfl) (fun _ _ _ h => h) (Or.inl ⟨by rfl, ?_⟩) hHeld ?_ ?_
                  rotate_left
                  · rintro w' ⟨s0, s1, s2, s3, s4⟩
                    go_simp
                    with_reducible rfl
                  rotate_left
                  · simp only [Act.put, pkA, pkB, pkC, i64_w, i32_w]
                    rfl
                  refine take_ (i := 6) (N := some 50) (v := ?_) (a' := ?_) #[tt,tt,tt,tt,tt,tt,tt,ff,ff,ff,ff,ff,ff,ff,ff,ff,ff,ff,ff,ff,ff,ff,ff] rfl rfl (by kernel_rfl) (fun _ _ _ h => h) (Or.inl ⟨by rfl, ?_⟩) hHeld ?_ ?_
                  rotate_left
                  · rintro w' ⟨s0, s1, s2, s3, s4⟩
                    go_simp
                    with_reducible rfl
                  rotate_left
                  · simp only [Act.put, pkA, pkB, pkC, i64_w, i32_w]
                    rfl
                  refine pure_ (i := 7) (N := some 51) (v := ?_) (a' := ?_) #[tt,tt,tt,tt,tt,tt,tt,tt,ff,ff,ff,ff,ff,ff,ff,ff,ff,ff,ff,ff,ff,ff,ff] rfl rfl (by kernel_rfl) (fun _ _ _ h => h) (Or.inl ⟨by rfl, ?_⟩) ?_ ?_
                  rotate_left
                  · intro w'
                    go_simp
                    with_reducible rfl
                  rotate_left
                  · simp only [Act.put, pkA, pkB, pkC, i64_w, i32_w]
                    rfl
                  refine pure_ (i := 8) (N := some 52) (v := ?_) (a' := ?_) #[tt,tt,tt,tt,tt,tt,tt,tt,tt,ff,ff,ff,ff,ff,ff,ff,ff,ff,ff,ff,ff,ff,ff] rfl rfl (by kernel_rfl) (fun _ _ _ h => h) (Or.inl ⟨by rfl, ?_⟩) ?_ ?_
                  rotate_left
                  · intro w'
                    go_simp
                    with_reducible rfl
                  rotate_left
                  · simp only [Act.put, pkA, pkB, pkC, i64_w, i32_w]
                    rfl
                  refine pure_ (i := 9) (N := some 53) (v := ?_) (a' := ?_) #[tt,tt,tt,tt,tt,tt,tt,tt,tt,tt,ff,ff,ff,ff,ff,ff,ff,ff,ff,ff,ff,ff,ff] rfl rfl (by kernel_rfl) (fun _ _ _ h => h) (Or.inl ⟨by rfl, ?_⟩) ?_ ?_
                  rotate_left
                  · intro w'
                    go_simp
                    with_reducible rfl
                  rotate_left
                  · simp only [Act.put, pkA, pkB, pkC, i64_w, i32_w]
                    rfl
                  refine take_ (i := 10) (N := some 54) (v := ?_) (a' := ?_) #[tt,tt,tt,tt,tt,tt,tt,tt,tt,tt,tt,ff,ff,ff,ff,ff,ff,ff,ff,ff,ff,ff,ff] rfl rfl (by kernel_rfl) (fun _ _ _ h => h) (Or.inl ⟨by rfl, ?_⟩) hHeld ?_ ?_
                  rotate_left
                  · rintro w' ⟨s0, s1, s2, s3, s4⟩
                    go_simp
                    with_reducible rfl
                  rotate_left
                  · simp only [Act.put, pkA, pkB, pkC, i64_w, i32_w]
                    rfl
                  refine pure_ (i := 11) (N := some 55) (v := ?_) (a' := ?_) #[tt,tt,tt,tt,tt,tt,tt,tt,tt,tt,tt,tt,ff,ff,ff,ff,ff,ff,ff,ff,ff,ff,ff] rfl rfl (by kernel_rfl) (fun _ _ _ h => h) (Or.inl ⟨by rfl, ?_⟩) ?_ ?_
                  rotate_left
                  · intro w'
                    go_simp
                    with_reducible rfl
                  rotate_left
                  · simp only [Act.put, pkA, pkB, pkC, i64_w, i32_w]
                    rfl
                  refine pure_ (i := 12) (N := some 56) (v := ?_) (a' := ?_) #[tt,tt,tt,tt,tt,tt,tt,tt,tt,tt,tt,tt,tt,ff,ff,ff,ff,ff,ff,ff,ff,ff,ff] rfl rfl (by kernel_rfl) (fun _ _ _ h => h) (Or.inl ⟨by rfl, ?_⟩) ?_ ?_
                  rotate_left
                  · intro w'
                    go_simp
                    with_reducible rfl
                  rotate_left
                  · simp only [Act.put, pkA, pkB, pkC, i64_w, i32_w]
                    rfl
                  refine pure_ (i := 13) (N := some 57) (v := ?_) (a' := ?_) #[tt,tt,tt,tt,tt,tt,tt,tt,tt,tt,tt,tt,tt,tt,ff,ff,ff,ff,ff,ff,ff,ff,ff] rfl rfl (by kernel_rfl) (fun _ _ _ h => h) (Or.inl ⟨by rfl, ?_⟩) ?_ ?_
                  rotate_left
                  · intro w'
                    go_simp
                    with_reducible rfl
                  rotate_left
                  · simp only [Act.put, pkA, pkB, pkC, i64_w, i32_w]
                    rfl
                  refine pure_ (i := 15) (N := some 59) (v := ?_) (a' := ?_) #[tt,tt,tt,tt,tt,tt,tt,tt,tt,tt,tt,tt,tt,tt,ff,tt,ff,ff,ff,ff,ff,ff,ff] rfl rfl (by kernel_rfl) (fun _ _ _ h => h) (Or.inl ⟨by rfl, ?_⟩) ?_ ?_
                  rotate_left
                  · intro w'
                    go_simp
                    with_reducible rfl
                  rotate_left
                  · simp only [Act.put, pkA, pkB, pkC, i64_w, i32_w]
                    rfl
                  refine pure_ (i := 18) (N := some 62) (v := ?_) (a' := ?_) #[tt,tt,tt,tt,tt,tt,tt,tt,tt,tt,tt,tt,tt,tt,ff,tt,ff,ff,tt,ff,ff,ff,ff] rfl rfl (by kernel_rfl) (fun _ _ _ h => h) (Or.inl ⟨by rfl, ?_⟩) ?_ ?_
                  rotate_left
                  · intro w'
                    go_simp
                    with_reducible rfl
                  rotate_left
                  · simp only [Act.put, pkA, pkB, pkC, i64_w, i32_w]
                    rfl
                  refine take_ (i := 14) (N := some 58) (v := ?_) (a' := ?_) #[tt,tt,tt,tt,tt,tt,tt,tt,tt,tt,tt,tt,tt,tt,tt,tt,ff,ff,tt,ff,ff,ff,ff] rfl rfl (by kernel_rfl) (fun _ _ _ h => h) (Or.inl ⟨by rfl, ?_⟩) hHeld ?_ ?_
                  rotate_left
                  · rintro w' ⟨s0, s1, s2, s3, s4⟩
                    go_simp
                    with_reducible rfl
                  rotate_left
                  · simp only [Act.put, pkA, pkB, pkC, i64_w, i32_w]
                    rfl
                  refine pure_ (i := 16) (N := some 60) (v := ?_) (a' := ?_) #[tt,tt,tt,tt,tt,tt,tt,tt,tt,tt,tt,tt,tt,tt,tt,tt,tt,ff,tt,ff,ff,ff,ff] rfl rfl (by kernel_rfl) (fun _ _ _ h => h) (Or.inl ⟨by rfl, ?_⟩) ?_ ?_
                  rotate_left
                  · intro w'
                    go_simp
                    with_reducible rfl
                  rotate_left
                  · simp only [Act.put, pkA, pkB, pkC, i64_w, i32_w]
                    rfl
                  refine take_ (i := 17) (N := some 61) (v := ?_) (a' := ?_) #[tt,tt,tt,tt,tt,tt,tt,tt,tt,tt,tt,tt,tt,tt,tt,tt,tt,tt,tt,ff,ff,ff,ff] rfl rfl (by kernel_rfl) (fun _ _ _ h => h) (Or.inl ⟨by rfl, ?_⟩) hHeld ?_ ?_
                  rotate_left
                  · rintro w' ⟨s0, s1, s2, s3, s4⟩
                    go_simp
                    with_reducible rfl
                  rotate_left
                  · simp only [Act.put, pkA, pkB, pkC, i64_w, i32_w]
                    rfl
                  refine take_ (i := 19) (N := some 63) (v := ?_) (a' := ?_) #[tt,tt,tt,tt,tt,tt,tt,tt,tt,tt,tt,tt,tt,tt,tt,tt,tt,tt,tt,tt,ff,ff,ff] rfl rfl (by kernel_rfl) (fun _ _ _ h => h) (Or.inl ⟨by rfl, ?_⟩) hHeld ?_ ?_
                  rotate_left
                  · rintro w' ⟨s0, s1, s2, s3, s4⟩
                    go_simp
                    with_reducible rfl
                  rotate_left
                  · simp only [Act.put, pkA, pkB, pkC, i64_w, i32_w]
                    rfl
                  refine pure_ (i := 20) (N := some 64) (v := ?_) (a' := ?_) #[tt,tt,tt,tt,tt,tt,tt,tt,tt,tt,tt,tt,tt,tt,tt,tt,tt,tt,tt,tt,tt,ff,ff] rfl rfl (by kernel_rfl) (fun _ _ _ h => h) (Or.inl ⟨by rfl, ?_⟩) ?_ ?_
                  rotate_left
                  · intro w'
                    go_simp
                    with_reducible rfl
                  rotate_left
                  · simp only [Act.put, pkA, pkB, pkC, i64_w, i32_w]
                    rfl
                  refine pure_ (i := 21) (N := some 65) (v := ?_) (a' := ?_) #[tt,tt,tt,tt,tt,tt,tt,tt,tt,tt,tt,tt,tt,tt,tt,tt,tt,tt,tt,tt,tt,tt,ff] rfl rfl (by kernel_rfl) (fun _ _ _ h => h) (Or.inl ⟨by rfl, ?_⟩) ?_ ?_
                  rotate_left
                  · intro w'
                    go_simp
                    with_reducible rfl
                  rotate_left
                  · simp only [Act.put, pkA, pkB, pkC, i64_w, i32_w]
                    rfl
                  refine pure_ (i := 22) (N := some 66) (v := ?_) (a' := ?_) #[tt,tt,tt,tt,tt,tt,tt,tt,tt,tt,tt,tt,tt,tt,tt,tt,tt,tt,tt,tt,tt,tt,tt] rfl rfl (by kernel_rfl) (fun _ _ _ h => h) (Or.inl ⟨by rfl, ?_⟩) ?_ ?_
                  rotate_left
                  · intro w'
                    go_simp
                    with_reducible rfl
                  rotate_left
                  · simp only [Act.put, pkA, pkB, pkC, i64_w, i32_w]
                    rfl
                  refine done_ (by kernel_rfl) ?_
                  clear HW
                  have HW := HWd
                  clear HWd
                  have HWd := Aside0.mk HW.out.drew
                  go_wp2
                  go_meet
                  exact ⟨by rw [HBQ.out]; exact congrArg Value.bool (HB2.out.symm), HW⟩
                · have n3 : ((nmS q.1).toList == e.name.toList) = false := by have := neq_nm q.1 e.name; rw [decide_eq_true hm] at this; simpa using this
                  have HB2 := Aside0.mk (decide_eq_true (show q.1 ≠ e.gone.data.toList ∧ (e.file < 0 ∨ q.1 ≠ e.name.data.toList) from ⟨HG.out, .inr hm⟩))
                  clear hm HG HF
                  refine start_ (n := 23) (S := fun w' => w'.cell? ⟨w.heap.size, 0, none⟩ = some (.slice (some ad1) n c1) ∧ w'.cell? ⟨w.heap.size + 1, 0, none⟩ = some (.string e.name) ∧ w'.cell? (ad1.add k) = some (.string (nmS q.1)) ∧ w'.cell? ⟨w.heap.size + 1, 1, none⟩ = some (.string e.gone) ∧ w'.cell? ⟨w.heap.size + 1, 2, none⟩ = some (.int .i64 e.file)) (ds := []) #[ff,ff,ff,ff,ff,ff,ff,ff,ff,ff,ff,ff,ff,ff,ff,ff,ff,ff,ff,ff,ff,ff,ff] (by kernel_rfl) rfl rfl ⟨HWd.out.cn0, HWd.out.ce0, (HQ1.out _ HWd.out.bel), HWd.out.ce1, HWd.out.ce2⟩ (fun hHeld => ?_)
                  generalize wc.drew = wb at HWd hHeld ⊢
                  refine pure_ (i := 0) (N := some 44) (v := ?_) (a' := ?_) #[tt,ff,ff,ff,ff,ff,ff,ff,ff,ff,ff,ff,ff,ff,ff,ff,ff,ff,ff,ff,ff,ff,ff] rfl rfl (by kernel_rfl) (fun _ _ _ h => h) (Or.inl ⟨by rfl, ?_⟩) ?_ ?_
                  rotate_left
                  · intro w'
                    go_simp
                    with_reducible rfl
                  rotate_left
                  · simp only [Act.put, pkA, pkB, pkC, i64_w, i32_w]
                    rfl
                  refine pure_ (i := 2) (N := some 46) (v := ?_) (a' := ?_) #[tt,ff,tt,ff,ff,ff,ff,ff,ff,ff,ff,ff,ff,ff,ff,ff,ff,ff,ff,ff,ff,ff,ff] rfl rfl (by kernel_rfl) (fun _ _ _ h => h) (Or.inl ⟨by rfl, ?_⟩) ?_ ?_
                  rotate_left
                  · intro w'
                    go_simp
                    with_reducible rfl
                  rotate_left
                  · simp only [Act.put, pkA, pkB, pkC, i64_w, i32_w]
                    rfl
                  refine pure_ (i := 5) (N := some 49) (v := ?_) (a' := ?_) #[tt,ff,tt,ff,ff,tt,ff,ff,ff,ff,ff,ff,ff,ff,ff,ff,ff,ff,ff,ff,ff,ff,ff] rfl rfl (by kernel_rfl) (fun _ _ _ h => h) (Or.inl ⟨by rfl, ?_⟩) ?_ ?_
                  rotate_left
                  · intro w'
                    go_simp
                    with_reducible rfl
                  rotate_left
                  · simp only [Act.put, pkA, pkB, pkC, i64_w, i32_w]
                    rfl
                  refine take_ (i := 1) (N := some 45) (v := ?_) (a' := ?_) #[tt,tt,tt,ff,ff,tt,ff,ff,ff,ff,ff,ff,ff,ff,ff,ff,ff,ff,ff,ff,ff,ff,ff] rfl rfl (by kernel_rfl) (fun _ _ _ h => h) (Or.inl ⟨by rfl, ?_⟩) hHeld ?_ ?_
                  rotate_left
                  · rintro w' ⟨s0, s1, s2, s3, s4⟩
                    go_simp
                    with_reducible rfl
                  rotate_left
                  · simp only [Act.put, pkA, pkB, pkC, i64_w, i32_w]
                    rfl
                  refine pure_ (i := 3) (N := some 47) (v := ?_) (a' := ?_) #[tt,tt,tt,tt,ff,tt,ff,ff,ff,ff,ff,ff,ff,ff,ff,ff,ff,ff,ff,ff,ff,ff,ff] rfl rfl (by kernel_rfl) (fun _ _ _ h => h) (Or.inl ⟨by rfl, ?_⟩) ?_ ?_
                  rotate_left
                  · intro w'
                    go_simp
                    with_reducible rfl
                  rotate_left
                  · simp only [Act.put, pkA, pkB, pkC, i64_w, i32_w]
                    rfl
                  refine take_ (i := 4) (N := some 48) (v := ?_) (a' := ?_) #[tt,tt,tt,tt,tt,tt,ff,ff,ff,ff,ff,ff,ff,ff,ff,ff,ff,ff,ff,ff,ff,ff,ff] rfl rfl (by kernel_rfl) (fun _ _ _ h => h) (Or.inl ⟨by rfl, ?_⟩) hHeld ?_ ?_
                  rotate_left
                  · rintro w' ⟨s0, s1, s2, s3, s4⟩
                    go_simp
                    with_reducible rfl
                  rotate_left
                  · simp only [Act.put, pkA, pkB, pkC, i64_w, i32_w]
                    rfl
                  refine take_ (i := 6) (N := some 50) (v := ?_) (a' := ?_) #[tt,tt,tt,tt,tt,tt,tt,ff,ff,ff,ff,ff,ff,ff,ff,ff,ff,ff,ff,ff,ff,ff,ff] rfl rfl (by kernel_rfl) (fun _ _ _ h => h) (Or.inl ⟨by rfl, ?_⟩) hHeld ?_ ?_
                  rotate_left
                  · rintro w' ⟨s0, s1, s2, s3, s4⟩
                    go_simp
                    with_reducible rfl
                  rotate_left
                  · simp only [Act.put, pkA, pkB, pkC, i64_w, i32_w]
                    rfl
                  refine pure_ (i := 7) (N := some 51) (v := ?_) (a' := ?_) #[tt,tt,tt,tt,tt,tt,tt,tt,ff,ff,ff,ff,ff,ff,ff,ff,ff,ff,ff,ff,ff,ff,ff] rfl rfl (by kernel_rfl) (fun _ _ _ h => h) (Or.inl ⟨by rfl, ?_⟩) ?_ ?_
                  rotate_left
                  · intro w'
                    go_simp
                    with_reducible rfl
                  rotate_left
                  · simp only [Act.put, pkA, pkB, pkC, i64_w, i32_w]
                    rfl
                  refine pure_ (i := 8) (N := some 52) (v := ?_) (a' := ?_) #[tt,tt,tt,tt,tt,tt,tt,tt,tt,ff,ff,ff,ff,ff,ff,ff,ff,ff,ff,ff,ff,ff,ff] rfl rfl (by kernel_rfl) (fun _ _ _ h => h) (Or.inl ⟨by rfl, ?_⟩) ?_ ?_
                  rotate_left
                  · intro w'
                    go_simp
                    with_reducible rfl
                  rotate_left
                  · simp only [Act.put, pkA, pkB, pkC, i64_w, i32_w]
                    rfl
                  refine pure_ (i := 9) (N := some 53) (v := ?_) (a' := ?_) #[tt,tt,tt,tt,tt,tt,tt,tt,tt,tt,ff,ff,ff,ff,ff,ff,ff,ff,ff,ff,ff,ff,ff] rfl rfl (by kernel_rfl) (fun _ _ _ h => h) (Or.inl ⟨by rfl, ?_⟩) ?_ ?_
                  rotate_left
                  · intro w'
                    go_simp
                    with_reducible rfl
                  rotate_left
                  · simp only [Act.put, pkA, pkB, pkC, i64_w, i32_w]
                    rfl
                  refine take_ (i := 10) (N := some 54) (v := ?_) (a' := ?_) #[tt,tt,tt,tt,tt,tt,tt,tt,tt,tt,tt,ff,ff,ff,ff,ff,ff,ff,ff,ff,ff,ff,ff] rfl rfl (by kernel_rfl) (fun _ _ _ h => h) (Or.inl ⟨by rfl, ?_⟩) hHeld ?_ ?_
                  rotate_left
                  · rintro w' ⟨s0, s1, s2, s3, s4⟩
                    go_simp
                    with_reducible rfl
                  rotate_left
                  · simp only [Act.put, pkA, pkB, pkC, i64_w, i32_w]
                    rfl
                  refine pure_ (i := 11) (N := some 55) (v := ?_) (a' := ?_) #[tt,tt,tt,tt,tt,tt,tt,tt,tt,tt,tt,tt,ff,ff,ff,ff,ff,ff,ff,ff,ff,ff,ff] rfl rfl (by kernel_rfl) (fun _ _ _ h => h) (Or.inl ⟨by rfl, ?_⟩) ?_ ?_
                  rotate_left
                  · intro w'
                    go_simp
                    with_reducible rfl
                  rotate_left
                  · simp only [Act.put, pkA, pkB, pkC, i64_w, i32_w]
                    rfl
                  refine pure_ (i := 12) (N := some 56) (v := ?_) (a' := ?_) #[tt,tt,tt,tt,tt,tt,tt,tt,tt,tt,tt,tt,tt,ff,ff,ff,ff,ff,ff,ff,ff,ff,ff] rfl rfl (by kernel_rfl) (fun _ _ _ h => h) (Or.inl ⟨by rfl, ?_⟩) ?_ ?_
                  rotate_left
                  · intro w'
                    go_simp
                    with_reducible rfl
                  rotate_left
                  · simp only [Act.put, pkA, pkB, pkC, i64_w, i32_w]
                    rfl
                  refine pure_ (i := 13) (N := some 57) (v := ?_) (a' := ?_) #[tt,tt,tt,tt,tt,tt,tt,tt,tt,tt,tt,tt,tt,tt,ff,ff,ff,ff,ff,ff,ff,ff,ff] rfl rfl (by kernel_rfl) (fun _ _ _ h => h) (Or.inl ⟨by rfl, ?_⟩) ?_ ?_
                  rotate_left
                  · intro w'
                    go_simp
                    with_reducible rfl
                  rotate_left
                  · simp only [Act.put, pkA, pkB, pkC, i64_w, i32_w]
                    rfl
                  refine pure_ (i := 15) (N := some 59) (v := ?_) (a' := ?_) #[tt,tt,tt,tt,tt,tt,tt,tt,tt,tt,tt,tt,tt,tt,ff,tt,ff,ff,ff,ff,ff,ff,ff] rfl rfl (by kernel_rfl) (fun _ _ _ h => h) (Or.inl ⟨by rfl, ?_⟩) ?_ ?_
                  rotate_left
                  · intro w'
                    go_simp
                    with_reducible rfl
                  rotate_left
                  · simp only [Act.put, pkA, pkB, pkC, i64_w, i32_w]
                    rfl
                  refine pure_ (i := 18) (N := some 62) (v := ?_) (a' := ?_) #[tt,tt,tt,tt,tt,tt,tt,tt,tt,tt,tt,tt,tt,tt,ff,tt,ff,ff,tt,ff,ff,ff,ff] rfl rfl (by kernel_rfl) (fun _ _ _ h => h) (Or.inl ⟨by rfl, ?_⟩) ?_ ?_
                  rotate_left
                  · intro w'
                    go_simp
                    with_reducible rfl
                  rotate_left
                  · simp only [Act.put, pkA, pkB, pkC, i64_w, i32_w]
                    rfl
                  refine take_ (i := 14) (N := some 58) (v := ?_) (a' := ?_) #[tt,tt,tt,tt,tt,tt,tt,tt,tt,tt,tt,tt,tt,tt,tt,tt,ff,ff,tt,ff,ff,ff,ff] rfl rfl (by kernel_rfl) (fun _ _ _ h => h) (Or.inl ⟨by rfl, ?_⟩) hHeld ?_ ?_
                  rotate_left
                  · rintro w' ⟨s0, s1, s2, s3, s4⟩
                    go_simp
                    with_reducible rfl
                  rotate_left
                  · simp only [Act.put, pkA, pkB, pkC, i64_w, i32_w]
                    rfl
                  refine pure_ (i := 16) (N := some 60) (v := ?_) (a' := ?_) #[tt,tt,tt,tt,tt,tt,tt,tt,tt,tt,tt,tt,tt,tt,tt,tt,tt,ff,tt,ff,ff,ff,ff] rfl rfl (by kernel_rfl) (fun _ _ _ h => h) (Or.inl ⟨by rfl, ?_⟩) ?_ ?_
                  rotate_left
                  · intro w'
                    go_simp
                    with_reducible rfl
                  rotate_left
                  · simp only [Act.put, pkA, pkB, pkC, i64_w, i32_w]
                    rfl
                  refine take_ (i := 17) (N := some 61) (v := ?_) (a' := ?_) #[tt,tt,tt,tt,tt,tt,tt,tt,tt,tt,tt,tt,tt,tt,tt,tt,tt,tt,tt,ff,ff,ff,ff] rfl rfl (by kernel_rfl) (fun _ _ _ h => h) (Or.inl ⟨by rfl, ?_⟩) hHeld ?_ ?_
                  rotate_left
                  · rintro w' ⟨s0, s1, s2, s3, s4⟩
                    go_simp
                    with_reducible rfl
                  rotate_left
                  · simp only [Act.put, pkA, pkB, pkC, i64_w, i32_w]
                    rfl
                  refine take_ (i := 19) (N := some 63) (v := ?_) (a' := ?_) #[tt,tt,tt,tt,tt,tt,tt,tt,tt,tt,tt,tt,tt,tt,tt,tt,tt,tt,tt,tt,ff,ff,ff] rfl rfl (by kernel_rfl) (fun _ _ _ h => h) (Or.inl ⟨by rfl, ?_⟩) hHeld ?_ ?_
                  rotate_left
                  · rintro w' ⟨s0, s1, s2, s3, s4⟩
                    go_simp
                    with_reducible rfl
                  rotate_left
                  · simp only [Act.put, pkA, pkB, pkC, i64_w, i32_w]
                    rfl
                  refine pure_ (i := 20) (N := some 64) (v := ?_) (a' := ?_) #[tt,tt,tt,tt,tt,tt,tt,tt,tt,tt,tt,tt,tt,tt,tt,tt,tt,tt,tt,tt,tt,ff,ff] rfl rfl (by kernel_rfl) (fun _ _ _ h => h) (Or.inl ⟨by rfl, ?_⟩) ?_ ?_
                  rotate_left
                  · intro w'
                    go_simp
                    with_reducible rfl
                  rotate_left
                  · simp only [Act.put, pkA, pkB, pkC, i64_w, i32_w]
                    rfl
                  refine pure_ (i := 21) (N := some 65) (v := ?_) (a' := ?_) #[tt,tt,tt,tt,tt,tt,tt,tt,tt,tt,tt,tt,tt,tt,tt,tt,tt,tt,tt,tt,tt,tt,ff] rfl rfl (by kernel_rfl) (fun _ _ _ h => h) (Or.inl ⟨by rfl, ?_⟩) ?_ ?_
                  rotate_left
                  · intro w'
                    go_simp
                    with_reducible rfl
                  rotate_left
                  · simp only [Act.put, pkA, pkB, pkC, i64_w, i32_w]
                    rfl
                  refine pure_ (i := 22) (N := some 66) (v := ?_) (a' := ?_) #[tt,tt,tt,tt,tt,tt,tt,tt,tt,tt,tt,tt,tt,tt,tt,tt,tt,tt,tt,tt,tt,tt,tt] rfl rfl (by kernel_rfl) (fun _ _ _ h => h) (Or.inl ⟨by rfl, ?_⟩) ?_ ?_
                  rotate_left
                  · intro w'
                    go_simp
                    with_reducible rfl
                  rotate_left
                  · simp only [Act.put, pkA, pkB, pkC, i64_w, i32_w]
                    rfl
                  refine done_ (by kernel_rfl) ?_
                  clear HW
                  have HW := HWd
                  clear HWd
                  have HWd := Aside0.mk HW.out.drew
                  go_wp2
                  go_meet
                  exact ⟨by rw [HBQ.out]; exact congrArg Value.bool (HB2.out.symm), HW⟩
          case rest =>
            clear HW HWd
            obtain ⟨rfl, HW⟩ := hcut
            have HWd := Aside0.mk HW.out.drew
            cases bq with
            | false =>
              have HMN := Aside0.mk (HMF.out.2 (of_decide_eq_false HBQ.out.symm))
              clear HMF HBQ
              go_wp2
              go_roundw
              case rel => exact ⟨k + 1, put1, _, _, _, by omega, by go_num, rfl, HMN, HW⟩
              case measure => simp [Go.RowKit.intOf]; omega
            | true =>
              have HMN := Aside0.mk (HMF.out.1 (of_decide_eq_true HBQ.out.symm))
              clear HMF HBQ
              go_upto_region 10 with (fail)
              refine start_ (n := 22) (S := fun w' => w'.cell? ⟨w.heap.size + 1 + 1 + 1, 0, none⟩ = some nm1 ∧ w'.cell? ⟨w.heap.size + 1 + 1 + 1, 1, none⟩ = some im1 ∧ w'.cell? ⟨w.heap.size + 1, 0, none⟩ = some (.string e.name) ∧ w'.cell? ⟨w.heap.size + 1, 2, none⟩ = some (.int .i64 e.file) ∧ w'.cell? ⟨w.heap.size, 0, none⟩ = some (.slice (some ad1) n c1) ∧ w'.cell? ⟨w.heap.size, 1, none⟩ = some (.slice (some ad2) n c2) ∧ w'.cell? (ad1.add k) = some (.string (nmS q.1)) ∧ w'.cell? (ad2.add k) = some (.int .i64 q.2)) (ds := [19, 21]) #[ff,ff,ff,ff,ff,ff,ff,ff,ff,ff,ff,ff,ff,ff,ff,ff,ff,ff,ff,ff,ff,ff] (by kernel_rfl) rfl rfl ⟨HWd.out.co0, HWd.out.co1, HWd.out.ce0, HWd.out.ce2, HWd.out.cn0, HWd.out.cn1, (HQ1.out _ HWd.out.bel), (HQ2.out _ HWd.out.bel)⟩ (fun hHeld => ?_)
              have HD0 := Aside0.mk HW.out.drew
              generalize wc.drew = u0 at HD0 hHeld ⊢
              refine pure_ (i := 0) (N := some 67) (v := ?_) (a' := ?_) #[tt,ff,ff,ff,ff,ff,ff,ff,ff,ff,ff,ff,ff,ff,ff,ff,ff,ff,ff,ff,ff,ff] rfl rfl (by kernel_rfl) (fun _ _ _ h => h) (Or.inl ⟨by rfl, ?_⟩) ?_ ?_
              rotate_left
              · intro w'
                go_simp
                with_reducible rfl
              rotate_left
              · simp only [Act.put, pkA, pkB, pkC, i64_w, i32_w]
                rfl
              refine pure_ (i := 2) (N := some 69) (v := ?_) (a' := ?_) #[tt,ff,tt,ff,ff,ff,ff,ff,ff,ff,ff,ff,ff,ff,ff,ff,ff,ff,ff,ff,ff,ff] rfl rfl (by kernel_rfl) (fun _ _ _ h => h) (Or.inl ⟨by rfl, ?_⟩) ?_ ?_
              rotate_left
              · intro w'
                go_simp
                with_reducible rfl
              rotate_left
              · simp only [Act.put, pkA, pkB, pkC, i64_w, i32_w]
                rfl
              refine pure_ (i := 4) (N := some 71) (v := ?_) (a' := ?_) #[tt,ff,tt,ff,tt,ff,ff,ff,ff,ff,ff,ff,ff,ff,ff,ff,ff,ff,ff,ff,ff,ff] rfl rfl (by kernel_rfl) (fun _ _ _ h => h) (Or.inl ⟨by rfl, ?_⟩) ?_ ?_
              rotate_left
              · intro w'
                go_simp
                with_reducible rfl
              rotate_left
              · simp only [Act.put, pkA, pkB, pkC, i64_w, i32_w]
                rfl
              refine pure_ (i := 9) (N := some 76) (v := ?_) (a' := ?_) #[tt,ff,tt,ff,tt,ff,ff,ff,ff,tt,ff,ff,ff,ff,ff,ff,ff,ff,ff,ff,ff,ff] rfl rfl (by kernel_rfl) (fun _ _ _ h => h) (Or.inl ⟨by rfl, ?_⟩) ?_ ?_
              rotate_left
              · intro w'
                go_simp
                with_reducible rfl
              rotate_left
              · simp only [Act.put, pkA, pkB, pkC, i64_w, i32_w]
                rfl
              refine pure_ (i := 11) (N := some 78) (v := ?_) (a' := ?_) #[tt,ff,tt,ff,tt,ff,ff,ff,ff,tt,ff,tt,ff,ff,ff,ff,ff,ff,ff,ff,ff,ff] rfl rfl (by kernel_rfl) (fun _ _ _ h => h) (Or.inl ⟨by rfl, ?_⟩) ?_ ?_
              rotate_left
              · intro w'
                go_simp
                with_reducible rfl
              rotate_left
              · simp only [Act.put, pkA, pkB, pkC, i64_w, i32_w]
                rfl
              refine pure_ (i := 13) (N := some 80) (v := ?_) (a' := ?_) #[tt,ff,tt,ff,tt,ff,ff,ff,ff,tt,ff,tt,ff,tt,ff,ff,ff,ff,ff,ff,ff,ff] rfl rfl (by kernel_rfl) (fun _ _ _ h => h) (Or.inl ⟨by rfl, ?_⟩) ?_ ?_
              rotate_left
              · intro w'
                go_simp
                with_reducible rfl
              rotate_left
              · simp only [Act.put, pkA, pkB, pkC, i64_w, i32_w]
                rfl
              refine take_ (i := 1) (N := some 68) (v := ?_) (a' := ?_) #[tt,tt,tt,ff,tt,ff,ff,ff,ff,tt,ff,tt,ff,tt,ff,ff,ff,ff,ff,ff,ff,ff] rfl rfl (by kernel_rfl) (fun _ _ _ h => h) (Or.inl ⟨by rfl, ?_⟩) hHeld ?_ ?_
              rotate_left
              · rintro w' ⟨s0, s1, s2, s3, s4, s5, s6, s7⟩
                go_simp
                with_reducible rfl
              rotate_left
              · simp only [Act.put, pkA, pkB, pkC, i64_w, i32_w]
                rfl
              refine take_ (i := 3) (N := some 70) (v := ?_) (a' := ?_) #[tt,tt,tt,tt,tt,ff,ff,ff,ff,tt,ff,tt,ff,tt,ff,ff,ff,ff,ff,ff,ff,ff] rfl rfl (by kernel_rfl) (fun _ _ _ h => h) (Or.inl ⟨by rfl, ?_⟩) hHeld ?_ ?_
              rotate_left
              · rintro w' ⟨s0, s1, s2, s3, s4, s5, s6, s7⟩
                go_simp
                with_reducible rfl
              rotate_left
              · simp only [Act.put, pkA, pkB, pkC, i64_w, i32_w]
                rfl
              refine pure_ (i := 5) (N := some 72) (v := ?_) (a' := ?_) #[tt,tt,tt,tt,tt,tt,ff,ff,ff,tt,ff,tt,ff,tt,ff,ff,ff,ff,ff,ff,ff,ff] rfl rfl (by kernel_rfl) (fun _ _ _ h => h) (Or.inl ⟨by rfl, ?_⟩) ?_ ?_
              rotate_left
              · intro w'
                go_simp
                with_reducible rfl
              rotate_left
              · simp only [Act.put, pkA, pkB, pkC, i64_w, i32_w]
                rfl
              refine take_ (i := 6) (N := some 73) (v := ?_) (a' := ?_) #[tt,tt,tt,tt,tt,tt,tt,ff,ff,tt,ff,tt,ff,tt,ff,ff,ff,ff,ff,ff,ff,ff] rfl rfl (by kernel_rfl) (fun _ _ _ h => h) (Or.inl ⟨by rfl, ?_⟩) hHeld ?_ ?_
              rotate_left
              · rintro w' ⟨s0, s1, s2, s3, s4, s5, s6, s7⟩
                go_simp
                with_reducible rfl
              rotate_left
              · simp only [Act.put, pkA, pkB, pkC, i64_w, i32_w]
                rfl
              refine take_ (i := 10) (N := some 77) (v := ?_) (a' := ?_) #[tt,tt,tt,tt,tt,tt,tt,ff,ff,tt,tt,tt,ff,tt,ff,ff,ff,ff,ff,ff,ff,ff] rfl rfl (by kernel_rfl) (fun _ _ _ h => h) (Or.inl ⟨by rfl, ?_⟩) hHeld ?_ ?_
              rotate_left
              · rintro w' ⟨s0, s1, s2, s3, s4, s5, s6, s7⟩
                go_simp
                with_reducible rfl
              rotate_left
              · simp only [Act.put, pkA, pkB, pkC, i64_w, i32_w]
                rfl
              refine take_ (i := 12) (N := some 79) (v := ?_) (a' := ?_) #[tt,tt,tt,tt,tt,tt,tt,ff,ff,tt,tt,tt,tt,tt,ff,ff,ff,ff,ff,ff,ff,ff] rfl rfl (by kernel_rfl) (fun _ _ _ h => h) (Or.inl ⟨by rfl, ?_⟩) hHeld ?_ ?_
              rotate_left
              · rintro w' ⟨s0, s1, s2, s3, s4, s5, s6, s7⟩
                go_simp
                with_reducible rfl
              rotate_left
              · simp only [Act.put, pkA, pkB, pkC, i64_w, i32_w]
                rfl
              refine pure_ (i := 14) (N := some 81) (v := ?_) (a' := ?_) #[tt,tt,tt,tt,tt,tt,tt,ff,ff,tt,tt,tt,tt,tt,tt,ff,ff,ff,ff,ff,ff,ff] rfl rfl (by kernel_rfl) (fun _ _ _ h => h) (Or.inl ⟨by rfl, ?_⟩) ?_ ?_
              rotate_left
              · intro w'
                go_simp
                with_reducible rfl
              rotate_left
              · simp only [Act.put, pkA, pkB, pkC, i64_w, i32_w]
                rfl
              refine take_ (i := 15) (N := some 82) (v := ?_) (a' := ?_) #[tt,tt,tt,tt,tt,tt,tt,ff,ff,tt,tt,tt,tt,tt,tt,tt,ff,ff,ff,ff,ff,ff] rfl rfl (by kernel_rfl) (fun _ _ _ h => h) (Or.inl ⟨by rfl, ?_⟩) hHeld ?_ ?_
              rotate_left
              · rintro w' ⟨s0, s1, s2, s3, s4, s5, s6, s7⟩
                go_simp
                with_reducible rfl
              rotate_left
              · simp only [Act.put, pkA, pkB, pkC, i64_w, i32_w]
                rfl
              refine join_ (σ := Value × Nat × Nat) 4 #[tt,tt,tt,tt,tt,tt,tt,tt,tt,tt,tt,tt,tt,tt,tt,tt,tt,ff,tt,ff,ff,ff] (fun s => [(75, s.1), (74, .slice (some ⟨s.2.1, 0, none⟩) 1 1), (83, .slice (some ⟨s.2.2, 0, none⟩) 1 1), (85, .pointer (some ⟨w.heap.size + 1 + 1 + 1, 0, none⟩))]) (fun s w' => DoW w (.slice (some ad1) n c1) (.slice (some ad2) n c2) e nm1 im1 s.1 im1 (namesL M1 ++ [nmS q.1]) (numsL M1) w' ∧ w'.heap[s.2.2]? = some (.cells #[.int .i64 (q.2)] 3 (0, 0))) ?_ ?_
              rotate_left
              · intro hCont
                refine two_ (i := 7) (j := 16) (Ni := some 74) (Nj := some 83) #[tt,tt,tt,tt,tt,tt,tt,tt,ff,tt,tt,tt,tt,tt,tt,tt,ff,ff,ff,ff,ff,ff] #[tt,tt,tt,tt,tt,tt,tt,ff,ff,tt,tt,tt,tt,tt,tt,tt,tt,ff,ff,ff,ff,ff] rfl rfl rfl rfl (by kernel_rfl) (by decide) (by decide) (fun K hK => ?_) (fun K hK => ?_)
                · skip
                  refine value_ (w1 := ?_) (v := ?_) (by rfl) rfl ?_ ?_
                  rotate_left 2
                  · go_simp
                    constructor
                    · rfl
                    · rfl
                  have HD1 := Aside0.mk (HD0.out.alloc (.cells #[.string (nmS q.1)] 9))
                  have HLS1 := Aside0.mk (heap_alloc_new u0 (.cells #[.string (nmS q.1)] 9))
                  generalize u0.alloc (.cells #[.string (nmS q.1)] 9) = u1 at HD1 HLS1 ⊢
                  refine hK.out _ _ ⟨HD1.out.co0, HD1.out.co1, HD1.out.ce0, HD1.out.ce2, HD1.out.cn0, HD1.out.cn1, (HQ1.out _ HD1.out.bel), (HQ2.out _ HD1.out.bel)⟩ (fun hHeld => ?_)
                  clear hK K
                  refine norm_ (a' := ?_) ?_ ?_
                  rotate_left
                  · show Act.put _ (some 74) _ = _
                    simp only [Act.put, pkA, pkB, pkC, i64_w, i32_w]
                    rfl
                  refine two_ (i := 8) (j := 16) (Ni := some 75) (Nj := some 83) #[tt,tt,tt,tt,tt,tt,tt,tt,tt,tt,tt,tt,tt,tt,tt,tt,ff,ff,ff,ff,ff,ff] #[tt,tt,tt,tt,tt,tt,tt,tt,ff,tt,tt,tt,tt,tt,tt,tt,tt,ff,ff,ff,ff,ff] rfl rfl rfl rfl (by kernel_rfl) (by decide) (by decide) (fun K hK => ?_) (fun K hK => ?_)
                  · skip
                    refine Kd.R_append_rows_step Kd.string (w0 := w) w.heap.size (by rfl) (.tmp 68) (.tmp 74) 37 9 (.string ⟨#[]⟩) 16 rfl Tryz.underlying37 infoS rfl (by decide) (by omega) nm1 (namesL M1) [nmS q.1] _ _ _ (fun _ => True) (fun _ => False) rfl rfl ?aO ?aR (fun _ _ h => h) (fun _ h => h.elim) ?aF ?aB ?aS ?aL ?_
                    case aO => exact HD1.out.rn
                    case aR => exact one_str HLS1.out
                    case aF => exact fun _ _ => trivial
                    case aB => exact HD1.out.bel
                    case aS => exact HD1.out.bel.size
                    case aL => have := HMl.out; rw [names_len]; omega
                    intro v1 u2 ho hb hg hat
                    have HD2 := Aside0.mk (HD1.out.addN ho hb hg)
                    clear ho hb hg hat
                    refine hK.out _ _ ⟨HD2.out.co0, HD2.out.co1, HD2.out.ce0, HD2.out.ce2, HD2.out.cn0, HD2.out.cn1, (HQ1.out _ HD2.out.bel), (HQ2.out _ HD2.out.bel)⟩ (fun hHeld => ?_)
                    clear hK K
                    refine norm_ (a' := ?_) ?_ ?_
                    rotate_left
                    · show Act.put _ (some 75) _ = _
                      simp only [Act.put, pkA, pkB, pkC, i64_w, i32_w]
                      rfl
                    refine pure_ (i := 18) (N := some 85) (v := ?_) (a' := ?_) #[tt,tt,tt,tt,tt,tt,tt,tt,tt,tt,tt,tt,tt,tt,tt,tt,ff,ff,tt,ff,ff,ff] rfl rfl (by kernel_rfl) (fun _ _ _ h => h) (Or.inl ⟨by rfl, ?_⟩) ?_ ?_
                    rotate_left
                    · intro w'
                      go_simp
                      with_reducible rfl
                    rotate_left
                    · simp only [Act.put, pkA, pkB, pkC, i64_w, i32_w]
                      rfl
                    refine one_ (i := 16) (N := some 83) #[tt,tt,tt,tt,tt,tt,tt,tt,tt,tt,tt,tt,tt,tt,tt,tt,tt,ff,tt,ff,ff,ff] rfl rfl (by kernel_rfl) (by decide) (fun K hK => ?_)
                    refine value_ (w1 := ?_) (v := ?_) (by rfl) rfl ?_ ?_
                    rotate_left 2
                    · go_simp
                      constructor
                      · rfl
                      · rfl
                    have HD3 := Aside0.mk (HD2.out.alloc (.cells #[.int .i64 (q.2)] 3))
                    have HLI3 := Aside0.mk (heap_alloc_new u2 (.cells #[.int .i64 (q.2)] 3))
                    generalize u2.alloc (.cells #[.int .i64 (q.2)] 3) = u3 at HD3 HLI3 ⊢
                    refine hK.out _ _ ⟨HD3.out.co0, HD3.out.co1, HD3.out.ce0, HD3.out.ce2, HD3.out.cn0, HD3.out.cn1, (HQ1.out _ HD3.out.bel), (HQ2.out _ HD3.out.bel)⟩ (fun hHeld => ?_)
                    clear hK K
                    refine norm_ (a' := ?_) ?_ ?_
                    rotate_left
                    · show Act.put _ (some 83) _ = _
                      simp only [Act.put, pkA, pkB, pkC, i64_w, i32_w]
                      rfl
                    exact norm_ (by simp only [putAll, Act.put, pkA, pkB, pkC]) (hCont (v1, u0.heap.size, u2.heap.size) _ ⟨HD3.out, HLI3.out⟩)
                  · skip
                    refine value_ (w1 := ?_) (v := ?_) (by rfl) rfl ?_ ?_
                    rotate_left 2
                    · go_simp
                      constructor
                      · rfl
                      · rfl
                    have HD2 := Aside0.mk (HD1.out.alloc (.cells #[.int .i64 (q.2)] 3))
                    have HLI2 := Aside0.mk (heap_alloc_new u1 (.cells #[.int .i64 (q.2)] 3))
                    have HLS2 := Aside0.mk (obj_alloc HLS1.out (.cells #[.int .i64 (q.2)] 3))
                    generalize u1.alloc (.cells #[.int .i64 (q.2)] 3) = u2 at HD2 HLI2 HLS2 ⊢
                    refine hK.out _ _ ⟨HD2.out.co0, HD2.out.co1, HD2.out.ce0, HD2.out.ce2, HD2.out.cn0, HD2.out.cn1, (HQ1.out _ HD2.out.bel), (HQ2.out _ HD2.out.bel)⟩ (fun hHeld => ?_)
                    clear hK K
                    refine norm_ (a' := ?_) ?_ ?_
                    rotate_left
                    · show Act.put _ (some 83) _ = _
                      simp only [Act.put, pkA, pkB, pkC, i64_w, i32_w]
                      rfl
                    refine one_ (i := 8) (N := some 75) #[tt,tt,tt,tt,tt,tt,tt,tt,tt,tt,tt,tt,tt,tt,tt,tt,tt,ff,ff,ff,ff,ff] rfl rfl (by kernel_rfl) (by decide) (fun K hK => ?_)
                    refine Kd.R_append_rows_step Kd.string (w0 := w) w.heap.size (by rfl) (.tmp 68) (.tmp 74) 37 9 (.string ⟨#[]⟩) 16 rfl Tryz.underlying37 infoS rfl (by decide) (by omega) nm1 (namesL M1) [nmS q.1] _ _ _ (fun _ => True) (fun _ => False) rfl rfl ?aO ?aR (fun _ _ h => h) (fun _ h => h.elim) ?aF ?aB ?aS ?aL ?_
                    case aO => exact HD2.out.rn
                    case aR => exact one_str HLS2.out
                    case aF => exact fun _ _ => trivial
                    case aB => exact HD2.out.bel
                    case aS => exact HD2.out.bel.size
                    case aL => have := HMl.out; rw [names_len]; omega
                    intro v1 u3 ho hb hg hat
                    have HD3 := Aside0.mk (HD2.out.addN ho hb hg)
                    have HLI3 := Aside0.mk (obj_grown HD2.out.rn hg HLI2.out)
                    clear ho hb hg hat
                    refine hK.out _ _ ⟨HD3.out.co0, HD3.out.co1, HD3.out.ce0, HD3.out.ce2, HD3.out.cn0, HD3.out.cn1, (HQ1.out _ HD3.out.bel), (HQ2.out _ HD3.out.bel)⟩ (fun hHeld => ?_)
                    clear hK K
                    refine norm_ (a' := ?_) ?_ ?_
                    rotate_left
                    · show Act.put _ (some 75) _ = _
                      simp only [Act.put, pkA, pkB, pkC, i64_w, i32_w]
                      rfl
                    refine pure_ (i := 18) (N := some 85) (v := ?_) (a' := ?_) #[tt,tt,tt,tt,tt,tt,tt,tt,tt,tt,tt,tt,tt,tt,tt,tt,tt,ff,tt,ff,ff,ff] rfl rfl (by kernel_rfl) (fun _ _ _ h => h) (Or.inl ⟨by rfl, ?_⟩) ?_ ?_
                    rotate_left
                    · intro w'
                      go_simp
                      with_reducible rfl
                    rotate_left
                    · simp only [Act.put, pkA, pkB, pkC, i64_w, i32_w]
                      rfl
                    exact norm_ (by simp only [putAll, Act.put, pkA, pkB, pkC]) (hCont (v1, u0.heap.size, u1.heap.size) _ ⟨HD3.out, HLI3.out⟩)
                · skip
                  refine value_ (w1 := ?_) (v := ?_) (by rfl) rfl ?_ ?_
                  rotate_left 2
                  · go_simp
                    constructor
                    · rfl
                    · rfl
                  have HD1 := Aside0.mk (HD0.out.alloc (.cells #[.int .i64 (q.2)] 3))
                  have HLI1 := Aside0.mk (heap_alloc_new u0 (.cells #[.int .i64 (q.2)] 3))
                  generalize u0.alloc (.cells #[.int .i64 (q.2)] 3) = u1 at HD1 HLI1 ⊢
                  refine hK.out _ _ ⟨HD1.out.co0, HD1.out.co1, HD1.out.ce0, HD1.out.ce2, HD1.out.cn0, HD1.out.cn1, (HQ1.out _ HD1.out.bel), (HQ2.out _ HD1.out.bel)⟩ (fun hHeld => ?_)
                  clear hK K
                  refine norm_ (a' := ?_) ?_ ?_
                  rotate_left
                  · show Act.put _ (some 83) _ = _
                    simp only [Act.put, pkA, pkB, pkC, i64_w, i32_w]
                    rfl
                  refine one_ (i := 7) (N := some 74) #[tt,tt,tt,tt,tt,tt,tt,tt,ff,tt,tt,tt,tt,tt,tt,tt,tt,ff,ff,ff,ff,ff] rfl rfl (by kernel_rfl) (by decide) (fun K hK => ?_)
                  refine value_ (w1 := ?_) (v := ?_) (by rfl) rfl ?_ ?_
                  rotate_left 2
                  · go_simp
                    constructor
                    · rfl
                    · rfl
                  have HD2 := Aside0.mk (HD1.out.alloc (.cells #[.string (nmS q.1)] 9))
                  have HLS2 := Aside0.mk (heap_alloc_new u1 (.cells #[.string (nmS q.1)] 9))
                  have HLI2 := Aside0.mk (obj_alloc HLI1.out (.cells #[.string (nmS q.1)] 9))
                  generalize u1.alloc (.cells #[.string (nmS q.1)] 9) = u2 at HD2 HLS2 HLI2 ⊢
                  refine hK.out _ _ ⟨HD2.out.co0, HD2.out.co1, HD2.out.ce0, HD2.out.ce2, HD2.out.cn0, HD2.out.cn1, (HQ1.out _ HD2.out.bel), (HQ2.out _ HD2.out.bel)⟩ (fun hHeld => ?_)
                  clear hK K
                  refine norm_ (a' := ?_) ?_ ?_
                  rotate_left
                  · show Act.put _ (some 74) _ = _
                    simp only [Act.put, pkA, pkB, pkC, i64_w, i32_w]
                    rfl
                  refine one_ (i := 8) (N := some 75) #[tt,tt,tt,tt,tt,tt,tt,tt,tt,tt,tt,tt,tt,tt,tt,tt,tt,ff,ff,ff,ff,ff] rfl rfl (by kernel_rfl) (by decide) (fun K hK => ?_)
                  refine Kd.R_append_rows_step Kd.string (w0 := w) w.heap.size (by rfl) (.tmp 68) (.tmp 74) 37 9 (.string ⟨#[]⟩) 16 rfl Tryz.underlying37 infoS rfl (by decide) (by omega) nm1 (namesL M1) [nmS q.1] _ _ _ (fun _ => True) (fun _ => False) rfl rfl ?aO ?aR (fun _ _ h => h) (fun _ h => h.elim) ?aF ?aB ?aS ?aL ?_
                  case aO => exact HD2.out.rn
                  case aR => exact one_str HLS2.out
                  case aF => exact fun _ _ => trivial
                  case aB => exact HD2.out.bel
                  case aS => exact HD2.out.bel.size
                  case aL => have := HMl.out; rw [names_len]; omega
                  intro v1 u3 ho hb hg hat
                  have HD3 := Aside0.mk (HD2.out.addN ho hb hg)
                  have HLI3 := Aside0.mk (obj_grown HD2.out.rn hg HLI2.out)
                  clear ho hb hg hat
                  refine hK.out _ _ ⟨HD3.out.co0, HD3.out.co1, HD3.out.ce0, HD3.out.ce2, HD3.out.cn0, HD3.out.cn1, (HQ1.out _ HD3.out.bel), (HQ2.out _ HD3.out.bel)⟩ (fun hHeld => ?_)
                  clear hK K
                  refine norm_ (a' := ?_) ?_ ?_
                  rotate_left
                  · show Act.put _ (some 75) _ = _
                    simp only [Act.put, pkA, pkB, pkC, i64_w, i32_w]
                    rfl
                  refine pure_ (i := 18) (N := some 85) (v := ?_) (a' := ?_) #[tt,tt,tt,tt,tt,tt,tt,tt,tt,tt,tt,tt,tt,tt,tt,tt,tt,ff,tt,ff,ff,ff] rfl rfl (by kernel_rfl) (fun _ _ _ h => h) (Or.inl ⟨by rfl, ?_⟩) ?_ ?_
                  rotate_left
                  · intro w'
                    go_simp
                    with_reducible rfl
                  rotate_left
                  · simp only [Act.put, pkA, pkB, pkC, i64_w, i32_w]
                    rfl
                  exact norm_ (by simp only [putAll, Act.put, pkA, pkB, pkC]) (hCont (v1, u1.heap.size, u0.heap.size) _ ⟨HD3.out, HLI3.out⟩)
              rintro ⟨v1, ga, gb⟩ u4 ⟨hD4, hL4⟩
              obtain ⟨Av, cv, hv1⟩ := Kd.R_slice hD4.rn
              replace hv1 : v1 = .slice Av ((namesL M1).length + 1) cv := by simpa using hv1
              have HD4 : Aside0 (DoW w (.slice (some ad1) n c1) (.slice (some ad2) n c2) e nm1 im1 v1 im1 (namesL M1 ++ [nmS q.1]) (numsL M1) u4) := ⟨hD4⟩
              have HLI4 : Aside0 (u4.heap[gb]? = some (.cells #[.int .i64 (q.2)] 3 (0, 0))) := ⟨hL4⟩
              clear hD4 hL4
              subst hv1
              have hHeld : u4.cell? ⟨w.heap.size + 1 + 1 + 1, 0, none⟩ = some nm1 ∧ u4.cell? ⟨w.heap.size + 1 + 1 + 1, 1, none⟩ = some im1 ∧ u4.cell? ⟨w.heap.size + 1, 0, none⟩ = some (.string e.name) ∧ u4.cell? ⟨w.heap.size + 1, 2, none⟩ = some (.int .i64 e.file) ∧ u4.cell? ⟨w.heap.size, 0, none⟩ = some (.slice (some ad1) n c1) ∧ u4.cell? ⟨w.heap.size, 1, none⟩ = some (.slice (some ad2) n c2) ∧ u4.cell? (ad1.add k) = some (.string (nmS q.1)) ∧ u4.cell? (ad2.add k) = some (.int .i64 q.2) := ⟨HD4.out.co0, HD4.out.co1, HD4.out.ce0, HD4.out.ce2, HD4.out.cn0, HD4.out.cn1, (HQ1.out _ HD4.out.bel), (HQ2.out _ HD4.out.bel)⟩
              refine norm_ (a' := ?_) ?_ ?_
              rotate_left
              · simp only [putAll, Act.put, pkA, pkB, pkC]
                rfl
              refine one_ (i := 17) (N := some 84) #[tt,tt,tt,tt,tt,tt,tt,tt,tt,tt,tt,tt,tt,tt,tt,tt,tt,tt,tt,ff,ff,ff] rfl rfl (by kernel_rfl) (by decide) (fun K hK => ?_)
              refine Kd.R_append_rows_step (Kd.int .i64) (w0 := w) w.heap.size (by rfl) (.tmp 77) (.tmp 83) 33 3 (.int .i64 0) 8 rfl Tryz.underlying33 infoN rfl (by decide) (by omega) im1 (numsL M1) [q.2] _ _ _ (fun _ => True) (fun _ => False) rfl rfl ?aO ?aR (fun _ _ h => h) (fun _ h => h.elim) ?aF ?aB ?aS ?aL ?_
              case aO => exact HD4.out.ri
              case aR => exact one_int HLI4.out
              case aF => exact fun _ _ => trivial
              case aB => exact HD4.out.bel
              case aS => exact HD4.out.bel.size
              case aL => have := HMl.out; rw [nums_len]; omega
              intro v2 u5 ho hb hg hat
              obtain ⟨Av2, cv2, hv2⟩ := Kd.R_slice ho
              replace hv2 : v2 = .slice Av2 ((numsL M1).length + 1) cv2 := by simpa using hv2
              subst hv2
              have HD5 := Aside0.mk (HD4.out.addI ho hb hg)
              have fz0 := HD5.out.fo 0
              have fz1 := HD5.out.fo 1
              clear ho hb hg hat
              refine hK.out _ _ ⟨HD5.out.co0, HD5.out.co1, HD5.out.ce0, HD5.out.ce2, HD5.out.cn0, HD5.out.cn1, (HQ1.out _ HD5.out.bel), (HQ2.out _ HD5.out.bel)⟩ (fun hHeld => ?_)
              clear hK K
              refine norm_ (a' := ?_) ?_ ?_
              rotate_left
              · show Act.put _ (some 84) _ = _
                simp only [Act.put, pkA, pkB, pkC, i64_w, i32_w]
                rfl
              refine last_ (i := 19) (N := none) #[tt,tt,tt,tt,tt,tt,tt,tt,tt,tt,tt,tt,tt,tt,tt,tt,tt,tt,tt,tt,ff,ff] rfl rfl (by kernel_rfl) (by decide) (fun K hK => ?_)
              refine skip_ (w1 := ?_) (by rfl) rfl ?_ ?_
              rotate_left
              · go_simp
                rfl
              refine hK.out _ _ ?_
              clear hK K
              refine pure_ (i := 20) (N := some 86) (v := ?_) (a' := ?_) #[tt,tt,tt,tt,tt,tt,tt,tt,tt,tt,tt,tt,tt,tt,tt,tt,tt,tt,tt,tt,tt,ff] rfl rfl (by kernel_rfl) (fun _ _ _ h => h) (Or.inl ⟨by rfl, ?_⟩) ?_ ?_
              rotate_left
              · intro w'
                go_simp
                with_reducible rfl
              rotate_left
              · simp only [Act.put, pkA, pkB, pkC, i64_w, i32_w]
                rfl
              refine last_ (i := 21) (N := none) #[tt,tt,tt,tt,tt,tt,tt,tt,tt,tt,tt,tt,tt,tt,tt,tt,tt,tt,tt,tt,tt,tt] rfl rfl (by kernel_rfl) (by decide) (fun K hK => ?_)
              refine skip_ (w1 := ?_) (by rfl) rfl ?_ ?_
              rotate_left
              · go_simp
                rfl
              refine hK.out _ _ ?_
              clear hK K
              refine done_ (by kernel_rfl) ?_
              have HWn := Aside0.mk ((HD5.out.put 0 (.slice Av ((namesL M1).length + 1) cv) (.slice Av ((namesL M1).length + 1) cv) im1 rfl).put 1 (.slice Av2 ((numsL M1).length + 1) cv2) (.slice Av ((namesL M1).length + 1) cv) (.slice Av2 ((numsL M1).length + 1) cv2) rfl)
              have HW := Aside0.mk (show DoW w (.slice (some ad1) n c1) (.slice (some ad2) n c2) e _ _ _ _ (namesL (M1 ++ [q])) (numsL (M1 ++ [q])) _ from by rw [names_snoc, nums_snoc]; exact HWn.out)
              clear HWn HD0 HD4 HLI4 HD5 hHeld fz0 fz1 HWd
              go_wp2
              go_roundw
              case rel => exact ⟨k + 1, put1, _, _, _, by omega, by go_num, rfl, HMN, HW⟩
              case measure => simp [Go.RowKit.intOf]; omega
    · have t1 : decide (k < n) = false := decide_eq_false hlt
      have HE := Aside0.mk (show N.drop k = [] from List.drop_eq_nil_of_le (by have := HNn.out; omega))
      cases put with
      | true =>
        have HMR := Aside0.mk (show M = R by have := HM.out; rw [HE.out, docDo] at this; simpa using this)
        obtain ⟨An, cn, rfl⟩ := Kd.R_slice HW.out.rn
        obtain ⟨Ai, ci, rfl⟩ := Kd.R_slice HW.out.ri
        have z0 := HW.out.co0
        have z1 := HW.out.co1
        have zf0 := blk_frozen HW.out.hr 0
        have zf1 := blk_frozen HW.out.hr 1
        have z2 := (blk_cell HW.out.hr 0).trans (rfl : _ = some (Value.slice none 0 0))
        have z3 := (blk_cell HW.out.hr 1).trans (rfl : _ = some (Value.slice none 0 0))
        have HF := Aside0.mk (fun u u2 => HW.out.res 0 u 1 u2)
        have HG := Aside0.mk (fun u u2 => HW.out.resb u u2)
        go_wp2
        (try simp only [Exit.inBlock, Exit.then])
        refine bodyPost_ret (results_cell_row (fn := Tryz.f105) rfl _ _ (w.heap.size + 1 + 1) tN _ _ _ rfl (HG.out _ _) Tryz.underlying44 rfl (by kernel_rfl)) rfl ?_
        rw [← HMR.out]
        exact ⟨_, _, rfl, (HF.out _ _).1, (HF.out _ _).2.1, (HF.out _ _).2.2⟩
      | false =>
        have HMR := Aside0.mk (show M ++ [(e.name.data.toList, e.file)] = R by have := HM.out; rw [HE.out, docDo] at this; simpa using this)
        go_upto_region 13 with (fail)
        refine start_ (n := 16) (S := fun w' => w'.cell? ⟨w.heap.size + 1 + 1 + 1, 0, none⟩ = some nm ∧ w'.cell? ⟨w.heap.size + 1 + 1 + 1, 1, none⟩ = some im ∧ w'.cell? ⟨w.heap.size + 1, 0, none⟩ = some (.string e.name) ∧ w'.cell? ⟨w.heap.size + 1, 2, none⟩ = some (.int .i64 e.file)) (ds := [13, 15]) #[ff,ff,ff,ff,ff,ff,ff,ff,ff,ff,ff,ff,ff,ff,ff,ff] (by kernel_rfl) rfl rfl ⟨HWd.out.co0, HWd.out.co1, HWd.out.ce0, HWd.out.ce2⟩ (fun hHeld => ?_)
        have HD0 := Aside0.mk HW.out.drew
        generalize wr.drew = u0 at HD0 hHeld ⊢
        refine pure_ (i := 0) (N := some 90) (v := ?_) (a' := ?_) #[tt,ff,ff,ff,ff,ff,ff,ff,ff,ff,ff,ff,ff,ff,ff,ff] rfl rfl (by kernel_rfl) (fun _ _ _ h => h) (Or.inl ⟨by rfl, ?_⟩) ?_ ?_
        rotate_left
        · intro w'
          go_simp
          with_reducible rfl
        rotate_left
        · simp only [Act.put, pkA, pkB, pkC, i64_w, i32_w]
          rfl
        refine pure_ (i := 2) (N := some 92) (v := ?_) (a' := ?_) #[tt,ff,tt,ff,ff,ff,ff,ff,ff,ff,ff,ff,ff,ff,ff,ff] rfl rfl (by kernel_rfl) (fun _ _ _ h => h) (Or.inl ⟨by rfl, ?_⟩) ?_ ?_
        rotate_left
        · intro w'
          go_simp
          with_reducible rfl
        rotate_left
        · simp only [Act.put, pkA, pkB, pkC, i64_w, i32_w]
          rfl
        refine pure_ (i := 6) (N := some 96) (v := ?_) (a' := ?_) #[tt,ff,tt,ff,ff,ff,tt,ff,ff,ff,ff,ff,ff,ff,ff,ff] rfl rfl (by kernel_rfl) (fun _ _ _ h => h) (Or.inl ⟨by rfl, ?_⟩) ?_ ?_
        rotate_left
        · intro w'
          go_simp
          with_reducible rfl
        rotate_left
        · simp only [Act.put, pkA, pkB, pkC, i64_w, i32_w]
          rfl
        refine pure_ (i := 8) (N := some 98) (v := ?_) (a' := ?_) #[tt,ff,tt,ff,ff,ff,tt,ff,tt,ff,ff,ff,ff,ff,ff,ff] rfl rfl (by kernel_rfl) (fun _ _ _ h => h) (Or.inl ⟨by rfl, ?_⟩) ?_ ?_
        rotate_left
        · intro w'
          go_simp
          with_reducible rfl
        rotate_left
        · simp only [Act.put, pkA, pkB, pkC, i64_w, i32_w]
          rfl
        refine take_ (i := 1) (N := some 91) (v := ?_) (a' := ?_) #[tt,tt,tt,ff,ff,ff,tt,ff,tt,ff,ff,ff,ff,ff,ff,ff] rfl rfl (by kernel_rfl) (fun _ _ _ h => h) (Or.inl ⟨by rfl, ?_⟩) hHeld ?_ ?_
        rotate_left
        · rintro w' ⟨s0, s1, s2, s3⟩
          go_simp
          with_reducible rfl
        rotate_left
        · simp only [Act.put, pkA, pkB, pkC, i64_w, i32_w]
          rfl
        refine take_ (i := 3) (N := some 93) (v := ?_) (a' := ?_) #[tt,tt,tt,tt,ff,ff,tt,ff,tt,ff,ff,ff,ff,ff,ff,ff] rfl rfl (by kernel_rfl) (fun _ _ _ h => h) (Or.inl ⟨by rfl, ?_⟩) hHeld ?_ ?_
        rotate_left
        · rintro w' ⟨s0, s1, s2, s3⟩
          go_simp
          with_reducible rfl
        rotate_left
        · simp only [Act.put, pkA, pkB, pkC, i64_w, i32_w]
          rfl
        refine take_ (i := 7) (N := some 97) (v := ?_) (a' := ?_) #[tt,tt,tt,tt,ff,ff,tt,tt,tt,ff,ff,ff,ff,ff,ff,ff] rfl rfl (by kernel_rfl) (fun _ _ _ h => h) (Or.inl ⟨by rfl, ?_⟩) hHeld ?_ ?_
        rotate_left
        · rintro w' ⟨s0, s1, s2, s3⟩
          go_simp
          with_reducible rfl
        rotate_left
        · simp only [Act.put, pkA, pkB, pkC, i64_w, i32_w]
          rfl
        refine take_ (i := 9) (N := some 99) (v := ?_) (a' := ?_) #[tt,tt,tt,tt,ff,ff,tt,tt,tt,tt,ff,ff,ff,ff,ff,ff] rfl rfl (by kernel_rfl) (fun _ _ _ h => h) (Or.inl ⟨by rfl, ?_⟩) hHeld ?_ ?_
        rotate_left
        · rintro w' ⟨s0, s1, s2, s3⟩
          go_simp
          with_reducible rfl
        rotate_left
        · simp only [Act.put, pkA, pkB, pkC, i64_w, i32_w]
          rfl
        refine join_ (σ := Value × Nat × Nat) 4 #[tt,tt,tt,tt,tt,tt,tt,tt,tt,tt,tt,ff,tt,ff,ff,ff] (fun s => [(95, s.1), (94, .slice (some ⟨s.2.1, 0, none⟩) 1 1), (100, .slice (some ⟨s.2.2, 0, none⟩) 1 1), (102, .pointer (some ⟨w.heap.size + 1 + 1 + 1, 0, none⟩))]) (fun s w' => DoW w (.slice A1 n c1) (.slice A2 n c2) e nm im s.1 im (namesL M ++ [e.name]) (numsL M) w' ∧ w'.heap[s.2.2]? = some (.cells #[.int .i64 (e.file)] 3 (0, 0))) ?_ ?_
        rotate_left
        · intro hCont
          refine two_ (i := 4) (j := 10) (Ni := some 94) (Nj := some 100) #[tt,tt,tt,tt,tt,ff,tt,tt,tt,tt,ff,ff,ff,ff,ff,ff] #[tt,tt,tt,tt,ff,ff,tt,tt,tt,tt,tt,ff,ff,ff,ff,ff] rfl rfl rfl rfl (by kernel_rfl) (by decide) (by decide) (fun K hK => ?_) (fun K hK => ?_)
          · skip
            refine value_ (w1 := ?_) (v := ?_) (by rfl) rfl ?_ ?_
            rotate_left 2
            · go_simp
              constructor
              · rfl
              · rfl
            have HD1 := Aside0.mk (HD0.out.alloc (.cells #[.string (e.name)] 9))
            have HLS1 := Aside0.mk (heap_alloc_new u0 (.cells #[.string (e.name)] 9))
            generalize u0.alloc (.cells #[.string (e.name)] 9) = u1 at HD1 HLS1 ⊢
            refine hK.out _ _ ⟨HD1.out.co0, HD1.out.co1, HD1.out.ce0, HD1.out.ce2⟩ (fun hHeld => ?_)
            clear hK K
            refine norm_ (a' := ?_) ?_ ?_
            rotate_left
            · show Act.put _ (some 94) _ = _
              simp only [Act.put, pkA, pkB, pkC, i64_w, i32_w]
              rfl
            refine two_ (i := 5) (j := 10) (Ni := some 95) (Nj := some 100) #[tt,tt,tt,tt,tt,tt,tt,tt,tt,tt,ff,ff,ff,ff,ff,ff] #[tt,tt,tt,tt,tt,ff,tt,tt,tt,tt,tt,ff,ff,ff,ff,ff] rfl rfl rfl rfl (by kernel_rfl) (by decide) (by decide) (fun K hK => ?_) (fun K hK => ?_)
            · skip
              refine Kd.R_append_rows_step Kd.string (w0 := w) w.heap.size (by rfl) (.tmp 91) (.tmp 94) 37 9 (.string ⟨#[]⟩) 16 rfl Tryz.underlying37 infoS rfl (by decide) (by omega) nm (namesL M) [e.name] _ _ _ (fun _ => True) (fun _ => False) rfl rfl ?aO ?aR (fun _ _ h => h) (fun _ h => h.elim) ?aF ?aB ?aS ?aL ?_
              case aO => exact HD1.out.rn
              case aR => exact one_str HLS1.out
              case aF => exact fun _ _ => trivial
              case aB => exact HD1.out.bel
              case aS => exact HD1.out.bel.size
              case aL => have := HMl.out; rw [names_len]; omega
              intro v1 u2 ho hb hg hat
              have HD2 := Aside0.mk (HD1.out.addN ho hb hg)
              clear ho hb hg hat
              refine hK.out _ _ ⟨HD2.out.co0, HD2.out.co1, HD2.out.ce0, HD2.out.ce2⟩ (fun hHeld => ?_)
              clear hK K
              refine norm_ (a' := ?_) ?_ ?_
              rotate_left
              · show Act.put _ (some 95) _ = _
                simp only [Act.put, pkA, pkB, pkC, i64_w, i32_w]
                rfl
              refine pure_ (i := 12) (N := some 102) (v := ?_) (a' := ?_) #[tt,tt,tt,tt,tt,tt,tt,tt,tt,tt,ff,ff,tt,ff,ff,ff] rfl rfl (by kernel_rfl) (fun _ _ _ h => h) (Or.inl ⟨by rfl, ?_⟩) ?_ ?_
              rotate_left
              · intro w'
                go_simp
                with_reducible rfl
              rotate_left
              · simp only [Act.put, pkA, pkB, pkC, i64_w, i32_w]
                rfl
              refine one_ (i := 10) (N := some 100) #[tt,tt,tt,tt,tt,tt,tt,tt,tt,tt,tt,ff,tt,ff,ff,ff] rfl rfl (by kernel_rfl) (by decide) (fun K hK => ?_)
              refine value_ (w1 := ?_) (v := ?_) (by rfl) rfl ?_ ?_
              rotate_left 2
              · go_simp
                constructor
                · rfl
                · rfl
              have HD3 := Aside0.mk (HD2.out.alloc (.cells #[.int .i64 (e.file)] 3))
              have HLI3 := Aside0.mk (heap_alloc_new u2 (.cells #[.int .i64 (e.file)] 3))
              generalize u2.alloc (.cells #[.int .i64 (e.file)] 3) = u3 at HD3 HLI3 ⊢
              refine hK.out _ _ ⟨HD3.out.co0, HD3.out.co1, HD3.out.ce0, HD3.out.ce2⟩ (fun hHeld => ?_)
              clear hK K
              refine norm_ (a' := ?_) ?_ ?_
              rotate_left
              · show Act.put _ (some 100) _ = _
                simp only [Act.put, pkA, pkB, pkC, i64_w, i32_w]
                rfl
              exact norm_ (by simp only [putAll, Act.put, pkA, pkB, pkC]) (hCont (v1, u0.heap.size, u2.heap.size) _ ⟨HD3.out, HLI3.out⟩)
            · skip
              refine value_ (w1 := ?_) (v := ?_) (by rfl) rfl ?_ ?_
              rotate_left 2
              · go_simp
                constructor
                · rfl
                · rfl
              have HD2 := Aside0.mk (HD1.out.alloc (.cells #[.int .i64 (e.file)] 3))
              have HLI2 := Aside0.mk (heap_alloc_new u1 (.cells #[.int .i64 (e.file)] 3))
              have HLS2 := Aside0.mk (obj_alloc HLS1.out (.cells #[.int .i64 (e.file)] 3))
              generalize u1.alloc (.cells #[.int .i64 (e.file)] 3) = u2 at HD2 HLI2 HLS2 ⊢
              refine hK.out _ _ ⟨HD2.out.co0, HD2.out.co1, HD2.out.ce0, HD2.out.ce2⟩ (fun hHeld => ?_)
              clear hK K
              refine norm_ (a' := ?_) ?_ ?_
              rotate_left
              · show Act.put _ (some 100) _ = _
                simp only [Act.put, pkA, pkB, pkC, i64_w, i32_w]
                rfl
              refine one_ (i := 5) (N := some 95) #[tt,tt,tt,tt,tt,tt,tt,tt,tt,tt,tt,ff,ff,ff,ff,ff] rfl rfl (by kernel_rfl) (by decide) (fun K hK => ?_)
              refine Kd.R_append_rows_step Kd.string (w0 := w) w.heap.size (by rfl) (.tmp 91) (.tmp 94) 37 9 (.string ⟨#[]⟩) 16 rfl Tryz.underlying37 infoS rfl (by decide) (by omega) nm (namesL M) [e.name] _ _ _ (fun _ => True) (fun _ => False) rfl rfl ?aO ?aR (fun _ _ h => h) (fun _ h => h.elim) ?aF ?aB ?aS ?aL ?_
              case aO => exact HD2.out.rn
              case aR => exact one_str HLS2.out
              case aF => exact fun _ _ => trivial
              case aB => exact HD2.out.bel
              case aS => exact HD2.out.bel.size
              case aL => have := HMl.out; rw [names_len]; omega
              intro v1 u3 ho hb hg hat
              have HD3 := Aside0.mk (HD2.out.addN ho hb hg)
              have HLI3 := Aside0.mk (obj_grown HD2.out.rn hg HLI2.out)
              clear ho hb hg hat
              refine hK.out _ _ ⟨HD3.out.co0, HD3.out.co1, HD3.out.ce0, HD3.out.ce2⟩ (fun hHeld => ?_)
              clear hK K
              refine norm_ (a' := ?_) ?_ ?_
              rotate_left
              · show Act.put _ (some 95) _ = _
                simp only [Act.put, pkA, pkB, pkC, i64_w, i32_w]
                rfl
              refine pure_ (i := 12) (N := some 102) (v := ?_) (a' := ?_) #[tt,tt,tt,tt,tt,tt,tt,tt,tt,tt,tt,ff,tt,ff,ff,ff] rfl rfl (by kernel_rfl) (fun _ _ _ h => h) (Or.inl ⟨by rfl, ?_⟩) ?_ ?_
              rotate_left
              · intro w'
                go_simp
                with_reducible rfl
              rotate_left
              · simp only [Act.put, pkA, pkB, pkC, i64_w, i32_w]
                rfl
              exact norm_ (by simp only [putAll, Act.put, pkA, pkB, pkC]) (hCont (v1, u0.heap.size, u1.heap.size) _ ⟨HD3.out, HLI3.out⟩)
          · skip
            refine value_ (w1 := ?_) (v := ?_) (by rfl) rfl ?_ ?_
            rotate_left 2
            · go_simp
              constructor
              · rfl
              · rfl
            have HD1 := Aside0.mk (HD0.out.alloc (.cells #[.int .i64 (e.file)] 3))
            have HLI1 := Aside0.mk (heap_alloc_new u0 (.cells #[.int .i64 (e.file)] 3))
            generalize u0.alloc (.cells #[.int .i64 (e.file)] 3) = u1 at HD1 HLI1 ⊢
            refine hK.out _ _ ⟨HD1.out.co0, HD1.out.co1, HD1.out.ce0, HD1.out.ce2⟩ (fun hHeld => ?_)
            clear hK K
            refine norm_ (a' := ?_) ?_ ?_
            rotate_left
            · show Act.put _ (some 100) _ = _
              simp only [Act.put, pkA, pkB, pkC, i64_w, i32_w]
              rfl
            refine one_ (i := 4) (N := some 94) #[tt,tt,tt,tt,tt,ff,tt,tt,tt,tt,tt,ff,ff,ff,ff,ff] rfl rfl (by kernel_rfl) (by decide) (fun K hK => ?_)
            refine value_ (w1 := ?_) (v := ?_) (by rfl) rfl ?_ ?_
            rotate_left 2
            · go_simp
              constructor
              · rfl
              · rfl
            have HD2 := Aside0.mk (HD1.out.alloc (.cells #[.string (e.name)] 9))
            have HLS2 := Aside0.mk (heap_alloc_new u1 (.cells #[.string (e.name)] 9))
            have HLI2 := Aside0.mk (obj_alloc HLI1.out (.cells #[.string (e.name)] 9))
            generalize u1.alloc (.cells #[.string (e.name)] 9) = u2 at HD2 HLS2 HLI2 ⊢
            refine hK.out _ _ ⟨HD2.out.co0, HD2.out.co1, HD2.out.ce0, HD2.out.ce2⟩ (fun hHeld => ?_)
            clear hK K
            refine norm_ (a' := ?_) ?_ ?_
            rotate_left
            · show Act.put _ (some 94) _ = _
              simp only [Act.put, pkA, pkB, pkC, i64_w, i32_w]
              rfl
            refine one_ (i := 5) (N := some 95) #[tt,tt,tt,tt,tt,tt,tt,tt,tt,tt,tt,ff,ff,ff,ff,ff] rfl rfl (by kernel_rfl) (by decide) (fun K hK => ?_)
            refine Kd.R_append_rows_step Kd.string (w0 := w) w.heap.size (by rfl) (.tmp 91) (.tmp 94) 37 9 (.string ⟨#[]⟩) 16 rfl Tryz.underlying37 infoS rfl (by decide) (by omega) nm (namesL M) [e.name] _ _ _ (fun _ => True) (fun _ => False) rfl rfl ?aO ?aR (fun _ _ h => h) (fun _ h => h.elim) ?aF ?aB ?aS ?aL ?_
            case aO => exact HD2.out.rn
            case aR => exact one_str HLS2.out
            case aF => exact fun _ _ => trivial
            case aB => exact HD2.out.bel
            case aS => exact HD2.out.bel.size
            case aL => have := HMl.out; rw [names_len]; omega
            intro v1 u3 ho hb hg hat
            have HD3 := Aside0.mk (HD2.out.addN ho hb hg)
            have HLI3 := Aside0.mk (obj_grown HD2.out.rn hg HLI2.out)
            clear ho hb hg hat
            refine hK.out _ _ ⟨HD3.out.co0, HD3.out.co1, HD3.out.ce0, HD3.out.ce2⟩ (fun hHeld => ?_)
            clear hK K
            refine norm_ (a' := ?_) ?_ ?_
            rotate_left
            · show Act.put _ (some 95) _ = _
              simp only [Act.put, pkA, pkB, pkC, i64_w, i32_w]
              rfl
            refine pure_ (i := 12) (N := some 102) (v := ?_) (a' := ?_) #[tt,tt,tt,tt,tt,tt,tt,tt,tt,tt,tt,ff,tt,ff,ff,ff] rfl rfl (by kernel_rfl) (fun _ _ _ h => h) (Or.inl ⟨by rfl, ?_⟩) ?_ ?_
            rotate_left
            · intro w'
              go_simp
              with_reducible rfl
            rotate_left
            · simp only [Act.put, pkA, pkB, pkC, i64_w, i32_w]
              rfl
            exact norm_ (by simp only [putAll, Act.put, pkA, pkB, pkC]) (hCont (v1, u1.heap.size, u0.heap.size) _ ⟨HD3.out, HLI3.out⟩)
        rintro ⟨v1, ga, gb⟩ u4 ⟨hD4, hL4⟩
        obtain ⟨Av, cv, hv1⟩ := Kd.R_slice hD4.rn
        replace hv1 : v1 = .slice Av ((namesL M).length + 1) cv := by simpa using hv1
        have HD4 : Aside0 (DoW w (.slice A1 n c1) (.slice A2 n c2) e nm im v1 im (namesL M ++ [e.name]) (numsL M) u4) := ⟨hD4⟩
        have HLI4 : Aside0 (u4.heap[gb]? = some (.cells #[.int .i64 (e.file)] 3 (0, 0))) := ⟨hL4⟩
        clear hD4 hL4
        subst hv1
        have hHeld : u4.cell? ⟨w.heap.size + 1 + 1 + 1, 0, none⟩ = some nm ∧ u4.cell? ⟨w.heap.size + 1 + 1 + 1, 1, none⟩ = some im ∧ u4.cell? ⟨w.heap.size + 1, 0, none⟩ = some (.string e.name) ∧ u4.cell? ⟨w.heap.size + 1, 2, none⟩ = some (.int .i64 e.file) := ⟨HD4.out.co0, HD4.out.co1, HD4.out.ce0, HD4.out.ce2⟩
        refine norm_ (a' := ?_) ?_ ?_
        rotate_left
        · simp only [putAll, Act.put, pkA, pkB, pkC]
          rfl
        refine one_ (i := 11) (N := some 101) #[tt,tt,tt,tt,tt,tt,tt,tt,tt,tt,tt,tt,tt,ff,ff,ff] rfl rfl (by kernel_rfl) (by decide) (fun K hK => ?_)
        refine Kd.R_append_rows_step (Kd.int .i64) (w0 := w) w.heap.size (by rfl) (.tmp 97) (.tmp 100) 33 3 (.int .i64 0) 8 rfl Tryz.underlying33 infoN rfl (by decide) (by omega) im (numsL M) [e.file] _ _ _ (fun _ => True) (fun _ => False) rfl rfl ?aO ?aR (fun _ _ h => h) (fun _ h => h.elim) ?aF ?aB ?aS ?aL ?_
        case aO => exact HD4.out.ri
        case aR => exact one_int HLI4.out
        case aF => exact fun _ _ => trivial
        case aB => exact HD4.out.bel
        case aS => exact HD4.out.bel.size
        case aL => have := HMl.out; rw [nums_len]; omega
        intro v2 u5 ho hb hg hat
        obtain ⟨Av2, cv2, hv2⟩ := Kd.R_slice ho
        replace hv2 : v2 = .slice Av2 ((numsL M).length + 1) cv2 := by simpa using hv2
        subst hv2
        have HD5 := Aside0.mk (HD4.out.addI ho hb hg)
        have fz0 := HD5.out.fo 0
        have fz1 := HD5.out.fo 1
        clear ho hb hg hat
        refine hK.out _ _ ⟨HD5.out.co0, HD5.out.co1, HD5.out.ce0, HD5.out.ce2⟩ (fun hHeld => ?_)
        clear hK K
        refine norm_ (a' := ?_) ?_ ?_
        rotate_left
        · show Act.put _ (some 101) _ = _
          simp only [Act.put, pkA, pkB, pkC, i64_w, i32_w]
          rfl
        refine last_ (i := 13) (N := none) #[tt,tt,tt,tt,tt,tt,tt,tt,tt,tt,tt,tt,tt,tt,ff,ff] rfl rfl (by kernel_rfl) (by decide) (fun K hK => ?_)
        refine skip_ (w1 := ?_) (by rfl) rfl ?_ ?_
        rotate_left
        · go_simp
          rfl
        refine hK.out _ _ ?_
        clear hK K
        refine pure_ (i := 14) (N := some 103) (v := ?_) (a' := ?_) #[tt,tt,tt,tt,tt,tt,tt,tt,tt,tt,tt,tt,tt,tt,tt,ff] rfl rfl (by kernel_rfl) (fun _ _ _ h => h) (Or.inl ⟨by rfl, ?_⟩) ?_ ?_
        rotate_left
        · intro w'
          go_simp
          with_reducible rfl
        rotate_left
        · simp only [Act.put, pkA, pkB, pkC, i64_w, i32_w]
          rfl
        refine last_ (i := 15) (N := none) #[tt,tt,tt,tt,tt,tt,tt,tt,tt,tt,tt,tt,tt,tt,tt,tt] rfl rfl (by kernel_rfl) (by decide) (fun K hK => ?_)
        refine skip_ (w1 := ?_) (by rfl) rfl ?_ ?_
        rotate_left
        · go_simp
          rfl
        refine hK.out _ _ ?_
        clear hK K
        refine done_ (by kernel_rfl) ?_
        have HWn := Aside0.mk ((HD5.out.put 0 (.slice Av ((namesL M).length + 1) cv) (.slice Av ((namesL M).length + 1) cv) im rfl).put 1 (.slice Av2 ((numsL M).length + 1) cv2) (.slice Av ((namesL M).length + 1) cv) (.slice Av2 ((numsL M).length + 1) cv2) rfl)
        have HW := Aside0.mk (show DoW w (.slice A1 n c1) (.slice A2 n c2) e _ _ _ _ (namesL (M ++ [(e.name.data.toList, e.file)])) (numsL (M ++ [(e.name.data.toList, e.file)])) _ from by rw [names_snoc, nums_snoc, nmS_data]; exact HWn.out)
        clear HWn HD0 HD4 HLI4 HD5 hHeld fz0 fz1 HWd HMl
        have z0 := HW.out.co0
        have z1 := HW.out.co1
        have zf0 := blk_frozen HW.out.hr 0
        have zf1 := blk_frozen HW.out.hr 1
        have z2 := (blk_cell HW.out.hr 0).trans (rfl : _ = some (Value.slice none 0 0))
        have z3 := (blk_cell HW.out.hr 1).trans (rfl : _ = some (Value.slice none 0 0))
        have HF := Aside0.mk (fun u u2 => HW.out.res 0 u 1 u2)
        have HG := Aside0.mk (fun u u2 => HW.out.resb u u2)
        go_wp2
        (try simp only [Exit.inBlock, Exit.then])
        refine bodyPost_ret (results_cell_row (fn := Tryz.f105) rfl _ _ (w.heap.size + 1 + 1) tN _ _ _ rfl (HG.out _ _) Tryz.underlying44 rfl (by kernel_rfl)) rfl ?_
        rw [← HMR.out]
        exact ⟨_, _, rfl, (HF.out _ _).1, (HF.out _ _).2.1, (HF.out _ _).2.2⟩
end Go.Proofs.YtpcfnkmljchiiaaGreatDoor.DRdo
