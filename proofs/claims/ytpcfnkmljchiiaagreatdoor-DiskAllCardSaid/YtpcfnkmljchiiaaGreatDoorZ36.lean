/- Steps towards RDiskAll: DRne. -/
import Derived.Test.YtpcfnkmljchiiaaGreatDoorZ35
set_option linter.unusedVariables false
set_option linter.unusedSimpArgs false
/- The document's Change. Written by a program of mine (gench.py). -/
namespace Go.Proofs.YtpcfnkmljchiiaaGreatDoor.DRne
open Go Go.RowKit Go.Maps Go.Proofs.YtpcfnkmljchiiaaGreatDoorW.PrintWords Go.Proofs.YtpcfnkmljchiiaaGreatDoorW.PrintLast DPl DAt DRf DRn DRd DRl DRt DDo DRdp DRnw DRak DRau DRlm DRna DRnb DRnd DRnf GRef DFil DCh2 DOps DSd DCr DRen Right
section
variable {B p : Nat} {D : Dsk} {w w1 w2 w3 : World} {L : List (Nat × Value)} {fv nv iv ov : Value}
/-- What Change answers: how 1 (b1): at the end; how 3 (b3): a cut. -/
def chgD (D : Dsk) (s : ByteArray) (b1 b3 : Bool) (n : Int) (b : List Int) : Option Int × Dsk := fileOp D s fun i f => if (if b1 = true then (f.now.length : Int) else n) < 0 ∨ (f.now.length : Int) < (if b1 = true then (f.now.length : Int) else n) then (some 1, D) else changedD D i f ⟨(if b1 = true then (f.now.length : Int) else n).toNat, b, b3⟩
theorem chg_append (D : Dsk) (s : ByteArray) (n : Int) (b : List Int) : chgD D s true false n b = appendD D s b := by
  unfold chgD appendD
  congr 1
  funext i f
  simp only [if_true]
  rw [if_neg (by omega), Int.toNat_natCast]
theorem chg_write (D : Dsk) (s : ByteArray) (n : Int) (b : List Int) : chgD D s false false n b = writeD D s n b := rfl
theorem chg_trunc (D : Dsk) (s : ByteArray) (n : Int) : chgD D s false true n [] = truncD D s n := rfl
theorem infoS3 : (Tryz.prog.info? 147).map (fun i => (i.zero, i.size, i.bytes)) = some (some (.agg #[.int .i64 0, .string ⟨#[]⟩, .bool false]), 3, 32) := by kernel_rfl
/-- A step more of a file. -/
theorem rmore (h : RLies B w p D L fv nv iv ov) (i : Nat) (x : Nat × Value) (f : Fil) (hx : L[i]? = some x) (hf : D.files[i]? = some f) (c : Chg) (l : List Int) {v1 : Value} (hE : StpsAt B w1 v1 (f.opn ++ [c])) (hg : w.grownBy w1 x.2.ownBlock) (hat : v1.ownBlock = x.2.ownBlock ∨ ∃ b, v1.ownBlock = some b ∧ w.heap.size ≤ b) :
    RLies B (w1.setCell ⟨x.1, 1, none⟩ v1) p { D with files := D.files.set i ⟨l, f.sure, f.opn ++ [c]⟩ } (L.set i (x.1, v1)) fv nv iv ov ∧ RTurn B w (w1.setCell ⟨x.1, 1, none⟩ v1) := by
  obtain ⟨ho, hop⟩ := h.files.each i x f hx hf
  obtain ⟨inner, how⟩ := own_of hop
  have n5 : some x.1 ≠ x.2.ownBlock := fun e => by obtain ⟨cs, hc⟩ := own_typed how _ e.symm; rw [ho] at hc; cases hc
  have hk := But.grown hg
  have o1 := hk.obj ho n5
  have hs := But.setCell w1 ⟨x.1, 1, none⟩ v1
  have lo := h.files.lo x (List.mem_of_getElem? hx)
  have nx : ∀ qs : List Nat, tRF ∉ qs → Not w1 (some x.1) qs := fun qs hq => Not.cells (t := tRF) (fun g hg => by obtain rfl := Option.some.inj hg; exact ⟨_, _, o1⟩) (fun q hq2 e => hq (e ▸ hq2))
  refine ⟨refile h i x f hx hf (Nat.le_trans hk.1 hs.1) (fun k hkl h1 h2 => ?_) v1 ⟨l, f.sure, f.opn ++ [c]⟩ ⟨blk_put o1 1 v1 rfl, R_row hE hs (nx _ (by decide))⟩ (.inr hat), ((RTurn.refl B w).own how rfl hg).setCell o1 rfl lo 1 v1⟩
  exact (hs.2 k (Nat.lt_of_lt_of_le hkl hk.1) (fun e => h1 (Option.some.inj e))).trans (hk.2 k hkl (fun e => h2 e.symm))
set_option maxRecDepth 100000 in
set_option maxHeartbeats 16000000 in
theorem rchange_calls (s : ByteArray) (hs : s.size < 9223372036854775807) (how n : Int) (b1 b3 : Bool) (hb1 : (how == 1) = b1) (hb3 : (how == 3) = b3) (b : List Int) (hbl : b.length ≤ 1000000) (h : RDiskAt B w p D) (hk : D.Ok) (hst : D.steps ≤ 999999999) (hri : Rising D.sure) :
    Calls Tryz.prog 39 #[.pointer (some ⟨p, 0, none⟩), .string s, .int .i64 how, .int .i64 n, .string (strOfNums b)] w fun e w' => e = .returned (.int .i64 (numE (chgD D s b1 b3 n b).1)) ∧ RDiskAt B w' p (chgD D s b1 b3 n b).2 ∧ RTurn B w w' := by
  have HD := Aside0.mk h
  have HA := Aside0.mk (ask1_calls B p D s hs w h hk (by omega) hri)
  cases hq : fileE D s with
  | some c =>
    obtain ⟨t1, t2⟩ := numE_pos (fileE_in hq)
    have HR := Aside0.mk (show chgD D s b1 b3 n b = (some c, D) from fileOp_no hq _)
    rw [hq] at HA
    clear h hk hst hri hq
    go_enter Tryz.func39, Tryz.ntmps39
    go_wp2_with (go_at_call 95; refine HA.out.mono ?_; rintro e w1 ⟨rfl, hb1⟩; have HB := Aside0.mk hb1; clear hb1; simp only [numE])
    go_ret
    rw [HR.out]
    exact ⟨rfl, HD.out.keep HB.out, RTurn.of_below HB.out⟩
  | none =>
    obtain ⟨i, f, hi, hf⟩ := file_at hk hq
    have HR := Aside0.mk (show chgD D s b1 b3 n b = if (if b1 = true then (f.now.length : Int) else n) < 0 ∨ (f.now.length : Int) < (if b1 = true then (f.now.length : Int) else n) then (some 1, D) else changedD D i f ⟨(if b1 = true then (f.now.length : Int) else n).toNat, b, b3⟩ from fileOp_ok hq hi hf _)
    rw [hq] at HA
    obtain ⟨L, fv, nv, iv, ov, hl⟩ := h
    have HL := Aside0.mk hl
    have HS := Aside0.mk (fun (U : World) (hu : RLies B U p D L fv nv iv ov) => rstepL hu hk (show D.steps ≤ 1000000000 by omega))
    have HNm := Aside0.mk (fun (U : World) (hb : Below w.heap.size w U) => names_calls B p D U ⟨L, fv, nv, iv, ov, same hl hb⟩ hk (by omega) hri)
    have HUs := Aside0.mk (fun (U : World) (hu : RLies B U p D L fv nv iv ov) => rused_calls B p D U ⟨L, fv, nv, iv, ov, hu⟩ hk (by omega) hri)
    have HUl := Aside0.mk (show (usedD D : Int) ≤ 1073741824000000000 by
      have h1 := used_le_take hk D.now D.now.length
      rw [List.take_length] at h1
      have h2 := now_len hk (show D.steps ≤ 1000000000 by omega)
      show ((usedL D.files D.now : Nat) : Int) ≤ _
      omega)
    have HLn := Aside0.mk (now_len hk (show D.steps ≤ 1000000000 by omega))
    have HFi := Aside0.mk (show fileI D.now s.data.toList = (i : Int) by unfold fileI; rw [if_pos (fileE_none hq).2, hi])
    have HF := Aside0.mk hf
    have hil := (List.getElem?_eq_some_iff.1 hf).1
    obtain ⟨x, hx⟩ : ∃ x, L[i]? = some x := ⟨_, List.getElem?_eq_getElem (by rw [hl.files.len]; exact hil)⟩
    have HX := Aside0.mk hx
    have HFk := Aside0.mk (hk.fil f (List.mem_of_getElem? hf))
    have HSt := Aside0.mk hst
    have HQt := Aside0.mk (And.intro hk.quota0 hk.quota1)
    have hFl : D.files.length ≤ 1000000000 := by have := hk.cntF; omega
    have hLl := hl.files.len
    have hBp := hl.lop
    clear hk hst hri hq hi hf hx hl
    go_enter Tryz.func39, Tryz.ntmps39
    go_upto_region 4 with (go_at_call 95; refine HA.out.mono ?_; rintro e w1 ⟨rfl, hb1⟩; have HB := Aside0.mk hb1; clear hb1; simp only [numE])
    have HB3 := Aside0.mk (show Below w.heap.size w w1.drew from HB.out.drew)
    have HL3 := Aside0.mk (same HL.out HB3.out)
    obtain ⟨g, cp, ef, hcp, hg⟩ := rptr_at HL3.out.ptrs i x.1 (by rw [List.getElem?_map, HX.out]; rfl)
    rw [List.length_map, hLl] at ef
    have z0 := (blk_cell HL3.out.obj 0).trans (rfl : _ = some fv)
    rw [ef] at z0
    have i0 : (0 : Int) ≤ (i : Int) := by omega
    have i1 : (i : Int) < (D.files.length : Int) := by omega
    obtain ⟨nF, hnF⟩ : ∃ nF, nF = D.files.length := ⟨_, rfl⟩
    rw [← hnF] at z0 i1 hFl
    clear HB hcp ef hil hLl hnF
    refine start_ (n := 11) (S := fun w' => w'.cell? ⟨p, 0, none⟩ = some (.slice (some ⟨g, 0, none⟩) nF cp) ∧ w'.cell? ⟨g, i, none⟩ = some (.pointer (some ⟨x.1, 0, none⟩))) (ds := []) #[ff,ff,ff,ff,ff,ff,ff,ff,ff,ff,ff] (by kernel_rfl) rfl rfl ⟨z0, hg⟩ (fun hHeld => ?_)
    generalize w1.drew = w3 at HB3 HL3 z0 hg hHeld ⊢
    have hHeld0 := hHeld
    refine pure_ (i := 0) (N := some 23) (v := ?_) (a' := ?_) #[tt,ff,ff,ff,ff,ff,ff,ff,ff,ff,ff] rfl rfl (by kernel_rfl) (fun _ _ _ h => h) (Or.inl ⟨by rfl, ?_⟩) ?_ ?_
    rotate_left
    · intro w'
      go_simp
      with_reducible rfl
    rotate_left
    · simp only [Act.put, pkA, pkB, pkC, i64_w, i32_w]
      rfl
    refine pure_ (i := 1) (N := some 24) (v := ?_) (a' := ?_) #[tt,tt,ff,ff,ff,ff,ff,ff,ff,ff,ff] rfl rfl (by kernel_rfl) (fun _ _ _ h => h) (Or.inl ⟨by rfl, ?_⟩) ?_ ?_
    rotate_left
    · intro w'
      go_simp
      with_reducible rfl
    rotate_left
    · simp only [Act.put, pkA, pkB, pkC, i64_w, i32_w]
      rfl
    refine pure_ (i := 2) (N := some 25) (v := ?_) (a' := ?_) #[tt,tt,tt,ff,ff,ff,ff,ff,ff,ff,ff] rfl rfl (by kernel_rfl) (fun _ _ _ h => h) (Or.inl ⟨by rfl, ?_⟩) ?_ ?_
    rotate_left
    · intro w'
      go_simp
      with_reducible rfl
    rotate_left
    · simp only [Act.put, pkA, pkB, pkC, i64_w, i32_w]
      rfl
    refine pure_ (i := 4) (N := some 27) (v := ?_) (a' := ?_) #[tt,tt,tt,ff,tt,ff,ff,ff,ff,ff,ff] rfl rfl (by kernel_rfl) (fun _ _ _ h => h) (Or.inl ⟨by rfl, ?_⟩) ?_ ?_
    rotate_left
    · intro w'
      go_simp
      with_reducible rfl
    rotate_left
    · simp only [Act.put, pkA, pkB, pkC, i64_w, i32_w]
      rfl
    refine pure_ (i := 6) (N := some 29) (v := ?_) (a' := ?_) #[tt,tt,tt,ff,tt,ff,tt,ff,ff,ff,ff] rfl rfl (by kernel_rfl) (fun _ _ _ h => h) (Or.inl ⟨by rfl, ?_⟩) ?_ ?_
    rotate_left
    · intro w'
      go_simp
      with_reducible rfl
    rotate_left
    · simp only [Act.put, pkA, pkB, pkC, i64_w, i32_w]
      rfl
    refine take_ (i := 3) (N := some 26) (v := ?_) (a' := ?_) #[tt,tt,tt,tt,tt,ff,tt,ff,ff,ff,ff] rfl rfl (by kernel_rfl) (fun _ _ _ h => h) (Or.inl ⟨by rfl, ?_⟩) hHeld ?_ ?_
    rotate_left
    · rintro w' ⟨s0, s1⟩
      go_simp
      with_reducible rfl
    rotate_left
    · simp only [Act.put, pkA, pkB, pkC, i64_w, i32_w]
      rfl
    refine one_ (i := 5) (N := some 28) #[tt,tt,tt,tt,tt,tt,tt,ff,ff,ff,ff] rfl rfl (by kernel_rfl) (by decide) (fun K hK => ?_)
    refine goes_ Tryz.func96 (by kernel_rfl) rfl #[.pointer (some ⟨p, 0, none⟩)] (by rfl) rfl rfl (by simp only [List.map_toArray, List.map_cons, List.map_nil]; rfl) ?_
    with_reducible refine (HNm.out _ HB3.out).mono ?_
    rintro e w4 ⟨nv2, iv2, rfl, hn2, hb4⟩
    refine ⟨_, rfl, ?_⟩
    have HB4 := Aside0.mk hb4
    have HLk := Aside0.mk (file_calls hn2 HLn.out s)
    rw [HFi.out] at HLk
    have k4 := fun (g i : Nat) (v : Value) (hc : w3.cell? ⟨g, i, none⟩ = some v) => (hb4.cell (p := ⟨g, i, none⟩) (World.block_lt_of_cell? w3 _ hc)).trans hc
    clear hn2 hb4
    refine hK.out _ _ ⟨(k4 _ _ _ hHeld0.1), (k4 _ _ _ hHeld0.2)⟩ (fun hHeld => ?_)
    clear hK K
    refine norm_ (a' := ?_) ?_ ?_
    rotate_left
    · show Act.put _ (some 28) _ = _
      simp only [Act.put, pkA, pkB, pkC, i64_w, i32_w]
      rfl
    refine one_ (i := 7) (N := some 30) #[tt,tt,tt,tt,tt,tt,tt,tt,ff,ff,ff] rfl rfl (by kernel_rfl) (by decide) (fun K hK => ?_)
    refine goes_ Tryz.func99 (by kernel_rfl) rfl #[.agg #[nv2, iv2], .string s] (by rfl) rfl rfl (by simp only [List.map_toArray, List.map_cons, List.map_nil]; rfl) ?_
    with_reducible refine (HLk.out).mono ?_
    rintro e w5 ⟨rfl, hb5⟩
    refine ⟨_, rfl, ?_⟩
    have HB5 := Aside0.mk (HB4.out.trans (hb5.mono HB4.out.size))
    have k5 := fun (g i : Nat) (v : Value) (hc : w3.cell? ⟨g, i, none⟩ = some v) => (HB5.out.cell (p := ⟨g, i, none⟩) (World.block_lt_of_cell? w3 _ hc)).trans hc
    clear hb5
    refine hK.out _ _ ⟨(k5 _ _ _ hHeld0.1), (k5 _ _ _ hHeld0.2)⟩ (fun hHeld => ?_)
    clear hK K
    refine norm_ (a' := ?_) ?_ ?_
    rotate_left
    · show Act.put _ (some 30) _ = _
      simp only [Act.put, pkA, pkB, pkC, i64_w, i32_w]
      rfl
    refine pure_ (i := 8) (N := some 31) (v := ?_) (a' := ?_) #[tt,tt,tt,tt,tt,tt,tt,tt,tt,ff,ff] rfl rfl (by kernel_rfl) (fun _ _ _ h => h) (Or.inl ⟨by rfl, ?_⟩) ?_ ?_
    rotate_left
    · intro w'
      go_simp
      with_reducible rfl
    rotate_left
    · simp only [Act.put, pkA, pkB, pkC, i64_w, i32_w]
      rfl
    refine take_ (i := 9) (N := some 32) (v := ?_) (a' := ?_) #[tt,tt,tt,tt,tt,tt,tt,tt,tt,tt,ff] rfl rfl (by kernel_rfl) (fun _ _ _ h => h) (Or.inl ⟨by rfl, ?_⟩) hHeld ?_ ?_
    rotate_left
    · rintro w' ⟨s0, s1⟩
      go_simp
      with_reducible rfl
    rotate_left
    · simp only [Act.put, pkA, pkB, pkC, i64_w, i32_w]
      rfl
    refine pure_ (i := 10) (N := some 12) (v := ?_) (a' := ?_) #[tt,tt,tt,tt,tt,tt,tt,tt,tt,tt,tt] rfl rfl (by kernel_rfl) (fun _ _ _ h => h) (Or.inl ⟨by rfl, ?_⟩) ?_ ?_
    rotate_left
    · intro w'
      go_simp
      with_reducible rfl
    rotate_left
    · simp only [Act.put, pkA, pkB, pkC, i64_w, i32_w]
      rfl
    refine done_ (by kernel_rfl) ?_
    have HL5 := Aside0.mk (same HL3.out HB5.out)
    have HB6 := Aside0.mk (HB3.out.trans (HB5.out.mono HB3.out.size))
    have HFa := Aside0.mk (HL5.out.files.each i x f HX.out HF.out)
    have HNw := Aside0.mk (rnow_calls B x.1 x.2 f D.steps w5 HFa.out HFk.out (by have := HSt.out; omega))
    have hfl : f.now.length ≤ 1073741824 := HFk.out.nowL
    have HO5 := Aside0.mk (show ∀ k, x.2.ownBlock = some k → k < w5.heap.size from fun k hk => by obtain ⟨inner, how⟩ := own_of HFa.out.opn; exact own_lt how k hk)
    clear HL3 HNm HLk HB3 HB4 HB5 z0 hg hHeld hHeld0 k4 k5
    have es : ((strOfNums f.now).size : Int) = (f.now.length : Int) := by rw [strOfNums_size]
    cases b1 with
    | true =>
      obtain ⟨ln, hln⟩ : ∃ ln, ln = f.now.length := ⟨_, rfl⟩
      have HLN := Aside0.mk hln
      by_cases hr : (ln : Int) < 0 ∨ (ln : Int) < (ln : Int)
      · have HR2 := Aside0.mk HR.out
        rw [← hln, if_pos (by first | exact hr | simpa using hr)] at HR2
        rw [← hln] at es hfl
        clear HR hln
        omega
      have HR2 := Aside0.mk HR.out
      rw [← hln, if_neg (by first | exact hr | simpa using hr)] at HR2
      have t1 : decide ((ln : Int) < 0) = false := decide_eq_false (by omega)
      have t2 : decide ((ln : Int) < (ln : Int)) = false := decide_eq_false (by omega)
      obtain ⟨c, hc⟩ : ∃ c : Chg, c = ⟨((ln : Int)).toNat, b, b3⟩ := ⟨_, rfl⟩
      have hcp : (c.pos : Int) = (ln : Int) := by rw [hc]; show (((ln : Int)).toNat : Int) = _; omega
      have hcb : c.b = b := by rw [hc]
      have hcc : c.cut = b3 := by rw [hc]
      have HR3 := Aside0.mk (show chgD D s true b3 n b = changedD D i f c by rw [HR2.out, hc]; rfl)
      have HDo := Aside0.mk (fun (U : World) => postbagref05_Step_Do.calls (c.pos : Int) (strOfNums c.b) c.cut (strOfNums f.now) _ U (do_f c f.now (by omega) (by rw [hcb]; omega) (by omega)))
      have hgo : (c.go f.now).length ≤ 1080000000 := chg_len c f.now 1080000000 (by omega) (by rw [hcb]; omega)
      obtain ⟨lg, hlg⟩ : ∃ lg, lg = (c.go f.now).length := ⟨_, rfl⟩
      have HLG := Aside0.mk hlg
      rw [← hlg] at hgo
      rw [hcp, hcb, hcc] at HDo
      rw [← hln] at es hfl
      have HCP := Aside0.mk hcp
      have HCB := Aside0.mk hcb
      have HCC := Aside0.mk hcc
      clear HR HR2 hln hlg hc hcp hcb hcc hr
      obtain ⟨gr, hgr0⟩ : ∃ gr : Int, gr = (lg : Int) - (ln : Int) := ⟨_, rfl⟩
      have esub : wrap64 (((strOfNums (c.go f.now)).size : Int) - (ln : Int)) = gr := by rw [strOfNums_size, ← HLG.out, hgr0]; unfold wrap64; omega
      have HGR := Aside0.mk hgr0
      have hgb : gr ≤ 1080000000 ∧ -1080000000 ≤ gr := by omega
      clear hgr0
      go_upto_region 12 with (first
        | (go_at_call 100; refine HNw.out.mono ?_; rintro e w6 ⟨rfl, hb6⟩; have HB7 := Aside0.mk (HB6.out.trans (hb6.mono HB6.out.size)); have HL7 := Aside0.mk (same HL5.out hb6); have HOX := Aside0.mk (show ∀ k, x.2.ownBlock = some k → k < w6.heap.size from fun k hk => Nat.lt_of_lt_of_le (HO5.out k hk) hb6.size); clear hb6; skip)
        | (go_at_call 101; refine (HDo.out _).mono ?_; rintro e w8 ⟨rfl, hb8⟩; have HB8 := Aside0.mk (((Below.refl _ w6).alloc (Nat.le_refl _) (.cells #[.int .i64 (ln : Int), .string (strOfNums b), .bool b3] tRS)).trans (hb8.mono (by simp))); have HE8 := Aside0.mk ((hb8.block _ (by simp)).trans (heap_alloc_new w6 (.cells #[.int .i64 (ln : Int), .string (strOfNums b), .bool b3] tRS))); have HL8 := Aside0.mk (same HL7.out HB8.out); clear hb8))
      simp only [esub]
      have HB10 := Aside0.mk (show Below w.heap.size w w8 from HB7.out.trans (HB8.out.mono HB7.out.size))
      have HBd := Aside0.mk (show Below w.heap.size w w8.drew from HB10.out.drew)
      have HLd := Aside0.mk (show RLies B w8.drew p D L fv nv iv ov from same HL8.out (Below.refl _ _).drew)
      have HEd := Aside0.mk (show w8.drew.heap[w6.heap.size]? = some (.cells #[.int .i64 (ln : Int), .string (strOfNums b), .bool b3] tRS (0, 0)) from HE8.out)
      clear HB8 HE8 HL8 HL7 HB7 HL5 HB6 HFa HNw HDo HB10 esub
      have z4 := (blk_cell HLd.out.obj 4).trans (rfl : _ = some (Value.int .i64 D.quota))
      obtain ⟨qt, hqt⟩ : ∃ qt, qt = D.quota := ⟨_, rfl⟩
      have HQT := Aside0.mk hqt
      rw [← hqt] at z4
      clear hqt
      by_cases hgp : 0 < gr
      · have tg : decide (0 < gr) = true := decide_eq_true hgp
        obtain ⟨us, hus⟩ : ∃ us : Int, us = (usedD D : Int) := ⟨_, rfl⟩
        have HU9 := Aside0.mk hus
        have hub : 0 ≤ us ∧ us ≤ 1073741824000000000 := ⟨by omega, by rw [hus]; exact HUl.out⟩
        have wadd : wrap64 (us + gr) = us + gr := by unfold wrap64; omega
        rw [← hus] at HUs
        clear hus
        refine start_ (n := 13) (S := fun w' => w'.cell? ⟨p, 4, none⟩ = some (.int .i64 qt)) (ds := []) #[ff,ff,ff,ff,ff,ff,ff,ff,ff,ff,ff,ff,ff] (by kernel_rfl) rfl rfl (z4) (fun hHeld => ?_)
        generalize w8.drew = w9 at HBd HLd HEd z4 hHeld ⊢
        have hHeld0 := hHeld
        refine pure_ (i := 0) (N := some 59) (v := ?_) (a' := ?_) #[tt,ff,ff,ff,ff,ff,ff,ff,ff,ff,ff,ff,ff] rfl rfl (by kernel_rfl) (fun _ _ _ h => h) (Or.inl ⟨by rfl, ?_⟩) ?_ ?_
        rotate_left
        · intro w'
          go_simp
          with_reducible rfl
        rotate_left
        · simp only [Act.put, pkA, pkB, pkC, i64_w, i32_w]
          rfl
        refine pure_ (i := 1) (N := some 60) (v := ?_) (a' := ?_) #[tt,tt,ff,ff,ff,ff,ff,ff,ff,ff,ff,ff,ff] rfl rfl (by kernel_rfl) (fun _ _ _ h => h) (Or.inl ⟨by rfl, ?_⟩) ?_ ?_
        rotate_left
        · intro w'
          go_simp
          with_reducible rfl
        rotate_left
        · simp only [Act.put, pkA, pkB, pkC, i64_w, i32_w]
          rfl
        refine pure_ (i := 2) (N := some 61) (v := ?_) (a' := ?_) #[tt,tt,tt,ff,ff,ff,ff,ff,ff,ff,ff,ff,ff] rfl rfl (by kernel_rfl) (fun _ _ _ h => h) (Or.inl ⟨by rfl, ?_⟩) ?_ ?_
        rotate_left
        · intro w'
          go_simp
          with_reducible rfl
        rotate_left
        · simp only [Act.put, pkA, pkB, pkC, i64_w, i32_w]
          rfl
        refine pure_ (i := 3) (N := some 62) (v := ?_) (a' := ?_) #[tt,tt,tt,tt,ff,ff,ff,ff,ff,ff,ff,ff,ff] rfl rfl (by kernel_rfl) (fun _ _ _ h => h) (Or.inl ⟨by rfl, ?_⟩) ?_ ?_
        rotate_left
        · intro w'
          go_simp
          with_reducible rfl
        rotate_left
        · simp only [Act.put, pkA, pkB, pkC, i64_w, i32_w]
          rfl
        refine pure_ (i := 5) (N := some 64) (v := ?_) (a' := ?_) #[tt,tt,tt,tt,ff,tt,ff,ff,ff,ff,ff,ff,ff] rfl rfl (by kernel_rfl) (fun _ _ _ h => h) (Or.inl ⟨by rfl, ?_⟩) ?_ ?_
        rotate_left
        · intro w'
          go_simp
          with_reducible rfl
        rotate_left
        · simp only [Act.put, pkA, pkB, pkC, i64_w, i32_w]
          rfl
        refine pure_ (i := 7) (N := some 66) (v := ?_) (a' := ?_) #[tt,tt,tt,tt,ff,tt,ff,tt,ff,ff,ff,ff,ff] rfl rfl (by kernel_rfl) (fun _ _ _ h => h) (Or.inl ⟨by rfl, ?_⟩) ?_ ?_
        rotate_left
        · intro w'
          go_simp
          with_reducible rfl
        rotate_left
        · simp only [Act.put, pkA, pkB, pkC, i64_w, i32_w]
          rfl
        refine pure_ (i := 8) (N := some 67) (v := ?_) (a' := ?_) #[tt,tt,tt,tt,ff,tt,ff,tt,tt,ff,ff,ff,ff] rfl rfl (by kernel_rfl) (fun _ _ _ h => h) (Or.inl ⟨by rfl, ?_⟩) ?_ ?_
        rotate_left
        · intro w'
          go_simp
          with_reducible rfl
        rotate_left
        · simp only [Act.put, pkA, pkB, pkC, i64_w, i32_w]
          rfl
        refine pure_ (i := 9) (N := some 68) (v := ?_) (a' := ?_) #[tt,tt,tt,tt,ff,tt,ff,tt,tt,tt,ff,ff,ff] rfl rfl (by kernel_rfl) (fun _ _ _ h => h) (Or.inl ⟨by rfl, ?_⟩) ?_ ?_
        rotate_left
        · intro w'
          go_simp
          with_reducible rfl
        rotate_left
        · simp only [Act.put, pkA, pkB, pkC, i64_w, i32_w]
          rfl
        refine take_ (i := 10) (N := some 69) (v := ?_) (a' := ?_) #[tt,tt,tt,tt,ff,tt,ff,tt,tt,tt,tt,ff,ff] rfl rfl (by kernel_rfl) (fun _ _ _ h => h) (Or.inl ⟨by rfl, ?_⟩) hHeld ?_ ?_
        rotate_left
        · intro w' s0
          go_simp
          with_reducible rfl
        rotate_left
        · simp only [Act.put, pkA, pkB, pkC, i64_w, i32_w]
          rfl
        refine one_ (i := 4) (N := some 63) #[tt,tt,tt,tt,tt,tt,ff,tt,tt,tt,tt,ff,ff] rfl rfl (by kernel_rfl) (by decide) (fun K hK => ?_)
        refine goes_ Tryz.func53 (by kernel_rfl) rfl #[.pointer (some ⟨p, 0, none⟩)] (by rfl) rfl rfl (by simp only [List.map_toArray, List.map_cons, List.map_nil]; rfl) ?_
        with_reducible refine (HUs.out _ HLd.out).mono ?_
        rintro e wc ⟨rfl, hbc⟩
        refine ⟨_, rfl, ?_⟩
        have HBc := Aside0.mk hbc
        have k4 := (hbc.cell (p := ⟨p, 4, none⟩) (World.block_lt_of_cell? w9 _ hHeld0)).trans hHeld0
        clear hbc
        refine hK.out _ _ (k4) (fun hHeld => ?_)
        clear hK K
        refine norm_ (a' := ?_) ?_ ?_
        rotate_left
        · show Act.put _ (some 63) _ = _
          simp only [Act.put, pkA, pkB, pkC, i64_w, i32_w]
          rfl
        refine pure_ (i := 6) (N := some 65) (v := ?_) (a' := ?_) #[tt,tt,tt,tt,tt,tt,tt,tt,tt,tt,tt,ff,ff] rfl rfl (by kernel_rfl) (fun _ _ _ h => h) (Or.inl ⟨by rfl, ?_⟩) ?_ ?_
        rotate_left
        · intro w'
          go_simp
          with_reducible rfl
        rotate_left
        · simp only [Act.put, pkA, pkB, pkC, i64_w, i32_w]
          rfl
        refine pure_ (i := 11) (N := some 70) (v := ?_) (a' := ?_) #[tt,tt,tt,tt,tt,tt,tt,tt,tt,tt,tt,tt,ff] rfl rfl (by kernel_rfl) (fun _ _ _ h => h) (Or.inl ⟨by rfl, ?_⟩) ?_ ?_
        rotate_left
        · intro w'
          go_simp
          with_reducible rfl
        rotate_left
        · simp only [Act.put, pkA, pkB, pkC, i64_w, i32_w]
          rfl
        refine pure_ (i := 12) (N := some 71) (v := ?_) (a' := ?_) #[tt,tt,tt,tt,tt,tt,tt,tt,tt,tt,tt,tt,tt] rfl rfl (by kernel_rfl) (fun _ _ _ h => h) (Or.inl ⟨by rfl, ?_⟩) ?_ ?_
        rotate_left
        · intro w'
          go_simp
          with_reducible rfl
        rotate_left
        · simp only [Act.put, pkA, pkB, pkC, i64_w, i32_w]
          rfl
        refine done_ (by kernel_rfl) ?_
        have HLe := Aside0.mk (same HLd.out HBc.out)
        have HBe := Aside0.mk (show Below w.heap.size w wc from HBd.out.trans (HBc.out.mono HBd.out.size))
        have HEe := Aside0.mk ((HBc.out.block _ (blk_lt HEd.out)).trans HEd.out)
        clear HLd HBd HEd HBc z4 hHeld hHeld0 k4
        by_cases hroom : qt < us + gr
        · have tq : decide (qt < wrap64 (us + gr)) = true := by rw [wadd]; exact decide_eq_true hroom
          have HC := Aside0.mk (show changedD D i f c = (some 7, D) by unfold changedD; rw [if_pos (by unfold noRoom; have h1 := HGR.out; have h2 := HLG.out; have h3 := HLN.out; have h4 := HQT.out; have h5 := HU9.out; omega)])
          go_wp2
          go_ret
          rw [HR3.out, HC.out]
          exact ⟨rfl, ⟨_, _, _, _, _, HLe.out⟩, RTurn.of_below HBe.out⟩
        · have tq : decide (qt < wrap64 (us + gr)) = false := by rw [wadd]; exact decide_eq_false hroom
          have HC := Aside0.mk (show changedD D i f c = if D.armed = 0 then (some 8, offD D) else (none, setF (stepD D) i ⟨c.go f.now, f.sure, f.opn ++ [c]⟩) by unfold changedD; rw [if_neg (by unfold noRoom; have h1 := HGR.out; have h2 := HLG.out; have h3 := HLN.out; have h4 := HQT.out; have h5 := HU9.out; omega)])
          by_cases h0 : D.armed = 0
          · have e1 : rstepD D = (8, offD D) := by unfold rstepD; rw [if_pos h0]
            have HS2 := Aside0.mk (HS.out _ HLe.out)
            have HC2 := Aside0.mk HC.out
            rw [e1] at HS2
            rw [if_pos h0] at HC2
            clear e1 h0 HC HS
            go_wp2_with (go_at_call 102; refine HS2.out.mono ?_; rintro e w10 ⟨rfl, hl2, ht2, hb2⟩; have HL10 := Aside0.mk hl2; have HT10 := Aside0.mk ((RTurn.of_below HBe.out).trans ht2); clear hl2 ht2 hb2)
            go_ret
            rw [HR3.out, HC2.out]
            exact ⟨rfl, ⟨_, _, _, _, _, HL10.out⟩, HT10.out⟩
          · have e1 : rstepD D = (0, stepD D) := by unfold rstepD; rw [if_neg h0]
            have HS2 := Aside0.mk (HS.out _ HLe.out)
            have HC2 := Aside0.mk HC.out
            rw [e1] at HS2
            rw [if_neg h0] at HC2
            have hbp : w6.heap.size ≠ p := blk_ne HEe.out HLe.out.obj (by decide)
            clear e1 h0 HC HS
            go_upto_region 17 with (go_at_call 102; refine HS2.out.mono ?_; rintro e w10 ⟨rfl, hl2, ht2, hb2⟩; have HL10 := Aside0.mk hl2; have HT10 := Aside0.mk ((RTurn.of_below HBe.out).trans ht2); have HE10 := Aside0.mk (hb2.obj HEe.out (fun e => hbp (Option.some.inj e))); clear hl2 ht2 hb2)
            have HLf := Aside0.mk (show RLies B w10.drew p (stepD D) L fv nv iv ov from same HL10.out (Below.refl _ _).drew)
            have HTf := Aside0.mk (show RTurn B w w10.drew from HT10.out.below (Below.refl _ _).drew)
            have HEf := Aside0.mk (show w10.drew.heap[w6.heap.size]? = some (.cells #[.int .i64 (ln : Int), .string (strOfNums b), .bool b3] tRS (0, 0)) from HE10.out)
            have HFf := Aside0.mk (HLf.out.files.each i x f HX.out HF.out)
            have y0 := (blk_cell HEf.out 0).trans (rfl : _ = some (Value.int .i64 (ln : Int)))
            have y1 := (blk_cell HEf.out 1).trans (rfl : _ = some (Value.string (strOfNums b)))
            have y2 := (blk_cell HEf.out 2).trans (rfl : _ = some (Value.bool b3))
            have y3 := (blk_cell HFf.out.obj 1).trans (rfl : _ = some x.2)
            have HCn := Aside0.mk (show f.opn.length ≤ 1000000000 by have h1 := HFk.out.cnt; have h2 := HSt.out; omega)
            have hBs : B ≤ w10.drew.heap.size := Nat.le_trans hBp (Nat.le_of_lt (blk_lt HLf.out.obj))
            clear HL10 HT10 HE10 HS2 HLe HBe HEe
            refine start_ (n := 11) (S := fun w' => w'.cell? ⟨w6.heap.size, 0, none⟩ = some (.int .i64 (ln : Int)) ∧ w'.cell? ⟨w6.heap.size, 1, none⟩ = some (.string (strOfNums b)) ∧ w'.cell? ⟨w6.heap.size, 2, none⟩ = some (.bool b3) ∧ w'.cell? ⟨x.1, 1, none⟩ = some x.2) (ds := [10]) #[ff,ff,ff,ff,ff,ff,ff,ff,ff,ff,ff] (by kernel_rfl) rfl rfl ⟨y0, y1, y2, y3⟩ (fun hHeld => ?_)
            generalize w10.drew = w11 at HLf HTf HEf HFf y0 y1 y2 y3 hBs hHeld ⊢
            have hHeld0 := hHeld
            refine pure_ (i := 0) (N := some 77) (v := ?_) (a' := ?_) #[tt,ff,ff,ff,ff,ff,ff,ff,ff,ff,ff] rfl rfl (by kernel_rfl) (fun _ _ _ h => h) (Or.inl ⟨by rfl, ?_⟩) ?_ ?_
            rotate_left
            · intro w'
              go_simp
              with_reducible rfl
            rotate_left
            · simp only [Act.put, pkA, pkB, pkC, i64_w, i32_w]
              rfl
            refine pure_ (i := 1) (N := some 78) (v := ?_) (a' := ?_) #[tt,tt,ff,ff,ff,ff,ff,ff,ff,ff,ff] rfl rfl (by kernel_rfl) (fun _ _ _ h => h) (Or.inl ⟨by rfl, ?_⟩) ?_ ?_
            rotate_left
            · intro w'
              go_simp
              with_reducible rfl
            rotate_left
            · simp only [Act.put, pkA, pkB, pkC, i64_w, i32_w]
              rfl
            refine pure_ (i := 2) (N := some 79) (v := ?_) (a' := ?_) #[tt,tt,tt,ff,ff,ff,ff,ff,ff,ff,ff] rfl rfl (by kernel_rfl) (fun _ _ _ h => h) (Or.inl ⟨by rfl, ?_⟩) ?_ ?_
            rotate_left
            · intro w'
              go_simp
              with_reducible rfl
            rotate_left
            · simp only [Act.put, pkA, pkB, pkC, i64_w, i32_w]
              rfl
            refine pure_ (i := 3) (N := some 80) (v := ?_) (a' := ?_) #[tt,tt,tt,tt,ff,ff,ff,ff,ff,ff,ff] rfl rfl (by kernel_rfl) (fun _ _ _ h => h) (Or.inl ⟨by rfl, ?_⟩) ?_ ?_
            rotate_left
            · intro w'
              go_simp
              with_reducible rfl
            rotate_left
            · simp only [Act.put, pkA, pkB, pkC, i64_w, i32_w]
              rfl
            refine take_ (i := 4) (N := some 81) (v := ?_) (a' := ?_) #[tt,tt,tt,tt,tt,ff,ff,ff,ff,ff,ff] rfl rfl (by kernel_rfl) (fun _ _ _ h => h) (Or.inl ⟨by rfl, ?_⟩) hHeld ?_ ?_
            rotate_left
            · rintro w' ⟨s0, s1, s2, s3⟩
              go_simp
              with_reducible rfl
            rotate_left
            · simp only [Act.put, pkA, pkB, pkC, i64_w, i32_w]
              rfl
            refine take_ (i := 5) (N := some 82) (v := ?_) (a' := ?_) #[tt,tt,tt,tt,tt,tt,ff,ff,ff,ff,ff] rfl rfl (by kernel_rfl) (fun _ _ _ h => h) (Or.inl ⟨by rfl, ?_⟩) hHeld ?_ ?_
            rotate_left
            · rintro w' ⟨s0, s1, s2, s3⟩
              go_simp
              with_reducible rfl
            rotate_left
            · simp only [Act.put, pkA, pkB, pkC, i64_w, i32_w]
              rfl
            refine one_ (i := 6) (N := some 83) #[tt,tt,tt,tt,tt,tt,tt,ff,ff,ff,ff] rfl rfl (by kernel_rfl) (by decide) (fun K hK => ?_)
            refine value_ (w1 := ?_) (v := ?_) (by rfl) rfl ?_ ?_
            rotate_left 2
            · go_simp
              constructor
              · rfl
              · rfl
            have k := fun (g i : Nat) (v : Value) (hc : w11.cell? ⟨g, i, none⟩ = some v) => (((Below.refl _ w11).alloc (Nat.le_refl _) (.cells #[.int .i64 (ln : Int), .string (strOfNums b), .bool b3] 147)).cell (p := ⟨g, i, none⟩) (World.block_lt_of_cell? w11 _ hc)).trans hc
            refine hK.out _ _ ⟨(k _ _ _ hHeld.1), (k _ _ _ hHeld.2.1), (k _ _ _ hHeld.2.2.1), (k _ _ _ hHeld.2.2.2)⟩ (fun hHeld => ?_)
            clear hK K
            refine norm_ (a' := ?_) ?_ ?_
            rotate_left
            · show Act.put _ (some 83) _ = _
              simp only [Act.put, pkA, pkB, pkC, i64_w, i32_w]
              rfl
            refine one_ (i := 7) (N := some 84) #[tt,tt,tt,tt,tt,tt,tt,tt,ff,ff,ff] rfl rfl (by kernel_rfl) (by decide) (fun K hK => ?_)
            refine Kd.R_append_step kStp (w0 := w11) B (by rfl) (.tmp 81) (.tmp 83) 49 147 (.agg #[.int .i64 0, .string ⟨#[]⟩, .bool false]) 32 rfl Tryz.underlying49 infoS3 rfl (by decide) (by omega) x.2 f.opn c [.int .i64 (ln : Int), .string (strOfNums b), .bool b3] (fun _ => True) (fun _ => False) rfl rfl ?aP (fun _ h => h.elim) (fun _ _ => trivial) ?aO (Below.refl _ _) ?aS ?aL ?_
            case aP => rw [← HCP.out, ← HCB.out, ← HCC.out]; exact ⟨[.int .i64 (c.pos : Int)], [.string (strOfNums c.b), .bool c.cut], rfl, rfl, [.string (strOfNums c.b)], [.bool c.cut], rfl, rfl, rfl⟩
            case aO => exact HFf.out.opn
            case aS => exact hBs
            case aL => have := HCn.out; omega
            intro v12 w12 ho hb hg hat
            obtain ⟨A12, cp12, rfl⟩ := Kd.R_slice ho
            obtain ⟨inner, how⟩ := own_of HFf.out.opn
            have n5 : some x.1 ≠ x.2.ownBlock := fun e => by obtain ⟨cs, hc⟩ := own_typed how _ e.symm; rw [HFf.out.obj] at hc; cases hc
            have n6 : some w6.heap.size ≠ x.2.ownBlock := fun e => by have h8 := HOX.out _ e.symm; omega
            have k := fun (g i : Nat) (v : Value) (hc : w11.cell? ⟨g, i, none⟩ = some v) (hne : some g ≠ x.2.ownBlock) => hg.cell (a := ⟨g, i, none⟩) (v := v) hc hne
            have e0 := k _ _ _ hHeld0.1 n6
            have e1 := k _ _ _ hHeld0.2.1 n6
            have e2 := k _ _ _ hHeld0.2.2.1 n6
            have e3 := k _ _ _ hHeld0.2.2.2 n5
            have fz : w12.frozen? ⟨x.1, 1, none⟩ = false := blk_frozen ((But.grown hg).obj HFf.out.obj n5) 1
            have HE3 := Aside0.mk ho
            have HG3 := Aside0.mk hg
            have HAt := Aside0.mk hat
            clear ho hb hg hat how k n5 n6
            refine hK.out _ _ ⟨e0, e1, e2, e3⟩ (fun hHeld => ?_)
            clear hK K
            refine norm_ (a' := ?_) ?_ ?_
            rotate_left
            · show Act.put _ (some 84) _ = _
              simp only [Act.put, pkA, pkB, pkC, i64_w, i32_w]
              rfl
            refine pure_ (i := 8) (N := some 85) (v := ?_) (a' := ?_) #[tt,tt,tt,tt,tt,tt,tt,tt,tt,ff,ff] rfl rfl (by kernel_rfl) (fun _ _ _ h => h) (Or.inl ⟨by rfl, ?_⟩) ?_ ?_
            rotate_left
            · intro w'
              go_simp
              with_reducible rfl
            rotate_left
            · simp only [Act.put, pkA, pkB, pkC, i64_w, i32_w]
              rfl
            refine pure_ (i := 9) (N := some 86) (v := ?_) (a' := ?_) #[tt,tt,tt,tt,tt,tt,tt,tt,tt,tt,ff] rfl rfl (by kernel_rfl) (fun _ _ _ h => h) (Or.inl ⟨by rfl, ?_⟩) ?_ ?_
            rotate_left
            · intro w'
              go_simp
              with_reducible rfl
            rotate_left
            · simp only [Act.put, pkA, pkB, pkC, i64_w, i32_w]
              rfl
            refine last_ (i := 10) (N := none) #[tt,tt,tt,tt,tt,tt,tt,tt,tt,tt,tt] rfl rfl (by kernel_rfl) (by decide) (fun K hK => ?_)
            refine skip_ (w1 := ?_) (by rfl) rfl ?_ ?_
            rotate_left
            · go_simp
              rfl
            refine hK.out _ _ ?_
            clear hK K
            refine done_ (by kernel_rfl) ?_
            go_wp2
            go_ret
            have hlen : (f.opn ++ [c]).length = f.opn.length + 1 := by simp
            have hE : StpsAt B w12 (.slice A12 (f.opn.length + 1) cp12) (f.opn ++ [c]) := by have h5 := HE3.out; rw [hlen] at h5; exact h5
            have hAt := HAt.out
            rw [hlen] at hAt
            obtain ⟨k1, k2⟩ := rmore HLf.out i x f HX.out HF.out c (c.go f.now) hE HG3.out hAt
            rw [HR3.out, HC2.out]
            exact ⟨rfl, ⟨_, _, _, _, _, k1⟩, HTf.out.trans k2⟩
      · have tg : decide (0 < gr) = false := decide_eq_false hgp
        have HC := Aside0.mk (show changedD D i f c = if D.armed = 0 then (some 8, offD D) else (none, setF (stepD D) i ⟨c.go f.now, f.sure, f.opn ++ [c]⟩) by unfold changedD; rw [if_neg (by unfold noRoom; have h1 := HGR.out; have h2 := HLG.out; have h3 := HLN.out; omega)])
        refine start_ (n := 13) (S := fun w' => True) (ds := []) #[ff,ff,ff,ff,ff,ff,ff,ff,ff,ff,ff,ff,ff] (by kernel_rfl) rfl rfl trivial (fun hHeld => ?_)
        generalize w8.drew = w9 at HBd HLd HEd z4 hHeld ⊢
        refine pure_ (i := 0) (N := some 59) (v := ?_) (a' := ?_) #[tt,ff,ff,ff,ff,ff,ff,ff,ff,ff,ff,ff,ff] rfl rfl (by kernel_rfl) (fun _ _ _ h => h) (Or.inl ⟨by rfl, ?_⟩) ?_ ?_
        rotate_left
        · intro w'
          go_simp
          with_reducible rfl
        rotate_left
        · simp only [Act.put, pkA, pkB, pkC, i64_w, i32_w]
          rfl
        refine pure_ (i := 1) (N := some 60) (v := ?_) (a' := ?_) #[tt,tt,ff,ff,ff,ff,ff,ff,ff,ff,ff,ff,ff] rfl rfl (by kernel_rfl) (fun _ _ _ h => h) (Or.inl ⟨by rfl, ?_⟩) ?_ ?_
        rotate_left
        · intro w'
          go_simp
          with_reducible rfl
        rotate_left
        · simp only [Act.put, pkA, pkB, pkC, i64_w, i32_w]
          rfl
        refine pure_ (i := 2) (N := some 61) (v := ?_) (a' := ?_) #[tt,tt,tt,ff,ff,ff,ff,ff,ff,ff,ff,ff,ff] rfl rfl (by kernel_rfl) (fun _ _ _ h => h) (Or.inl ⟨by rfl, ?_⟩) ?_ ?_
        rotate_left
        · intro w'
          go_simp
          with_reducible rfl
        rotate_left
        · simp only [Act.put, pkA, pkB, pkC, i64_w, i32_w]
          rfl
        refine pure_ (i := 3) (N := some 62) (v := undef) (a' := ?_) #[tt,tt,tt,tt,ff,ff,ff,ff,ff,ff,ff,ff,ff] rfl rfl (by kernel_rfl) (fun _ _ _ h => h) (Or.inr ⟨by rfl, rfl⟩) ?_ ?_
        rotate_left
        · simp only [Act.put, pkA, pkB, pkC, i64_w, i32_w]
          rfl
        refine pure_ (i := 4) (N := some 63) (v := undef) (a' := ?_) #[tt,tt,tt,tt,tt,ff,ff,ff,ff,ff,ff,ff,ff] rfl rfl (by kernel_rfl) (fun _ _ _ h => h) (Or.inr ⟨by rfl, rfl⟩) ?_ ?_
        rotate_left
        · simp only [Act.put, pkA, pkB, pkC, i64_w, i32_w]
          rfl
        refine pure_ (i := 5) (N := some 64) (v := undef) (a' := ?_) #[tt,tt,tt,tt,tt,tt,ff,ff,ff,ff,ff,ff,ff] rfl rfl (by kernel_rfl) (fun _ _ _ h => h) (Or.inr ⟨by rfl, rfl⟩) ?_ ?_
        rotate_left
        · simp only [Act.put, pkA, pkB, pkC, i64_w, i32_w]
          rfl
        refine pure_ (i := 6) (N := some 65) (v := undef) (a' := ?_) #[tt,tt,tt,tt,tt,tt,tt,ff,ff,ff,ff,ff,ff] rfl rfl (by kernel_rfl) (fun _ _ _ h => h) (Or.inr ⟨by rfl, rfl⟩) ?_ ?_
        rotate_left
        · simp only [Act.put, pkA, pkB, pkC, i64_w, i32_w]
          rfl
        refine pure_ (i := 7) (N := some 66) (v := undef) (a' := ?_) #[tt,tt,tt,tt,tt,tt,tt,tt,ff,ff,ff,ff,ff] rfl rfl (by kernel_rfl) (fun _ _ _ h => h) (Or.inr ⟨by rfl, rfl⟩) ?_ ?_
        rotate_left
        · simp only [Act.put, pkA, pkB, pkC, i64_w, i32_w]
          rfl
        refine pure_ (i := 8) (N := some 67) (v := undef) (a' := ?_) #[tt,tt,tt,tt,tt,tt,tt,tt,tt,ff,ff,ff,ff] rfl rfl (by kernel_rfl) (fun _ _ _ h => h) (Or.inr ⟨by rfl, rfl⟩) ?_ ?_
        rotate_left
        · simp only [Act.put, pkA, pkB, pkC, i64_w, i32_w]
          rfl
        refine pure_ (i := 9) (N := some 68) (v := undef) (a' := ?_) #[tt,tt,tt,tt,tt,tt,tt,tt,tt,tt,ff,ff,ff] rfl rfl (by kernel_rfl) (fun _ _ _ h => h) (Or.inr ⟨by rfl, rfl⟩) ?_ ?_
        rotate_left
        · simp only [Act.put, pkA, pkB, pkC, i64_w, i32_w]
          rfl
        refine pure_ (i := 10) (N := some 69) (v := undef) (a' := ?_) #[tt,tt,tt,tt,tt,tt,tt,tt,tt,tt,tt,ff,ff] rfl rfl (by kernel_rfl) (fun _ _ _ h => h) (Or.inr ⟨by rfl, rfl⟩) ?_ ?_
        rotate_left
        · simp only [Act.put, pkA, pkB, pkC, i64_w, i32_w]
          rfl
        refine pure_ (i := 11) (N := some 70) (v := undef) (a' := ?_) #[tt,tt,tt,tt,tt,tt,tt,tt,tt,tt,tt,tt,ff] rfl rfl (by kernel_rfl) (fun _ _ _ h => h) (Or.inr ⟨by rfl, rfl⟩) ?_ ?_
        rotate_left
        · simp only [Act.put, pkA, pkB, pkC, i64_w, i32_w]
          rfl
        refine pure_ (i := 12) (N := some 71) (v := ?_) (a' := ?_) #[tt,tt,tt,tt,tt,tt,tt,tt,tt,tt,tt,tt,tt] rfl rfl (by kernel_rfl) (fun _ _ _ h => h) (Or.inl ⟨by rfl, ?_⟩) ?_ ?_
        rotate_left
        · intro w'
          go_simp
          with_reducible rfl
        rotate_left
        · simp only [Act.put, pkA, pkB, pkC, i64_w, i32_w]
          rfl
        refine done_ (by kernel_rfl) ?_
        have HLe := Aside0.mk HLd.out
        have HBe := Aside0.mk HBd.out
        have HEe := Aside0.mk HEd.out
        clear HLd HBd HEd z4 hHeld
        by_cases h0 : D.armed = 0
        · have e1 : rstepD D = (8, offD D) := by unfold rstepD; rw [if_pos h0]
          have HS2 := Aside0.mk (HS.out _ HLe.out)
          have HC2 := Aside0.mk HC.out
          rw [e1] at HS2
          rw [if_pos h0] at HC2
          clear e1 h0 HC HS
          go_wp2_with (go_at_call 102; refine HS2.out.mono ?_; rintro e w10 ⟨rfl, hl2, ht2, hb2⟩; have HL10 := Aside0.mk hl2; have HT10 := Aside0.mk ((RTurn.of_below HBe.out).trans ht2); clear hl2 ht2 hb2)
          go_ret
          rw [HR3.out, HC2.out]
          exact ⟨rfl, ⟨_, _, _, _, _, HL10.out⟩, HT10.out⟩
        · have e1 : rstepD D = (0, stepD D) := by unfold rstepD; rw [if_neg h0]
          have HS2 := Aside0.mk (HS.out _ HLe.out)
          have HC2 := Aside0.mk HC.out
          rw [e1] at HS2
          rw [if_neg h0] at HC2
          have hbp : w6.heap.size ≠ p := blk_ne HEe.out HLe.out.obj (by decide)
          clear e1 h0 HC HS
          go_upto_region 17 with (go_at_call 102; refine HS2.out.mono ?_; rintro e w10 ⟨rfl, hl2, ht2, hb2⟩; have HL10 := Aside0.mk hl2; have HT10 := Aside0.mk ((RTurn.of_below HBe.out).trans ht2); have HE10 := Aside0.mk (hb2.obj HEe.out (fun e => hbp (Option.some.inj e))); clear hl2 ht2 hb2)
          have HLf := Aside0.mk (show RLies B w10.drew p (stepD D) L fv nv iv ov from same HL10.out (Below.refl _ _).drew)
          have HTf := Aside0.mk (show RTurn B w w10.drew from HT10.out.below (Below.refl _ _).drew)
          have HEf := Aside0.mk (show w10.drew.heap[w6.heap.size]? = some (.cells #[.int .i64 (ln : Int), .string (strOfNums b), .bool b3] tRS (0, 0)) from HE10.out)
          have HFf := Aside0.mk (HLf.out.files.each i x f HX.out HF.out)
          have y0 := (blk_cell HEf.out 0).trans (rfl : _ = some (Value.int .i64 (ln : Int)))
          have y1 := (blk_cell HEf.out 1).trans (rfl : _ = some (Value.string (strOfNums b)))
          have y2 := (blk_cell HEf.out 2).trans (rfl : _ = some (Value.bool b3))
          have y3 := (blk_cell HFf.out.obj 1).trans (rfl : _ = some x.2)
          have HCn := Aside0.mk (show f.opn.length ≤ 1000000000 by have h1 := HFk.out.cnt; have h2 := HSt.out; omega)
          have hBs : B ≤ w10.drew.heap.size := Nat.le_trans hBp (Nat.le_of_lt (blk_lt HLf.out.obj))
          clear HL10 HT10 HE10 HS2 HLe HBe HEe
          refine start_ (n := 11) (S := fun w' => w'.cell? ⟨w6.heap.size, 0, none⟩ = some (.int .i64 (ln : Int)) ∧ w'.cell? ⟨w6.heap.size, 1, none⟩ = some (.string (strOfNums b)) ∧ w'.cell? ⟨w6.heap.size, 2, none⟩ = some (.bool b3) ∧ w'.cell? ⟨x.1, 1, none⟩ = some x.2) (ds := [10]) #[ff,ff,ff,ff,ff,ff,ff,ff,ff,ff,ff] (by kernel_rfl) rfl rfl ⟨y0, y1, y2, y3⟩ (fun hHeld => ?_)
          generalize w10.drew = w11 at HLf HTf HEf HFf y0 y1 y2 y3 hBs hHeld ⊢
          have hHeld0 := hHeld
          refine pure_ (i := 0) (N := some 77) (v := ?_) (a' := ?_) #[tt,ff,ff,ff,ff,ff,ff,ff,ff,ff,ff] rfl rfl (by kernel_rfl) (fun _ _ _ h => h) (Or.inl ⟨by rfl, ?_⟩) ?_ ?_
          rotate_left
          · intro w'
            go_simp
            with_reducible rfl
          rotate_left
          · simp only [Act.put, pkA, pkB, pkC, i64_w, i32_w]
            rfl
          refine pure_ (i := 1) (N := some 78) (v := ?_) (a' := ?_) #[tt,tt,ff,ff,ff,ff,ff,ff,ff,ff,ff] rfl rfl (by kernel_rfl) (fun _ _ _ h => h) (Or.inl ⟨by rfl, ?_⟩) ?_ ?_
          rotate_left
          · intro w'
            go_simp
            with_reducible rfl
          rotate_left
          · simp only [Act.put, pkA, pkB, pkC, i64_w, i32_w]
            rfl
          refine pure_ (i := 2) (N := some 79) (v := ?_) (a' := ?_) #[tt,tt,tt,ff,ff,ff,ff,ff,ff,ff,ff] rfl rfl (by kernel_rfl) (fun _ _ _ h => h) (Or.inl ⟨by rfl, ?_⟩) ?_ ?_
          rotate_left
          · intro w'
            go_simp
            with_reducible rfl
          rotate_left
          · simp only [Act.put, pkA, pkB, pkC, i64_w, i32_w]
            rfl
          refine pure_ (i := 3) (N := some 80) (v := ?_) (a' := ?_) #[tt,tt,tt,tt,ff,ff,ff,ff,ff,ff,ff] rfl rfl (by kernel_rfl) (fun _ _ _ h => h) (Or.inl ⟨by rfl, ?_⟩) ?_ ?_
          rotate_left
          · intro w'
            go_simp
            with_reducible rfl
          rotate_left
          · simp only [Act.put, pkA, pkB, pkC, i64_w, i32_w]
            rfl
          refine take_ (i := 4) (N := some 81) (v := ?_) (a' := ?_) #[tt,tt,tt,tt,tt,ff,ff,ff,ff,ff,ff] rfl rfl (by kernel_rfl) (fun _ _ _ h => h) (Or.inl ⟨by rfl, ?_⟩) hHeld ?_ ?_
          rotate_left
          · rintro w' ⟨s0, s1, s2, s3⟩
            go_simp
            with_reducible rfl
          rotate_left
          · simp only [Act.put, pkA, pkB, pkC, i64_w, i32_w]
            rfl
          refine take_ (i := 5) (N := some 82) (v := ?_) (a' := ?_) #[tt,tt,tt,tt,tt,tt,ff,ff,ff,ff,ff] rfl rfl (by kernel_rfl) (fun _ _ _ h => h) (Or.inl ⟨by rfl, ?_⟩) hHeld ?_ ?_
          rotate_left
          · rintro w' ⟨s0, s1, s2, s3⟩
            go_simp
            with_reducible rfl
          rotate_left
          · simp only [Act.put, pkA, pkB, pkC, i64_w, i32_w]
            rfl
          refine one_ (i := 6) (N := some 83) #[tt,tt,tt,tt,tt,tt,tt,ff,ff,ff,ff] rfl rfl (by kernel_rfl) (by decide) (fun K hK => ?_)
          refine value_ (w1 := ?_) (v := ?_) (by rfl) rfl ?_ ?_
          rotate_left 2
          · go_simp
            constructor
            · rfl
            · rfl
          have k := fun (g i : Nat) (v : Value) (hc : w11.cell? ⟨g, i, none⟩ = some v) => (((Below.refl _ w11).alloc (Nat.le_refl _) (.cells #[.int .i64 (ln : Int), .string (strOfNums b), .bool b3] 147)).cell (p := ⟨g, i, none⟩) (World.block_lt_of_cell? w11 _ hc)).trans hc
          refine hK.out _ _ ⟨(k _ _ _ hHeld.1), (k _ _ _ hHeld.2.1), (k _ _ _ hHeld.2.2.1), (k _ _ _ hHeld.2.2.2)⟩ (fun hHeld => ?_)
          clear hK K
          refine norm_ (a' := ?_) ?_ ?_
          rotate_left
          · show Act.put _ (some 83) _ = _
            simp only [Act.put, pkA, pkB, pkC, i64_w, i32_w]
            rfl
          refine one_ (i := 7) (N := some 84) #[tt,tt,tt,tt,tt,tt,tt,tt,ff,ff,ff] rfl rfl (by kernel_rfl) (by decide) (fun K hK => ?_)
          refine Kd.R_append_step kStp (w0 := w11) B (by rfl) (.tmp 81) (.tmp 83) 49 147 (.agg #[.int .i64 0, .string ⟨#[]⟩, .bool false]) 32 rfl Tryz.underlying49 infoS3 rfl (by decide) (by omega) x.2 f.opn c [.int .i64 (ln : Int), .string (strOfNums b), .bool b3] (fun _ => True) (fun _ => False) rfl rfl ?aP (fun _ h => h.elim) (fun _ _ => trivial) ?aO (Below.refl _ _) ?aS ?aL ?_
          case aP => rw [← HCP.out, ← HCB.out, ← HCC.out]; exact ⟨[.int .i64 (c.pos : Int)], [.string (strOfNums c.b), .bool c.cut], rfl, rfl, [.string (strOfNums c.b)], [.bool c.cut], rfl, rfl, rfl⟩
          case aO => exact HFf.out.opn
          case aS => exact hBs
          case aL => have := HCn.out; omega
          intro v12 w12 ho hb hg hat
          obtain ⟨A12, cp12, rfl⟩ := Kd.R_slice ho
          obtain ⟨inner, how⟩ := own_of HFf.out.opn
          have n5 : some x.1 ≠ x.2.ownBlock := fun e => by obtain ⟨cs, hc⟩ := own_typed how _ e.symm; rw [HFf.out.obj] at hc; cases hc
          have n6 : some w6.heap.size ≠ x.2.ownBlock := fun e => by have h8 := HOX.out _ e.symm; omega
          have k := fun (g i : Nat) (v : Value) (hc : w11.cell? ⟨g, i, none⟩ = some v) (hne : some g ≠ x.2.ownBlock) => hg.cell (a := ⟨g, i, none⟩) (v := v) hc hne
          have e0 := k _ _ _ hHeld0.1 n6
          have e1 := k _ _ _ hHeld0.2.1 n6
          have e2 := k _ _ _ hHeld0.2.2.1 n6
          have e3 := k _ _ _ hHeld0.2.2.2 n5
          have fz : w12.frozen? ⟨x.1, 1, none⟩ = false := blk_frozen ((But.grown hg).obj HFf.out.obj n5) 1
          have HE3 := Aside0.mk ho
          have HG3 := Aside0.mk hg
          have HAt := Aside0.mk hat
          clear ho hb hg hat how k n5 n6
          refine hK.out _ _ ⟨e0, e1, e2, e3⟩ (fun hHeld => ?_)
          clear hK K
          refine norm_ (a' := ?_) ?_ ?_
          rotate_left
          · show Act.put _ (some 84) _ = _
            simp only [Act.put, pkA, pkB, pkC, i64_w, i32_w]
            rfl
          refine pure_ (i := 8) (N := some 85) (v := ?_) (a' := ?_) #[tt,tt,tt,tt,tt,tt,tt,tt,tt,ff,ff] rfl rfl (by kernel_rfl) (fun _ _ _ h => h) (Or.inl ⟨by rfl, ?_⟩) ?_ ?_
          rotate_left
          · intro w'
            go_simp
            with_reducible rfl
          rotate_left
          · simp only [Act.put, pkA, pkB, pkC, i64_w, i32_w]
            rfl
          refine pure_ (i := 9) (N := some 86) (v := ?_) (a' := ?_) #[tt,tt,tt,tt,tt,tt,tt,tt,tt,tt,ff] rfl rfl (by kernel_rfl) (fun _ _ _ h => h) (Or.inl ⟨by rfl, ?_⟩) ?_ ?_
          rotate_left
          · intro w'
            go_simp
            with_reducible rfl
          rotate_left
          · simp only [Act.put, pkA, pkB, pkC, i64_w, i32_w]
            rfl
          refine last_ (i := 10) (N := none) #[tt,tt,tt,tt,tt,tt,tt,tt,tt,tt,tt] rfl rfl (by kernel_rfl) (by decide) (fun K hK => ?_)
          refine skip_ (w1 := ?_) (by rfl) rfl ?_ ?_
          rotate_left
          · go_simp
            rfl
          refine hK.out _ _ ?_
          clear hK K
          refine done_ (by kernel_rfl) ?_
          go_wp2
          go_ret
          have hlen : (f.opn ++ [c]).length = f.opn.length + 1 := by simp
          have hE : StpsAt B w12 (.slice A12 (f.opn.length + 1) cp12) (f.opn ++ [c]) := by have h5 := HE3.out; rw [hlen] at h5; exact h5
          have hAt := HAt.out
          rw [hlen] at hAt
          obtain ⟨k1, k2⟩ := rmore HLf.out i x f HX.out HF.out c (c.go f.now) hE HG3.out hAt
          rw [HR3.out, HC2.out]
          exact ⟨rfl, ⟨_, _, _, _, _, k1⟩, HTf.out.trans k2⟩
    | false =>
      obtain ⟨ln, hln⟩ : ∃ ln, ln = f.now.length := ⟨_, rfl⟩
      have HLN := Aside0.mk hln
      by_cases hr : n < 0 ∨ (ln : Int) < n
      · have HR2 := Aside0.mk HR.out
        rw [← hln, if_pos (by first | exact hr | simpa using hr)] at HR2
        rw [← hln] at es hfl
        clear HR hln
        by_cases hneg : n < 0
        · have t1 : decide (n < 0) = true := decide_eq_true hneg
          go_wp2_with (go_at_call 100; refine HNw.out.mono ?_; rintro e w6 ⟨rfl, hb6⟩; have HB7 := Aside0.mk (HB6.out.trans (hb6.mono HB6.out.size)); have HL7 := Aside0.mk (same HL5.out hb6); have HOX := Aside0.mk (show ∀ k, x.2.ownBlock = some k → k < w6.heap.size from fun k hk => Nat.lt_of_lt_of_le (HO5.out k hk) hb6.size); clear hb6; simp only [strOfNums_size])
          go_ret
          rw [HR2.out]
          exact ⟨rfl, ⟨_, _, _, _, _, HL7.out⟩, RTurn.of_below HB7.out⟩
        · have t1 : decide (n < 0) = false := decide_eq_false hneg
          have t2 : decide ((ln : Int) < n) = true := decide_eq_true (by omega)
          go_wp2_with (go_at_call 100; refine HNw.out.mono ?_; rintro e w6 ⟨rfl, hb6⟩; have HB7 := Aside0.mk (HB6.out.trans (hb6.mono HB6.out.size)); have HL7 := Aside0.mk (same HL5.out hb6); have HOX := Aside0.mk (show ∀ k, x.2.ownBlock = some k → k < w6.heap.size from fun k hk => Nat.lt_of_lt_of_le (HO5.out k hk) hb6.size); clear hb6; simp only [strOfNums_size])
          go_ret
          rw [HR2.out]
          exact ⟨rfl, ⟨_, _, _, _, _, HL7.out⟩, RTurn.of_below HB7.out⟩
      have HR2 := Aside0.mk HR.out
      rw [← hln, if_neg (by first | exact hr | simpa using hr)] at HR2
      have t1 : decide (n < 0) = false := decide_eq_false (by omega)
      have t2 : decide ((ln : Int) < n) = false := decide_eq_false (by omega)
      obtain ⟨c, hc⟩ : ∃ c : Chg, c = ⟨(n).toNat, b, b3⟩ := ⟨_, rfl⟩
      have hcp : (c.pos : Int) = n := by rw [hc]; show ((n).toNat : Int) = _; omega
      have hcb : c.b = b := by rw [hc]
      have hcc : c.cut = b3 := by rw [hc]
      have HR3 := Aside0.mk (show chgD D s false b3 n b = changedD D i f c by rw [HR2.out, hc]; rfl)
      have HDo := Aside0.mk (fun (U : World) => postbagref05_Step_Do.calls (c.pos : Int) (strOfNums c.b) c.cut (strOfNums f.now) _ U (do_f c f.now (by omega) (by rw [hcb]; omega) (by omega)))
      have hgo : (c.go f.now).length ≤ 1080000000 := chg_len c f.now 1080000000 (by omega) (by rw [hcb]; omega)
      obtain ⟨lg, hlg⟩ : ∃ lg, lg = (c.go f.now).length := ⟨_, rfl⟩
      have HLG := Aside0.mk hlg
      rw [← hlg] at hgo
      rw [hcp, hcb, hcc] at HDo
      rw [← hln] at es hfl
      have HCP := Aside0.mk hcp
      have HCB := Aside0.mk hcb
      have HCC := Aside0.mk hcc
      clear HR HR2 hln hlg hc hcp hcb hcc hr
      obtain ⟨gr, hgr0⟩ : ∃ gr : Int, gr = (lg : Int) - (ln : Int) := ⟨_, rfl⟩
      have esub : wrap64 (((strOfNums (c.go f.now)).size : Int) - (ln : Int)) = gr := by rw [strOfNums_size, ← HLG.out, hgr0]; unfold wrap64; omega
      have HGR := Aside0.mk hgr0
      have hgb : gr ≤ 1080000000 ∧ -1080000000 ≤ gr := by omega
      clear hgr0
      go_upto_region 12 with (first
        | (go_at_call 100; refine HNw.out.mono ?_; rintro e w6 ⟨rfl, hb6⟩; have HB7 := Aside0.mk (HB6.out.trans (hb6.mono HB6.out.size)); have HL7 := Aside0.mk (same HL5.out hb6); have HOX := Aside0.mk (show ∀ k, x.2.ownBlock = some k → k < w6.heap.size from fun k hk => Nat.lt_of_lt_of_le (HO5.out k hk) hb6.size); clear hb6; skip)
        | (go_at_call 101; refine (HDo.out _).mono ?_; rintro e w8 ⟨rfl, hb8⟩; have HB8 := Aside0.mk (((Below.refl _ w6).alloc (Nat.le_refl _) (.cells #[.int .i64 n, .string (strOfNums b), .bool b3] tRS)).trans (hb8.mono (by simp))); have HE8 := Aside0.mk ((hb8.block _ (by simp)).trans (heap_alloc_new w6 (.cells #[.int .i64 n, .string (strOfNums b), .bool b3] tRS))); have HL8 := Aside0.mk (same HL7.out HB8.out); clear hb8))
      simp only [esub]
      have HB10 := Aside0.mk (show Below w.heap.size w w8 from HB7.out.trans (HB8.out.mono HB7.out.size))
      have HBd := Aside0.mk (show Below w.heap.size w w8.drew from HB10.out.drew)
      have HLd := Aside0.mk (show RLies B w8.drew p D L fv nv iv ov from same HL8.out (Below.refl _ _).drew)
      have HEd := Aside0.mk (show w8.drew.heap[w6.heap.size]? = some (.cells #[.int .i64 n, .string (strOfNums b), .bool b3] tRS (0, 0)) from HE8.out)
      clear HB8 HE8 HL8 HL7 HB7 HL5 HB6 HFa HNw HDo HB10 esub
      have z4 := (blk_cell HLd.out.obj 4).trans (rfl : _ = some (Value.int .i64 D.quota))
      obtain ⟨qt, hqt⟩ : ∃ qt, qt = D.quota := ⟨_, rfl⟩
      have HQT := Aside0.mk hqt
      rw [← hqt] at z4
      clear hqt
      by_cases hgp : 0 < gr
      · have tg : decide (0 < gr) = true := decide_eq_true hgp
        obtain ⟨us, hus⟩ : ∃ us : Int, us = (usedD D : Int) := ⟨_, rfl⟩
        have HU9 := Aside0.mk hus
        have hub : 0 ≤ us ∧ us ≤ 1073741824000000000 := ⟨by omega, by rw [hus]; exact HUl.out⟩
        have wadd : wrap64 (us + gr) = us + gr := by unfold wrap64; omega
        rw [← hus] at HUs
        clear hus
        refine start_ (n := 13) (S := fun w' => w'.cell? ⟨p, 4, none⟩ = some (.int .i64 qt)) (ds := []) #[ff,ff,ff,ff,ff,ff,ff,ff,ff,ff,ff,ff,ff] (by kernel_rfl) rfl rfl (z4) (fun hHeld => ?_)
        generalize w8.drew = w9 at HBd HLd HEd z4 hHeld ⊢
        have hHeld0 := hHeld
        refine pure_ (i := 0) (N := some 59) (v := ?_) (a' := ?_) #[tt,ff,ff,ff,ff,ff,ff,ff,ff,ff,ff,ff,ff] rfl rfl (by kernel_rfl) (fun _ _ _ h => h) (Or.inl ⟨by rfl, ?_⟩) ?_ ?_
        rotate_left
        · intro w'
          go_simp
          with_reducible rfl
        rotate_left
        · simp only [Act.put, pkA, pkB, pkC, i64_w, i32_w]
          rfl
        refine pure_ (i := 1) (N := some 60) (v := ?_) (a' := ?_) #[tt,tt,ff,ff,ff,ff,ff,ff,ff,ff,ff,ff,ff] rfl rfl (by kernel_rfl) (fun _ _ _ h => h) (Or.inl ⟨by rfl, ?_⟩) ?_ ?_
        rotate_left
        · intro w'
          go_simp
          with_reducible rfl
        rotate_left
        · simp only [Act.put, pkA, pkB, pkC, i64_w, i32_w]
          rfl
        refine pure_ (i := 2) (N := some 61) (v := ?_) (a' := ?_) #[tt,tt,tt,ff,ff,ff,ff,ff,ff,ff,ff,ff,ff] rfl rfl (by kernel_rfl) (fun _ _ _ h => h) (Or.inl ⟨by rfl, ?_⟩) ?_ ?_
        rotate_left
        · intro w'
          go_simp
          with_reducible rfl
        rotate_left
        · simp only [Act.put, pkA, pkB, pkC, i64_w, i32_w]
          rfl
        refine pure_ (i := 3) (N := some 62) (v := ?_) (a' := ?_) #[tt,tt,tt,tt,ff,ff,ff,ff,ff,ff,ff,ff,ff] rfl rfl (by kernel_rfl) (fun _ _ _ h => h) (Or.inl ⟨by rfl, ?_⟩) ?_ ?_
        rotate_left
        · intro w'
          go_simp
          with_reducible rfl
        rotate_left
        · simp only [Act.put, pkA, pkB, pkC, i64_w, i32_w]
          rfl
        refine pure_ (i := 5) (N := some 64) (v := ?_) (a' := ?_) #[tt,tt,tt,tt,ff,tt,ff,ff,ff,ff,ff,ff,ff] rfl rfl (by kernel_rfl) (fun _ _ _ h => h) (Or.inl ⟨by rfl, ?_⟩) ?_ ?_
        rotate_left
        · intro w'
          go_simp
          with_reducible rfl
        rotate_left
        · simp only [Act.put, pkA, pkB, pkC, i64_w, i32_w]
          rfl
        refine pure_ (i := 7) (N := some 66) (v := ?_) (a' := ?_) #[tt,tt,tt,tt,ff,tt,ff,tt,ff,ff,ff,ff,ff] rfl rfl (by kernel_rfl) (fun _ _ _ h => h) (Or.inl ⟨by rfl, ?_⟩) ?_ ?_
        rotate_left
        · intro w'
          go_simp
          with_reducible rfl
        rotate_left
        · simp only [Act.put, pkA, pkB, pkC, i64_w, i32_w]
          rfl
        refine pure_ (i := 8) (N := some 67) (v := ?_) (a' := ?_) #[tt,tt,tt,tt,ff,tt,ff,tt,tt,ff,ff,ff,ff] rfl rfl (by kernel_rfl) (fun _ _ _ h => h) (Or.inl ⟨by rfl, ?_⟩) ?_ ?_
        rotate_left
        · intro w'
          go_simp
          with_reducible rfl
        rotate_left
        · simp only [Act.put, pkA, pkB, pkC, i64_w, i32_w]
          rfl
        refine pure_ (i := 9) (N := some 68) (v := ?_) (a' := ?_) #[tt,tt,tt,tt,ff,tt,ff,tt,tt,tt,ff,ff,ff] rfl rfl (by kernel_rfl) (fun _ _ _ h => h) (Or.inl ⟨by rfl, ?_⟩) ?_ ?_
        rotate_left
        · intro w'
          go_simp
          with_reducible rfl
        rotate_left
        · simp only [Act.put, pkA, pkB, pkC, i64_w, i32_w]
          rfl
        refine take_ (i := 10) (N := some 69) (v := ?_) (a' := ?_) #[tt,tt,tt,tt,ff,tt,ff,tt,tt,tt,tt,ff,ff] rfl rfl (by kernel_rfl) (fun _ _ _ h => h) (Or.inl ⟨by rfl, ?_⟩) hHeld ?_ ?_
        rotate_left
        · intro w' s0
          go_simp
          with_reducible rfl
        rotate_left
        · simp only [Act.put, pkA, pkB, pkC, i64_w, i32_w]
          rfl
        refine one_ (i := 4) (N := some 63) #[tt,tt,tt,tt,tt,tt,ff,tt,tt,tt,tt,ff,ff] rfl rfl (by kernel_rfl) (by decide) (fun K hK => ?_)
        refine goes_ Tryz.func53 (by kernel_rfl) rfl #[.pointer (some ⟨p, 0, none⟩)] (by rfl) rfl rfl (by simp only [List.map_toArray, List.map_cons, List.map_nil]; rfl) ?_
        with_reducible refine (HUs.out _ HLd.out).mono ?_
        rintro e wc ⟨rfl, hbc⟩
        refine ⟨_, rfl, ?_⟩
        have HBc := Aside0.mk hbc
        have k4 := (hbc.cell (p := ⟨p, 4, none⟩) (World.block_lt_of_cell? w9 _ hHeld0)).trans hHeld0
        clear hbc
        refine hK.out _ _ (k4) (fun hHeld => ?_)
        clear hK K
        refine norm_ (a' := ?_) ?_ ?_
        rotate_left
        · show Act.put _ (some 63) _ = _
          simp only [Act.put, pkA, pkB, pkC, i64_w, i32_w]
          rfl
        refine pure_ (i := 6) (N := some 65) (v := ?_) (a' := ?_) #[tt,tt,tt,tt,tt,tt,tt,tt,tt,tt,tt,ff,ff] rfl rfl (by kernel_rfl) (fun _ _ _ h => h) (Or.inl ⟨by rfl, ?_⟩) ?_ ?_
        rotate_left
        · intro w'
          go_simp
          with_reducible rfl
        rotate_left
        · simp only [Act.put, pkA, pkB, pkC, i64_w, i32_w]
          rfl
        refine pure_ (i := 11) (N := some 70) (v := ?_) (a' := ?_) #[tt,tt,tt,tt,tt,tt,tt,tt,tt,tt,tt,tt,ff] rfl rfl (by kernel_rfl) (fun _ _ _ h => h) (Or.inl ⟨by rfl, ?_⟩) ?_ ?_
        rotate_left
        · intro w'
          go_simp
          with_reducible rfl
        rotate_left
        · simp only [Act.put, pkA, pkB, pkC, i64_w, i32_w]
          rfl
        refine pure_ (i := 12) (N := some 71) (v := ?_) (a' := ?_) #[tt,tt,tt,tt,tt,tt,tt,tt,tt,tt,tt,tt,tt] rfl rfl (by kernel_rfl) (fun _ _ _ h => h) (Or.inl ⟨by rfl, ?_⟩) ?_ ?_
        rotate_left
        · intro w'
          go_simp
          with_reducible rfl
        rotate_left
        · simp only [Act.put, pkA, pkB, pkC, i64_w, i32_w]
          rfl
        refine done_ (by kernel_rfl) ?_
        have HLe := Aside0.mk (same HLd.out HBc.out)
        have HBe := Aside0.mk (show Below w.heap.size w wc from HBd.out.trans (HBc.out.mono HBd.out.size))
        have HEe := Aside0.mk ((HBc.out.block _ (blk_lt HEd.out)).trans HEd.out)
        clear HLd HBd HEd HBc z4 hHeld hHeld0 k4
        by_cases hroom : qt < us + gr
        · have tq : decide (qt < wrap64 (us + gr)) = true := by rw [wadd]; exact decide_eq_true hroom
          have HC := Aside0.mk (show changedD D i f c = (some 7, D) by unfold changedD; rw [if_pos (by unfold noRoom; have h1 := HGR.out; have h2 := HLG.out; have h3 := HLN.out; have h4 := HQT.out; have h5 := HU9.out; omega)])
          go_wp2
          go_ret
          rw [HR3.out, HC.out]
          exact ⟨rfl, ⟨_, _, _, _, _, HLe.out⟩, RTurn.of_below HBe.out⟩
        · have tq : decide (qt < wrap64 (us + gr)) = false := by rw [wadd]; exact decide_eq_false hroom
          have HC := Aside0.mk (show changedD D i f c = if D.armed = 0 then (some 8, offD D) else (none, setF (stepD D) i ⟨c.go f.now, f.sure, f.opn ++ [c]⟩) by unfold changedD; rw [if_neg (by unfold noRoom; have h1 := HGR.out; have h2 := HLG.out; have h3 := HLN.out; have h4 := HQT.out; have h5 := HU9.out; omega)])
          by_cases h0 : D.armed = 0
          · have e1 : rstepD D = (8, offD D) := by unfold rstepD; rw [if_pos h0]
            have HS2 := Aside0.mk (HS.out _ HLe.out)
            have HC2 := Aside0.mk HC.out
            rw [e1] at HS2
            rw [if_pos h0] at HC2
            clear e1 h0 HC HS
            go_wp2_with (go_at_call 102; refine HS2.out.mono ?_; rintro e w10 ⟨rfl, hl2, ht2, hb2⟩; have HL10 := Aside0.mk hl2; have HT10 := Aside0.mk ((RTurn.of_below HBe.out).trans ht2); clear hl2 ht2 hb2)
            go_ret
            rw [HR3.out, HC2.out]
            exact ⟨rfl, ⟨_, _, _, _, _, HL10.out⟩, HT10.out⟩
          · have e1 : rstepD D = (0, stepD D) := by unfold rstepD; rw [if_neg h0]
            have HS2 := Aside0.mk (HS.out _ HLe.out)
            have HC2 := Aside0.mk HC.out
            rw [e1] at HS2
            rw [if_neg h0] at HC2
            have hbp : w6.heap.size ≠ p := blk_ne HEe.out HLe.out.obj (by decide)
            clear e1 h0 HC HS
            go_upto_region 17 with (go_at_call 102; refine HS2.out.mono ?_; rintro e w10 ⟨rfl, hl2, ht2, hb2⟩; have HL10 := Aside0.mk hl2; have HT10 := Aside0.mk ((RTurn.of_below HBe.out).trans ht2); have HE10 := Aside0.mk (hb2.obj HEe.out (fun e => hbp (Option.some.inj e))); clear hl2 ht2 hb2)
            have HLf := Aside0.mk (show RLies B w10.drew p (stepD D) L fv nv iv ov from same HL10.out (Below.refl _ _).drew)
            have HTf := Aside0.mk (show RTurn B w w10.drew from HT10.out.below (Below.refl _ _).drew)
            have HEf := Aside0.mk (show w10.drew.heap[w6.heap.size]? = some (.cells #[.int .i64 n, .string (strOfNums b), .bool b3] tRS (0, 0)) from HE10.out)
            have HFf := Aside0.mk (HLf.out.files.each i x f HX.out HF.out)
            have y0 := (blk_cell HEf.out 0).trans (rfl : _ = some (Value.int .i64 n))
            have y1 := (blk_cell HEf.out 1).trans (rfl : _ = some (Value.string (strOfNums b)))
            have y2 := (blk_cell HEf.out 2).trans (rfl : _ = some (Value.bool b3))
            have y3 := (blk_cell HFf.out.obj 1).trans (rfl : _ = some x.2)
            have HCn := Aside0.mk (show f.opn.length ≤ 1000000000 by have h1 := HFk.out.cnt; have h2 := HSt.out; omega)
            have hBs : B ≤ w10.drew.heap.size := Nat.le_trans hBp (Nat.le_of_lt (blk_lt HLf.out.obj))
            clear HL10 HT10 HE10 HS2 HLe HBe HEe
            refine start_ (n := 11) (S := fun w' => w'.cell? ⟨w6.heap.size, 0, none⟩ = some (.int .i64 n) ∧ w'.cell? ⟨w6.heap.size, 1, none⟩ = some (.string (strOfNums b)) ∧ w'.cell? ⟨w6.heap.size, 2, none⟩ = some (.bool b3) ∧ w'.cell? ⟨x.1, 1, none⟩ = some x.2) (ds := [10]) #[ff,ff,ff,ff,ff,ff,ff,ff,ff,ff,ff] (by kernel_rfl) rfl rfl ⟨y0, y1, y2, y3⟩ (fun hHeld => ?_)
            generalize w10.drew = w11 at HLf HTf HEf HFf y0 y1 y2 y3 hBs hHeld ⊢
            have hHeld0 := hHeld
            refine pure_ (i := 0) (N := some 77) (v := ?_) (a' := ?_) #[tt,ff,ff,ff,ff,ff,ff,ff,ff,ff,ff] rfl rfl (by kernel_rfl) (fun _ _ _ h => h) (Or.inl ⟨by rfl, ?_⟩) ?_ ?_
            rotate_left
            · intro w'
              go_simp
              with_reducible rfl
            rotate_left
            · simp only [Act.put, pkA, pkB, pkC, i64_w, i32_w]
              rfl
            refine pure_ (i := 1) (N := some 78) (v := ?_) (a' := ?_) #[tt,tt,ff,ff,ff,ff,ff,ff,ff,ff,ff] rfl rfl (by kernel_rfl) (fun _ _ _ h => h) (Or.inl ⟨by rfl, ?_⟩) ?_ ?_
            rotate_left
            · intro w'
              go_simp
              with_reducible rfl
            rotate_left
            · simp only [Act.put, pkA, pkB, pkC, i64_w, i32_w]
              rfl
            refine pure_ (i := 2) (N := some 79) (v := ?_) (a' := ?_) #[tt,tt,tt,ff,ff,ff,ff,ff,ff,ff,ff] rfl rfl (by kernel_rfl) (fun _ _ _ h => h) (Or.inl ⟨by rfl, ?_⟩) ?_ ?_
            rotate_left
            · intro w'
              go_simp
              with_reducible rfl
            rotate_left
            · simp only [Act.put, pkA, pkB, pkC, i64_w, i32_w]
              rfl
            refine pure_ (i := 3) (N := some 80) (v := ?_) (a' := ?_) #[tt,tt,tt,tt,ff,ff,ff,ff,ff,ff,ff] rfl rfl (by kernel_rfl) (fun _ _ _ h => h) (Or.inl ⟨by rfl, ?_⟩) ?_ ?_
            rotate_left
            · intro w'
              go_simp
              with_reducible rfl
            rotate_left
            · simp only [Act.put, pkA, pkB, pkC, i64_w, i32_w]
              rfl
            refine take_ (i := 4) (N := some 81) (v := ?_) (a' := ?_) #[tt,tt,tt,tt,tt,ff,ff,ff,ff,ff,ff] rfl rfl (by kernel_rfl) (fun _ _ _ h => h) (Or.inl ⟨by rfl, ?_⟩) hHeld ?_ ?_
            rotate_left
            · rintro w' ⟨s0, s1, s2, s3⟩
              go_simp
              with_reducible rfl
            rotate_left
            · simp only [Act.put, pkA, pkB, pkC, i64_w, i32_w]
              rfl
            refine take_ (i := 5) (N := some 82) (v := ?_) (a' := ?_) #[tt,tt,tt,tt,tt,tt,ff,ff,ff,ff,ff] rfl rfl (by kernel_rfl) (fun _ _ _ h => h) (Or.inl ⟨by rfl, ?_⟩) hHeld ?_ ?_
            rotate_left
            · rintro w' ⟨s0, s1, s2, s3⟩
              go_simp
              with_reducible rfl
            rotate_left
            · simp only [Act.put, pkA, pkB, pkC, i64_w, i32_w]
              rfl
            refine one_ (i := 6) (N := some 83) #[tt,tt,tt,tt,tt,tt,tt,ff,ff,ff,ff] rfl rfl (by kernel_rfl) (by decide) (fun K hK => ?_)
            refine value_ (w1 := ?_) (v := ?_) (by rfl) rfl ?_ ?_
            rotate_left 2
            · go_simp
              constructor
              · rfl
              · rfl
            have k := fun (g i : Nat) (v : Value) (hc : w11.cell? ⟨g, i, none⟩ = some v) => (((Below.refl _ w11).alloc (Nat.le_refl _) (.cells #[.int .i64 n, .string (strOfNums b), .bool b3] 147)).cell (p := ⟨g, i, none⟩) (World.block_lt_of_cell? w11 _ hc)).trans hc
            refine hK.out _ _ ⟨(k _ _ _ hHeld.1), (k _ _ _ hHeld.2.1), (k _ _ _ hHeld.2.2.1), (k _ _ _ hHeld.2.2.2)⟩ (fun hHeld => ?_)
            clear hK K
            refine norm_ (a' := ?_) ?_ ?_
            rotate_left
            · show Act.put _ (some 83) _ = _
              simp only [Act.put, pkA, pkB, pkC, i64_w, i32_w]
              rfl
            refine one_ (i := 7) (N := some 84) #[tt,tt,tt,tt,tt,tt,tt,tt,ff,ff,ff] rfl rfl (by kernel_rfl) (by decide) (fun K hK => ?_)
            refine Kd.R_append_step kStp (w0 := w11) B (by rfl) (.tmp 81) (.tmp 83) 49 147 (.agg #[.int .i64 0, .string ⟨#[]⟩, .bool false]) 32 rfl Tryz.underlying49 infoS3 rfl (by decide) (by omega) x.2 f.opn c [.int .i64 n, .string (strOfNums b), .bool b3] (fun _ => True) (fun _ => False) rfl rfl ?aP (fun _ h => h.elim) (fun _ _ => trivial) ?aO (Below.refl _ _) ?aS ?aL ?_
            case aP => rw [← HCP.out, ← HCB.out, ← HCC.out]; exact ⟨[.int .i64 (c.pos : Int)], [.string (strOfNums c.b), .bool c.cut], rfl, rfl, [.string (strOfNums c.b)], [.bool c.cut], rfl, rfl, rfl⟩
            case aO => exact HFf.out.opn
            case aS => exact hBs
            case aL => have := HCn.out; omega
            intro v12 w12 ho hb hg hat
            obtain ⟨A12, cp12, rfl⟩ := Kd.R_slice ho
            obtain ⟨inner, how⟩ := own_of HFf.out.opn
            have n5 : some x.1 ≠ x.2.ownBlock := fun e => by obtain ⟨cs, hc⟩ := own_typed how _ e.symm; rw [HFf.out.obj] at hc; cases hc
            have n6 : some w6.heap.size ≠ x.2.ownBlock := fun e => by have h8 := HOX.out _ e.symm; omega
            have k := fun (g i : Nat) (v : Value) (hc : w11.cell? ⟨g, i, none⟩ = some v) (hne : some g ≠ x.2.ownBlock) => hg.cell (a := ⟨g, i, none⟩) (v := v) hc hne
            have e0 := k _ _ _ hHeld0.1 n6
            have e1 := k _ _ _ hHeld0.2.1 n6
            have e2 := k _ _ _ hHeld0.2.2.1 n6
            have e3 := k _ _ _ hHeld0.2.2.2 n5
            have fz : w12.frozen? ⟨x.1, 1, none⟩ = false := blk_frozen ((But.grown hg).obj HFf.out.obj n5) 1
            have HE3 := Aside0.mk ho
            have HG3 := Aside0.mk hg
            have HAt := Aside0.mk hat
            clear ho hb hg hat how k n5 n6
            refine hK.out _ _ ⟨e0, e1, e2, e3⟩ (fun hHeld => ?_)
            clear hK K
            refine norm_ (a' := ?_) ?_ ?_
            rotate_left
            · show Act.put _ (some 84) _ = _
              simp only [Act.put, pkA, pkB, pkC, i64_w, i32_w]
              rfl
            refine pure_ (i := 8) (N := some 85) (v := ?_) (a' := ?_) #[tt,tt,tt,tt,tt,tt,tt,tt,tt,ff,ff] rfl rfl (by kernel_rfl) (fun _ _ _ h => h) (Or.inl ⟨by rfl, ?_⟩) ?_ ?_
            rotate_left
            · intro w'
              go_simp
              with_reducible rfl
            rotate_left
            · simp only [Act.put, pkA, pkB, pkC, i64_w, i32_w]
              rfl
            refine pure_ (i := 9) (N := some 86) (v := ?_) (a' := ?_) #[tt,tt,tt,tt,tt,tt,tt,tt,tt,tt,ff] rfl rfl (by kernel_rfl) (fun _ _ _ h => h) (Or.inl ⟨by rfl, ?_⟩) ?_ ?_
            rotate_left
            · intro w'
              go_simp
              with_reducible rfl
            rotate_left
            · simp only [Act.put, pkA, pkB, pkC, i64_w, i32_w]
              rfl
            refine last_ (i := 10) (N := none) #[tt,tt,tt,tt,tt,tt,tt,tt,tt,tt,tt] rfl rfl (by kernel_rfl) (by decide) (fun K hK => ?_)
            refine skip_ (w1 := ?_) (by rfl) rfl ?_ ?_
            rotate_left
            · go_simp
              rfl
            refine hK.out _ _ ?_
            clear hK K
            refine done_ (by kernel_rfl) ?_
            go_wp2
            go_ret
            have hlen : (f.opn ++ [c]).length = f.opn.length + 1 := by simp
            have hE : StpsAt B w12 (.slice A12 (f.opn.length + 1) cp12) (f.opn ++ [c]) := by have h5 := HE3.out; rw [hlen] at h5; exact h5
            have hAt := HAt.out
            rw [hlen] at hAt
            obtain ⟨k1, k2⟩ := rmore HLf.out i x f HX.out HF.out c (c.go f.now) hE HG3.out hAt
            rw [HR3.out, HC2.out]
            exact ⟨rfl, ⟨_, _, _, _, _, k1⟩, HTf.out.trans k2⟩
      · have tg : decide (0 < gr) = false := decide_eq_false hgp
        have HC := Aside0.mk (show changedD D i f c = if D.armed = 0 then (some 8, offD D) else (none, setF (stepD D) i ⟨c.go f.now, f.sure, f.opn ++ [c]⟩) by unfold changedD; rw [if_neg (by unfold noRoom; have h1 := HGR.out; have h2 := HLG.out; have h3 := HLN.out; omega)])
        refine start_ (n := 13) (S := fun w' => True) (ds := []) #[ff,ff,ff,ff,ff,ff,ff,ff,ff,ff,ff,ff,ff] (by kernel_rfl) rfl rfl trivial (fun hHeld => ?_)
        generalize w8.drew = w9 at HBd HLd HEd z4 hHeld ⊢
        refine pure_ (i := 0) (N := some 59) (v := ?_) (a' := ?_) #[tt,ff,ff,ff,ff,ff,ff,ff,ff,ff,ff,ff,ff] rfl rfl (by kernel_rfl) (fun _ _ _ h => h) (Or.inl ⟨by rfl, ?_⟩) ?_ ?_
        rotate_left
        · intro w'
          go_simp
          with_reducible rfl
        rotate_left
        · simp only [Act.put, pkA, pkB, pkC, i64_w, i32_w]
          rfl
        refine pure_ (i := 1) (N := some 60) (v := ?_) (a' := ?_) #[tt,tt,ff,ff,ff,ff,ff,ff,ff,ff,ff,ff,ff] rfl rfl (by kernel_rfl) (fun _ _ _ h => h) (Or.inl ⟨by rfl, ?_⟩) ?_ ?_
        rotate_left
        · intro w'
          go_simp
          with_reducible rfl
        rotate_left
        · simp only [Act.put, pkA, pkB, pkC, i64_w, i32_w]
          rfl
        refine pure_ (i := 2) (N := some 61) (v := ?_) (a' := ?_) #[tt,tt,tt,ff,ff,ff,ff,ff,ff,ff,ff,ff,ff] rfl rfl (by kernel_rfl) (fun _ _ _ h => h) (Or.inl ⟨by rfl, ?_⟩) ?_ ?_
        rotate_left
        · intro w'
          go_simp
          with_reducible rfl
        rotate_left
        · simp only [Act.put, pkA, pkB, pkC, i64_w, i32_w]
          rfl
        refine pure_ (i := 3) (N := some 62) (v := undef) (a' := ?_) #[tt,tt,tt,tt,ff,ff,ff,ff,ff,ff,ff,ff,ff] rfl rfl (by kernel_rfl) (fun _ _ _ h => h) (Or.inr ⟨by rfl, rfl⟩) ?_ ?_
        rotate_left
        · simp only [Act.put, pkA, pkB, pkC, i64_w, i32_w]
          rfl
        refine pure_ (i := 4) (N := some 63) (v := undef) (a' := ?_) #[tt,tt,tt,tt,tt,ff,ff,ff,ff,ff,ff,ff,ff] rfl rfl (by kernel_rfl) (fun _ _ _ h => h) (Or.inr ⟨by rfl, rfl⟩) ?_ ?_
        rotate_left
        · simp only [Act.put, pkA, pkB, pkC, i64_w, i32_w]
          rfl
        refine pure_ (i := 5) (N := some 64) (v := undef) (a' := ?_) #[tt,tt,tt,tt,tt,tt,ff,ff,ff,ff,ff,ff,ff] rfl rfl (by kernel_rfl) (fun _ _ _ h => h) (Or.inr ⟨by rfl, rfl⟩) ?_ ?_
        rotate_left
        · simp only [Act.put, pkA, pkB, pkC, i64_w, i32_w]
          rfl
        refine pure_ (i := 6) (N := some 65) (v := undef) (a' := ?_) #[tt,tt,tt,tt,tt,tt,tt,ff,ff,ff,ff,ff,ff] rfl rfl (by kernel_rfl) (fun _ _ _ h => h) (Or.inr ⟨by rfl, rfl⟩) ?_ ?_
        rotate_left
        · simp only [Act.put, pkA, pkB, pkC, i64_w, i32_w]
          rfl
        refine pure_ (i := 7) (N := some 66) (v := undef) (a' := ?_) #[tt,tt,tt,tt,tt,tt,tt,tt,ff,ff,ff,ff,ff] rfl rfl (by kernel_rfl) (fun _ _ _ h => h) (Or.inr ⟨by rfl, rfl⟩) ?_ ?_
        rotate_left
        · simp only [Act.put, pkA, pkB, pkC, i64_w, i32_w]
          rfl
        refine pure_ (i := 8) (N := some 67) (v := undef) (a' := ?_) #[tt,tt,tt,tt,tt,tt,tt,tt,tt,ff,ff,ff,ff] rfl rfl (by kernel_rfl) (fun _ _ _ h => h) (Or.inr ⟨by rfl, rfl⟩) ?_ ?_
        rotate_left
        · simp only [Act.put, pkA, pkB, pkC, i64_w, i32_w]
          rfl
        refine pure_ (i := 9) (N := some 68) (v := undef) (a' := ?_) #[tt,tt,tt,tt,tt,tt,tt,tt,tt,tt,ff,ff,ff] rfl rfl (by kernel_rfl) (fun _ _ _ h => h) (Or.inr ⟨by rfl, rfl⟩) ?_ ?_
        rotate_left
        · simp only [Act.put, pkA, pkB, pkC, i64_w, i32_w]
          rfl
        refine pure_ (i := 10) (N := some 69) (v := undef) (a' := ?_) #[tt,tt,tt,tt,tt,tt,tt,tt,tt,tt,tt,ff,ff] rfl rfl (by kernel_rfl) (fun _ _ _ h => h) (Or.inr ⟨by rfl, rfl⟩) ?_ ?_
        rotate_left
        · simp only [Act.put, pkA, pkB, pkC, i64_w, i32_w]
          rfl
        refine pure_ (i := 11) (N := some 70) (v := undef) (a' := ?_) #[tt,tt,tt,tt,tt,tt,tt,tt,tt,tt,tt,tt,ff] rfl rfl (by kernel_rfl) (fun _ _ _ h => h) (Or.inr ⟨by rfl, rfl⟩) ?_ ?_
        rotate_left
        · simp only [Act.put, pkA, pkB, pkC, i64_w, i32_w]
          rfl
        refine pure_ (i := 12) (N := some 71) (v := ?_) (a' := ?_) #[tt,tt,tt,tt,tt,tt,tt,tt,tt,tt,tt,tt,tt] rfl rfl (by kernel_rfl) (fun _ _ _ h => h) (Or.inl ⟨by rfl, ?_⟩) ?_ ?_
        rotate_left
        · intro w'
          go_simp
          with_reducible rfl
        rotate_left
        · simp only [Act.put, pkA, pkB, pkC, i64_w, i32_w]
          rfl
        refine done_ (by kernel_rfl) ?_
        have HLe := Aside0.mk HLd.out
        have HBe := Aside0.mk HBd.out
        have HEe := Aside0.mk HEd.out
        clear HLd HBd HEd z4 hHeld
        by_cases h0 : D.armed = 0
        · have e1 : rstepD D = (8, offD D) := by unfold rstepD; rw [if_pos h0]
          have HS2 := Aside0.mk (HS.out _ HLe.out)
          have HC2 := Aside0.mk HC.out
          rw [e1] at HS2
          rw [if_pos h0] at HC2
          clear e1 h0 HC HS
          go_wp2_with (go_at_call 102; refine HS2.out.mono ?_; rintro e w10 ⟨rfl, hl2, ht2, hb2⟩; have HL10 := Aside0.mk hl2; have HT10 := Aside0.mk ((RTurn.of_below HBe.out).trans ht2); clear hl2 ht2 hb2)
          go_ret
          rw [HR3.out, HC2.out]
          exact ⟨rfl, ⟨_, _, _, _, _, HL10.out⟩, HT10.out⟩
        · have e1 : rstepD D = (0, stepD D) := by unfold rstepD; rw [if_neg h0]
          have HS2 := Aside0.mk (HS.out _ HLe.out)
          have HC2 := Aside0.mk HC.out
          rw [e1] at HS2
          rw [if_neg h0] at HC2
          have hbp : w6.heap.size ≠ p := blk_ne HEe.out HLe.out.obj (by decide)
          clear e1 h0 HC HS
          go_upto_region 17 with (go_at_call 102; refine HS2.out.mono ?_; rintro e w10 ⟨rfl, hl2, ht2, hb2⟩; have HL10 := Aside0.mk hl2; have HT10 := Aside0.mk ((RTurn.of_below HBe.out).trans ht2); have HE10 := Aside0.mk (hb2.obj HEe.out (fun e => hbp (Option.some.inj e))); clear hl2 ht2 hb2)
          have HLf := Aside0.mk (show RLies B w10.drew p (stepD D) L fv nv iv ov from same HL10.out (Below.refl _ _).drew)
          have HTf := Aside0.mk (show RTurn B w w10.drew from HT10.out.below (Below.refl _ _).drew)
          have HEf := Aside0.mk (show w10.drew.heap[w6.heap.size]? = some (.cells #[.int .i64 n, .string (strOfNums b), .bool b3] tRS (0, 0)) from HE10.out)
          have HFf := Aside0.mk (HLf.out.files.each i x f HX.out HF.out)
          have y0 := (blk_cell HEf.out 0).trans (rfl : _ = some (Value.int .i64 n))
          have y1 := (blk_cell HEf.out 1).trans (rfl : _ = some (Value.string (strOfNums b)))
          have y2 := (blk_cell HEf.out 2).trans (rfl : _ = some (Value.bool b3))
          have y3 := (blk_cell HFf.out.obj 1).trans (rfl : _ = some x.2)
          have HCn := Aside0.mk (show f.opn.length ≤ 1000000000 by have h1 := HFk.out.cnt; have h2 := HSt.out; omega)
          have hBs : B ≤ w10.drew.heap.size := Nat.le_trans hBp (Nat.le_of_lt (blk_lt HLf.out.obj))
          clear HL10 HT10 HE10 HS2 HLe HBe HEe
          refine start_ (n := 11) (S := fun w' => w'.cell? ⟨w6.heap.size, 0, none⟩ = some (.int .i64 n) ∧ w'.cell? ⟨w6.heap.size, 1, none⟩ = some (.string (strOfNums b)) ∧ w'.cell? ⟨w6.heap.size, 2, none⟩ = some (.bool b3) ∧ w'.cell? ⟨x.1, 1, none⟩ = some x.2) (ds := [10]) #[ff,ff,ff,ff,ff,ff,ff,ff,ff,ff,ff] (by kernel_rfl) rfl rfl ⟨y0, y1, y2, y3⟩ (fun hHeld => ?_)
          generalize w10.drew = w11 at HLf HTf HEf HFf y0 y1 y2 y3 hBs hHeld ⊢
          have hHeld0 := hHeld
          refine pure_ (i := 0) (N := some 77) (v := ?_) (a' := ?_) #[tt,ff,ff,ff,ff,ff,ff,ff,ff,ff,ff] rfl rfl (by kernel_rfl) (fun _ _ _ h => h) (Or.inl ⟨by rfl, ?_⟩) ?_ ?_
          rotate_left
          · intro w'
            go_simp
            with_reducible rfl
          rotate_left
          · simp only [Act.put, pkA, pkB, pkC, i64_w, i32_w]
            rfl
          refine pure_ (i := 1) (N := some 78) (v := ?_) (a' := ?_) #[tt,tt,ff,ff,ff,ff,ff,ff,ff,ff,ff] rfl rfl (by kernel_rfl) (fun _ _ _ h => h) (Or.inl ⟨by rfl, ?_⟩) ?_ ?_
          rotate_left
          · intro w'
            go_simp
            with_reducible rfl
          rotate_left
          · simp only [Act.put, pkA, pkB, pkC, i64_w, i32_w]
            rfl
          refine pure_ (i := 2) (N := some 79) (v := ?_) (a' := ?_) #[tt,tt,tt,ff,ff,ff,ff,ff,ff,ff,ff] rfl rfl (by kernel_rfl) (fun _ _ _ h => h) (Or.inl ⟨by rfl, ?_⟩) ?_ ?_
          rotate_left
          · intro w'
            go_simp
            with_reducible rfl
          rotate_left
          · simp only [Act.put, pkA, pkB, pkC, i64_w, i32_w]
            rfl
          refine pure_ (i := 3) (N := some 80) (v := ?_) (a' := ?_) #[tt,tt,tt,tt,ff,ff,ff,ff,ff,ff,ff] rfl rfl (by kernel_rfl) (fun _ _ _ h => h) (Or.inl ⟨by rfl, ?_⟩) ?_ ?_
          rotate_left
          · intro w'
            go_simp
            with_reducible rfl
          rotate_left
          · simp only [Act.put, pkA, pkB, pkC, i64_w, i32_w]
            rfl
          refine take_ (i := 4) (N := some 81) (v := ?_) (a' := ?_) #[tt,tt,tt,tt,tt,ff,ff,ff,ff,ff,ff] rfl rfl (by kernel_rfl) (fun _ _ _ h => h) (Or.inl ⟨by rfl, ?_⟩) hHeld ?_ ?_
          rotate_left
          · rintro w' ⟨s0, s1, s2, s3⟩
            go_simp
            with_reducible rfl
          rotate_left
          · simp only [Act.put, pkA, pkB, pkC, i64_w, i32_w]
            rfl
          refine take_ (i := 5) (N := some 82) (v := ?_) (a' := ?_) #[tt,tt,tt,tt,tt,tt,ff,ff,ff,ff,ff] rfl rfl (by kernel_rfl) (fun _ _ _ h => h) (Or.inl ⟨by rfl, ?_⟩) hHeld ?_ ?_
          rotate_left
          · rintro w' ⟨s0, s1, s2, s3⟩
            go_simp
            with_reducible rfl
          rotate_left
          · simp only [Act.put, pkA, pkB, pkC, i64_w, i32_w]
            rfl
          refine one_ (i := 6) (N := some 83) #[tt,tt,tt,tt,tt,tt,tt,ff,ff,ff,ff] rfl rfl (by kernel_rfl) (by decide) (fun K hK => ?_)
          refine value_ (w1 := ?_) (v := ?_) (by rfl) rfl ?_ ?_
          rotate_left 2
          · go_simp
            constructor
            · rfl
            · rfl
          have k := fun (g i : Nat) (v : Value) (hc : w11.cell? ⟨g, i, none⟩ = some v) => (((Below.refl _ w11).alloc (Nat.le_refl _) (.cells #[.int .i64 n, .string (strOfNums b), .bool b3] 147)).cell (p := ⟨g, i, none⟩) (World.block_lt_of_cell? w11 _ hc)).trans hc
          refine hK.out _ _ ⟨(k _ _ _ hHeld.1), (k _ _ _ hHeld.2.1), (k _ _ _ hHeld.2.2.1), (k _ _ _ hHeld.2.2.2)⟩ (fun hHeld => ?_)
          clear hK K
          refine norm_ (a' := ?_) ?_ ?_
          rotate_left
          · show Act.put _ (some 83) _ = _
            simp only [Act.put, pkA, pkB, pkC, i64_w, i32_w]
            rfl
          refine one_ (i := 7) (N := some 84) #[tt,tt,tt,tt,tt,tt,tt,tt,ff,ff,ff] rfl rfl (by kernel_rfl) (by decide) (fun K hK => ?_)
          refine Kd.R_append_step kStp (w0 := w11) B (by rfl) (.tmp 81) (.tmp 83) 49 147 (.agg #[.int .i64 0, .string ⟨#[]⟩, .bool false]) 32 rfl Tryz.underlying49 infoS3 rfl (by decide) (by omega) x.2 f.opn c [.int .i64 n, .string (strOfNums b), .bool b3] (fun _ => True) (fun _ => False) rfl rfl ?aP (fun _ h => h.elim) (fun _ _ => trivial) ?aO (Below.refl _ _) ?aS ?aL ?_
          case aP => rw [← HCP.out, ← HCB.out, ← HCC.out]; exact ⟨[.int .i64 (c.pos : Int)], [.string (strOfNums c.b), .bool c.cut], rfl, rfl, [.string (strOfNums c.b)], [.bool c.cut], rfl, rfl, rfl⟩
          case aO => exact HFf.out.opn
          case aS => exact hBs
          case aL => have := HCn.out; omega
          intro v12 w12 ho hb hg hat
          obtain ⟨A12, cp12, rfl⟩ := Kd.R_slice ho
          obtain ⟨inner, how⟩ := own_of HFf.out.opn
          have n5 : some x.1 ≠ x.2.ownBlock := fun e => by obtain ⟨cs, hc⟩ := own_typed how _ e.symm; rw [HFf.out.obj] at hc; cases hc
          have n6 : some w6.heap.size ≠ x.2.ownBlock := fun e => by have h8 := HOX.out _ e.symm; omega
          have k := fun (g i : Nat) (v : Value) (hc : w11.cell? ⟨g, i, none⟩ = some v) (hne : some g ≠ x.2.ownBlock) => hg.cell (a := ⟨g, i, none⟩) (v := v) hc hne
          have e0 := k _ _ _ hHeld0.1 n6
          have e1 := k _ _ _ hHeld0.2.1 n6
          have e2 := k _ _ _ hHeld0.2.2.1 n6
          have e3 := k _ _ _ hHeld0.2.2.2 n5
          have fz : w12.frozen? ⟨x.1, 1, none⟩ = false := blk_frozen ((But.grown hg).obj HFf.out.obj n5) 1
          have HE3 := Aside0.mk ho
          have HG3 := Aside0.mk hg
          have HAt := Aside0.mk hat
          clear ho hb hg hat how k n5 n6
          refine hK.out _ _ ⟨e0, e1, e2, e3⟩ (fun hHeld => ?_)
          clear hK K
          refine norm_ (a' := ?_) ?_ ?_
          rotate_left
          · show Act.put _ (some 84) _ = _
            simp only [Act.put, pkA, pkB, pkC, i64_w, i32_w]
            rfl
          refine pure_ (i := 8) (N := some 85) (v := ?_) (a' := ?_) #[tt,tt,tt,tt,tt,tt,tt,tt,tt,ff,ff] rfl rfl (by kernel_rfl) (fun _ _ _ h => h) (Or.inl ⟨by rfl, ?_⟩) ?_ ?_
          rotate_left
          · intro w'
            go_simp
            with_reducible rfl
          rotate_left
          · simp only [Act.put, pkA, pkB, pkC, i64_w, i32_w]
            rfl
          refine pure_ (i := 9) (N := some 86) (v := ?_) (a' := ?_) #[tt,tt,tt,tt,tt,tt,tt,tt,tt,tt,ff] rfl rfl (by kernel_rfl) (fun _ _ _ h => h) (Or.inl ⟨by rfl, ?_⟩) ?_ ?_
          rotate_left
          · intro w'
            go_simp
            with_reducible rfl
          rotate_left
          · simp only [Act.put, pkA, pkB, pkC, i64_w, i32_w]
            rfl
          refine last_ (i := 10) (N := none) #[tt,tt,tt,tt,tt,tt,tt,tt,tt,tt,tt] rfl rfl (by kernel_rfl) (by decide) (fun K hK => ?_)
          refine skip_ (w1 := ?_) (by rfl) rfl ?_ ?_
          rotate_left
          · go_simp
            rfl
          refine hK.out _ _ ?_
          clear hK K
          refine done_ (by kernel_rfl) ?_
          go_wp2
          go_ret
          have hlen : (f.opn ++ [c]).length = f.opn.length + 1 := by simp
          have hE : StpsAt B w12 (.slice A12 (f.opn.length + 1) cp12) (f.opn ++ [c]) := by have h5 := HE3.out; rw [hlen] at h5; exact h5
          have hAt := HAt.out
          rw [hlen] at hAt
          obtain ⟨k1, k2⟩ := rmore HLf.out i x f HX.out HF.out c (c.go f.now) hE HG3.out hAt
          rw [HR3.out, HC2.out]
          exact ⟨rfl, ⟨_, _, _, _, _, k1⟩, HTf.out.trans k2⟩
end
end Go.Proofs.YtpcfnkmljchiiaaGreatDoor.DRne
