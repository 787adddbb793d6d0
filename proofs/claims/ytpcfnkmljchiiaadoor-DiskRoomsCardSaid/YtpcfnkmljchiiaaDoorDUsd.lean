/- Disk.Used: how many bytes all files have. -/
import Derived.Test.YtpcfnkmljchiiaaDoorDFil
import Derived.Sort.MapsRangeIn
namespace Go.Proofs.YtpcfnkmljchiiaaDoor.DUsd
open Go Go.RowKit Go.Maps Go.WideMaps Go.Proofs.YtpcfnkmljchiiaaDoorW.PrintWords Go.Proofs.YtpcfnkmljchiiaaDoorW.PrintLast Go.Proofs.YtpcfnkmljchiiaaDoor.DBase Go.Proofs.YtpcfnkmljchiiaaDoor.DPl Go.Proofs.YtpcfnkmljchiiaaDoor.DAt Go.Proofs.YtpcfnkmljchiiaaDoor.DEnt Go.Proofs.YtpcfnkmljchiiaaDoor.DNam Go.Proofs.YtpcfnkmljchiiaaDoor.Is Go.Proofs.YtpcfnkmljchiiaaDoor.DFil
set_option linter.unusedVariables false
set_option linter.unusedSimpArgs false
/-- What is no longer to come. -/
def gone (sz : Int → Nat) (N : Nms) (left : Lit → Bool) : Nat := (N.map fun p => cond (left (.string p.1)) 0 (sz p.2)).sum
theorem gone_cons (sz : Int → Nat) (p : List UInt8 × Int) (N : Nms) (left : Lit → Bool) : gone sz (p :: N) left = cond (left (.string p.1)) 0 (sz p.2) + gone sz N left := by unfold gone; rw [List.map_cons, List.sum_cons]
theorem gone_congr (sz : Int → Nat) (left left' : Lit → Bool) : ∀ N : Nms, (∀ p ∈ N, left (.string p.1) = left' (.string p.1)) → gone sz N left = gone sz N left'
  | [], _ => rfl
  | p :: r, h => by rw [gone_cons, gone_cons, h p List.mem_cons_self, gone_congr sz left left' r (fun q hq => h q (List.mem_cons_of_mem _ hq))]
theorem gone_true (sz : Int → Nat) : ∀ N : Nms, gone sz N (fun _ => true) = 0
  | [] => rfl
  | p :: r => by rw [gone_cons, gone_true sz r]; rfl
theorem gone_start (sz : Int → Nat) (N : Nms) : gone sz N (Maps.has (nmData N)) = 0 := by
  rw [gone_congr sz _ (fun _ => true) N (fun p hp => by rw [nmData_has]; exact List.any_eq_true.2 ⟨p, hp, by simp⟩), gone_true]
theorem gone_end (sz : Int → Nat) (N : Nms) (left : Lit → Bool) (h : ∀ k, left k = false) : gone sz N left = (N.map fun p => sz p.2).sum := by
  unfold gone
  congr 1
  exact List.map_congr_left (fun p _ => by rw [h]; rfl)
theorem gone_le (sz : Int → Nat) (m : Nat) (hs : ∀ i, sz i ≤ m) (left : Lit → Bool) : ∀ N : Nms, gone sz N left ≤ N.length * m
  | [] => by simp [gone]
  | p :: r => by
    have h1 := gone_le sz m hs left r
    have h2 := hs p.2
    rw [gone_cons, List.length_cons, Nat.add_mul]
    cases left (.string p.1) <;> simp only [cond] <;> omega
theorem key_eq (a b : List UInt8) : (Lit.string a).sameKey (Lit.string b) = (a == b) := rfl
theorem gone_step (sz : Int → Nat) (left : Lit → Bool) (k : List UInt8) (c : Int) (hl : left (.string k) = true) : ∀ N : Nms, N.Pairwise (fun p q => p.1 ≠ q.1) → (k, c) ∈ N → gone sz N (fun z => left z && !z.sameKey (.string k)) = gone sz N left + sz c
  | [], _, h => by cases h
  | p :: r, hp, h => by
    obtain ⟨h1, h2⟩ := List.pairwise_cons.1 hp
    rw [gone_cons, gone_cons]
    by_cases e : p.1 = k
    · have hpc : p = (k, c) := by
        rcases List.mem_cons.1 h with h3 | h3
        · exact h3.symm
        · exact absurd e (h1 _ h3)
      rw [gone_congr sz (fun z => left z && !z.sameKey (.string k)) left r (fun q hq => by
        have : (Lit.string q.1).sameKey (.string k) = false := by rw [key_eq]; simpa using fun e2 => h1 q hq (e.trans e2.symm)
        simp only [this]
        simp)]
      rw [hpc]
      simp only [hl, key_eq]
      simp
      omega
    · have h3 : (k, c) ∈ r := by
        rcases List.mem_cons.1 h with h3 | h3
        · rw [← h3] at e; exact absurd rfl e
        · exact h3
      rw [gone_step sz left k c hl r h2 h3]
      have : (Lit.string p.1).sameKey (.string k) = false := by rw [key_eq]; simpa using e
      simp only [this]
      simp
      omega
theorem names_nodup {W : World} {m : Nat} {N : Nms} (h : NamesAt W m N) : N.Pairwise (fun p q => p.1 ≠ q.1) := by
  obtain ⟨es, e, hp, _⟩ := World.ownsMap.entries h law
  unfold nmData at e
  injection e with e
  subst e
  exact (List.pairwise_map.1 hp).imp (fun h e => h (by rw [e]))
theorem mem_at {N : Nms} {k : List UInt8} {c : Int} (h : ∀ zd, (nmData N).atKey (.string k) zd = .lit (.int .i64 c)) : (k, c) ∈ N := by
  have h1 := h .nil
  unfold nmData DataW.atKey at h1
  simp only [List.find?_map] at h1
  cases hf : N.find? ((fun p : Lit × DataW Unit => p.1.sameKey (Lit.string k)) ∘ fun p : List UInt8 × Int => (Lit.string p.1, (DataW.lit (.int .i64 p.2) : DataW Unit))) with
  | none => rw [hf] at h1; simp at h1
  | some p =>
    rw [hf] at h1
    have hm := List.mem_of_find?_eq_some hf
    have hs := List.find?_some hf
    simp only [Function.comp, key_eq, beq_iff_eq] at hs
    simp at h1
    obtain ⟨a, b⟩ := p
    simp only at hs h1
    subst hs
    subst h1
    exact hm
/-- A file's bytes' count, by its number. -/
def szOf (fs : List Fil) (i : Int) : Nat := match fs[i.toNat]? with | some f => f.now.length | none => 0
theorem usedL_eq (fs : List Fil) (N : Nms) : usedL fs N = (N.map fun p => szOf fs p.2).sum := rfl
theorem szOf_le {D : Dsk} (h : D.Ok) (i : Int) : szOf D.files i ≤ 1073741824 := by
  unfold szOf
  cases hf : D.files[i.toNat]? with
  | none => simp
  | some f => exact (h.fil f (List.mem_of_getElem? hf)).nowL
theorem key_inv {x : ByteArray} {kl : Lit} (h : keyOf Tryd.prog 9 (.string x) = some kl) : kl = .string x.data.toList := by
  rw [keyOf_string Tryd.underlying9] at h
  unfold mapKey at h
  rw [Tryd.underlying9] at h
  simp at h
  exact h.2.symm
set_option maxRecDepth 100000 in
set_option maxHeartbeats 4000000 in
theorem used_calls (p : Nat) (D : Dsk) {B : Nat} {L : List (Nat × Value)} {m1 m2 : Nat} {fv ov : Value} (w : World) (h : Lies B w p D L m1 m2 fv ov) (hk : D.Ok) (hs : D.steps ≤ 1000000000) :
    Calls Tryd.prog 13 #[.pointer (some ⟨p, 0, none⟩)] w fun e w' => e = .returned (.int .i64 (usedD D : Nat)) ∧ Below w.heap.size w w' := by
  have c1 : w.cell? ⟨p, 1, none⟩ = some (.map (some m1)) := (blk_cell h.obj 1).trans rfl
  have c0 : w.cell? ⟨p, 0, none⟩ = some fv := (blk_cell h.obj 0).trans rfl
  have HO := Aside0.mk h
  have hm : w.ownsMap (H := Unit) Tryd.prog 9 (plainElem Tryd.prog 3) m1 D.now.length (nmData D.now) := h.now
  have HM := Aside0.mk hm
  have HNd := Aside0.mk (names_nodup h.now)
  have HSz := Aside0.mk (szOf_le hk)
  have HLen := Aside0.mk (show D.now.length ≤ 1000000000 by have := now_len hk; omega)
  have HK := Aside0.mk hk
  have HFl := Aside0.mk (show L.length ≤ 1000000000 by have := hk.cntF; have := h.files.len; omega)
  have HM0 := Aside0.mk (show w.cell? ⟨p, 0, none⟩ = some fv from c0)
  clear hm h hk hs c0
  obtain ⟨U, hU⟩ : ∃ U, U = usedD D := ⟨_, rfl⟩
  have HU := Aside0.mk hU
  rw [← hU]
  clear hU
  go_enter Tryd.func13, Tryd.ntmps13
  go_wp2_with (first
    | (at_range; refine wpList_range_own _ rfl _ 55 rfl 9 3 law Tryd.underlying55 _ m1 D.now.length _ rfl HM.out ?_; intro w0 hrg0 hg0 hs0; have HR0 := Aside0.mk hrg0; have HG0 := Aside0.mk hg0; clear hrg0 hg0 hs0))
  go_frame
  go_loopw [3] (fun n wr => ∃ (left : Lit → Bool) (cnt : Nat), Aside0 (wr.ranges Tryd.prog 9 (plainElem Tryd.prog 3) m1 w.heap.size D.now.length (nmData D.now) left cnt) ∧ Aside0 (Below w.heap.size w wr) ∧ n = .int .i64 (gone (szOf D.files) D.now left : Nat))
    (fun _ wr => wr.rangeLeft m1 w.heap.size)
  case atStart => exact ⟨_, _, HR0, ⟨(Below.refl _ _).grown HG0.out (Nat.le_refl _) (fun k hk => by cases hk)⟩, by rw [gone_start]; rfl⟩
  case round =>
    obtain ⟨left, cnt, HRg, HBw, rfl⟩ := hrel
    have c0 := (HBw.out.cell (p := ⟨p, 0, none⟩) (World.block_lt_of_cell? w _ HM0.out)).trans HM0.out
    go_wp2_with (first
      | (at_next; refine wpList_next_ranges _ rfl _ rfl 9 law (plainElem Tryd.prog 3) Value.string (Value.int .i64) (fun key kl hkey => Maps.keyOf_string_inv Tryd.underlying9 hkey) (fun v y hv => by obtain ⟨c, rfl, _⟩ := plainElem_int_inv Tryd.underlying3 hv; exact ⟨c, rfl⟩) m1 w.heap.size D.now.length _ _ _ rfl HRg.out ?_ ?_))
    · intro _ hl0
      have HL0 := Aside0.mk hl0
      clear hl0
      go_wp2
      go_ret
      exact ⟨by rw [gone_end _ _ _ HL0.out, HU.out]; rfl, HBw.out⟩
    · intro x c kl yd yp w1 cnt1 hkey hlx hwc hat hrg1 hlt hg1 hs1 hen
      obtain rfl := key_inv hkey
      obtain ⟨c2, e1, e2, _⟩ := plainElem_int_inv Tryd.underlying3 hwc
      obtain rfl : c = c2 := by simpa using e1
      obtain ⟨rfl, rfl⟩ := Prod.mk.inj e2
      have hmem := mem_at hat
      obtain ⟨n0, n1⟩ := HK.out.nowF _ hmem
      simp only at n0 n1
      obtain ⟨i, hi⟩ : ∃ i : Nat, c = i := ⟨c.toNat, by omega⟩
      subst hi
      have hil : i < L.length := by have := HO.out.files.len; omega
      obtain ⟨X, hX⟩ : ∃ X, L[i]? = some X := ⟨_, List.getElem?_eq_getElem hil⟩
      have hiF : i < D.files.length := by omega
      obtain ⟨F, hF⟩ : ∃ F, D.files[i]? = some F := ⟨_, List.getElem?_eq_getElem hiF⟩
      obtain ⟨g, cp, ef, _, hg⟩ := ptr_at HO.out.ptrs i X.1 (by rw [List.getElem?_map, hX]; rfl)
      obtain ⟨⟨nv, sv, ho, hn, _⟩, _, _⟩ := HO.out.files.each i X F hX hF
      obtain ⟨A, cpn, rfl⟩ := Kd.R_slice hn
      have hz : szOf D.files (i : Int) = F.now.length := by unfold szOf; rw [Int.toNat_natCast, hF]
      have hst := gone_step (szOf D.files) left x.data.toList i hlx D.now HNd.out hmem
      rw [hz] at hst
      have hle := gone_le (szOf D.files) 1073741824 HSz.out left D.now
      have hle2 := HSz.out i
      rw [hz] at hle2
      have hLen := HLen.out
      have hsum : IntKind.i64.wrap ((gone (szOf D.files) D.now left : Nat) + (F.now.length : Int)) = ((gone (szOf D.files) D.now left : Nat) + (F.now.length : Int)) := IntWalk.i64_in _ ⟨by omega, by have : D.now.length * 1073741824 ≤ 1000000000 * 1073741824 := Nat.mul_le_mul_right _ hLen; omega⟩
      have HST := Aside0.mk hst
      have hBw1 := HBw.out.grown hg1 HBw.out.size (fun k hk => by cases hk; exact Nat.le_refl _)
      have kc := fun (b o : Nat) (v : Value) (hc : w.cell? ⟨b, o, none⟩ = some v) => (hBw1.cell (p := ⟨b, o, none⟩) (World.block_lt_of_cell? w _ hc)).trans hc
      have d0 := kc p 0 _ HM0.out
      have d1 := kc g i _ hg
      have d2 := kc X.1 0 _ ((blk_cell ho 0).trans rfl)
      rw [ef] at d0
      have u0 : (0 : Int) ≤ (i : Int) := by omega
      have u1 : (i : Int) < ((L.map Prod.fst).length : Int) := by rw [List.length_map]; omega
      have u2 : ((L.map Prod.fst).length : Int) ≤ 1000000000 := by rw [List.length_map]; have := HFl.out; omega
      obtain ⟨nl, hnl⟩ : ∃ nl, nl = (L.map Prod.fst).length := ⟨_, rfl⟩
      rw [← hnl] at d0 u1 u2
      obtain ⟨fl, hfl⟩ : ∃ fl, fl = F.now.length := ⟨_, rfl⟩
      have HBw1 := Aside0.mk hBw1
      have HR1 := Aside0.mk hrg1
      rw [← hfl] at hsum HST d2
      clear hmem n0 n1 hil hX hiF hF ef hg ho hn hz hst hle hle2 hLen hBw1 kc hnl hfl hat hwc e1 e2 hkey hlx c0 hg1 hs1
      have HLt := Aside0.mk hlt
      have HEn := Aside0.mk hrg1.left_eq
      have HEo := Aside0.mk HRg.out.left_eq
      clear hlt hrg1
      go_wp2
      go_roundw
      case rel => exact ⟨_, cnt1, HR1, HBw1, by rw [HST.out]; go_num⟩
      case measure => rw [HEn.out, HEo.out]; exact HLt.out
end Go.Proofs.YtpcfnkmljchiiaaDoor.DUsd
