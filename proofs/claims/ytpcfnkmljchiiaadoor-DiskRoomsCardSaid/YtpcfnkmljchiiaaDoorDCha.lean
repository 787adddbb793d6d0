/- Disk.changed: an open step of a file. -/
import Derived.Test.YtpcfnkmljchiiaaDoorDUsd
import Derived.Test.YtpcfnkmljchiiaaDoorDChg
namespace Go.Proofs.YtpcfnkmljchiiaaDoor.DAt
open Go Go.RowKit Go.Maps Go.Proofs.YtpcfnkmljchiiaaDoorW.PrintWords Go.Proofs.YtpcfnkmljchiiaaDoor.DPl Go.Proofs.YtpcfnkmljchiiaaDoor.Is
set_option linter.unusedVariables false
variable {B : Nat} {w w' : World}
variable {w1 : World}
theorem R_own2 {α : Type} {d : Kd α} {e base : Nat} {ok : Nat → Prop} {v : Value} {xs : List α} (h : d.R e w base ok v xs) (hm : ∀ (k : Nat) (q : Nat) (cells : Array Value), q ∈ e :: d.E → w.heap[k]? = some (Obj.cells cells q (0, 0)) → w'.heap[k]? = w.heap[k]?) : d.R e w' base ok v xs :=
  Kd.R_mono (Kd.R_move (Kd.R_bound h) (fun k hk => by obtain ⟨_, _, _, q, hq, cells, hc⟩ := hk; exact hm k q cells hq hc)) (fun _ hk => hk.1)
theorem FileAt.keep {k : Nat} {rv : Value} {f : Fil} (h : FileAt B w k rv f) (h1 : w'.heap[k]? = w.heap[k]?) (h2 : ∀ g, rv.ownBlock = some g → w'.heap[g]? = w.heap[g]?) (h3 : ∀ (g : Nat) (cs : Array Value), w.heap[g]? = some (Obj.cells cs 5 (0, 0)) → w'.heap[g]? = w.heap[g]?) : FileAt B w' k rv f := by
  obtain ⟨⟨nv, sv, ho, hn, hs⟩, lo, h0, inner, how, hrp⟩ := h
  have b5 : ∀ {v : Value} {l : List Int}, BytesAt B w v l → BytesAt B w' v l := fun hb => R_own2 hb (fun k q cells hq hc => by
    have : q = 5 := (by simpa [kb, Kd.int, Kd.scalar] using hq)
    subst this
    exact h3 k cells hc)
  refine ⟨⟨nv, sv, h1.trans ho, b5 hn, b5 hs⟩, lo, h0, inner, own_move how h2, hrp.imp_ (fun x cs hp => ?_)⟩
  refine Kd.M_mono _ (fun _ hq => hq.1) (Kd.M_move _ (fun k hk => ?_) (Kd.M_bound _ hp))
  obtain ⟨_, _, _, q, hq, cells, hc⟩ := hk
  have : q = 5 := (by simpa [kChg, Kd.iso, Kd.pair, Kd.slice, kb, Kd.int, Kd.bool, Kd.scalar] using hq)
  subst this
  exact h3 k cells hc
variable {p : Nat} {D : Dsk} {L : List (Nat × Value)} {m1 m2 : Nat} {fv ov : Value}
/-- One file's own blocks have turned. -/
theorem Lies.file (h : Lies B w p D L m1 m2 fv ov) (i : Nat) (x : Nat × Value) (f : Fil) (hx : L[i]? = some x) (hf : D.files[i]? = some f) (hs : w.heap.size ≤ w'.heap.size) (hk : ∀ k, k < w.heap.size → k ≠ x.1 → x.2.ownBlock ≠ some k → w'.heap[k]? = w.heap[k]?)
    (rv : Value) (f' : Fil) (hF : FileAt B w' x.1 rv f') (hr : rv.ownBlock = none ∨ rv.ownBlock = x.2.ownBlock ∨ ∃ b, rv.ownBlock = some b ∧ w.heap.size ≤ b) : Lies B w' p { D with files := D.files.set i f' } (L.set i (x.1, rv)) m1 m2 fv ov := by
  have hxf := h.files.each i x f hx hf
  obtain ⟨nv, sv, ho, hn, hsu⟩ := hxf.ex
  obtain ⟨inner, how⟩ := own_of hxf.opn
  have typed : ∀ (k : Nat) (o : Obj), w.heap[k]? = some o → (∀ cs, o ≠ .cells cs 69 (0, 0)) → (∀ cs, o ≠ .cells cs 77 (0, 0)) → w'.heap[k]? = w.heap[k]? := fun k o hko h1 h2 => by
    refine hk k (blk_lt hko) (fun e => ?_) (fun e => ?_)
    · subst e
      rw [ho] at hko
      exact h1 _ (Option.some.inj hko).symm
    · obtain ⟨cs, hc⟩ := own_typed how k e
      rw [hc] at hko
      exact h2 _ (Option.some.inj hko).symm
  have hmap : ∀ {m : Nat} {N : Nms}, NamesAt w m N → NamesAt w' m N := fun hm => by
    obtain ⟨es, c, hb⟩ := hm.obj
    exact hm.same (typed _ _ hb (fun _ e => by cases e) (fun _ e => by cases e))
  have hil : i < L.length := (List.getElem?_eq_some_iff.1 hx).1
  have hifl : i < D.files.length := (List.getElem?_eq_some_iff.1 hf).1
  refine ⟨(typed _ _ h.obj (fun _ e => by cases e) (fun _ e => by cases e)).trans h.obj, h.lop, h.lo1, h.lo2, h.ne, hmap h.now, hmap h.sure, ?_, ?_, ⟨?_, ?_, ?_⟩⟩
  · have e : (L.set i (x.1, rv)).map Prod.fst = L.map Prod.fst := by
      apply List.ext_getElem?
      intro j
      rw [List.getElem?_map, List.getElem?_map, List.getElem?_set]
      by_cases hj : i = j
      · subst hj
        rw [if_pos rfl, if_pos hil, hx]
        rfl
      · rw [if_neg hj]
    rw [e]
    exact R_own2 h.ptrs (fun k q cells hq hc => typed k _ hc (fun _ e => by
      have : q = 66 := (by simpa [kPtrE] using hq)
      subst this; cases e) (fun _ e => by
      have : q = 66 := (by simpa [kPtrE] using hq)
      subst this; cases e))
  · exact R_own2 h.opn (fun k q cells hq hc => typed k _ hc (fun _ e => by
      have : q = 65 := (by simpa [kEntE] using hq)
      subst this; cases e) (fun _ e => by
      have : q = 65 := (by simpa [kEntE] using hq)
      subst this; cases e))
  · simp [h.files.len]
  · intro j y g hy hg
    simp only [List.getElem?_set] at hy hg
    by_cases hj : i = j
    · subst hj
      rw [if_pos rfl, if_pos hil] at hy
      rw [if_pos rfl, if_pos hifl] at hg
      obtain rfl := Option.some.inj hy
      obtain rfl := Option.some.inj hg
      exact hF
    · rw [if_neg hj] at hy hg
      have hfar := h.files.far j i y x hy hx (fun e => hj e.symm)
      have hy1 := h.files.each j y g hy hg
      obtain ⟨nv2, sv2, ho2, _, _⟩ := hy1.ex
      obtain ⟨inner2, how2⟩ := own_of hy1.opn
      refine hy1.keep (hk _ (blk_lt ho2) hfar.1 (fun e => ?_)) (fun g hg => hk g (own_lt how2 g hg) (fun e => ?_) (fun e => ?_)) (fun g cs hg => typed g (.cells cs 5 (0, 0)) hg (fun _ e => by cases e) (fun _ e => by cases e))
      · obtain ⟨cs, hc⟩ := own_typed how _ e
        rw [hc] at ho2
        cases ho2
      · obtain ⟨cs, hc⟩ := own_typed how2 _ hg
        subst e
        rw [ho] at hc
        cases hc
      · rcases hfar.2 with h2 | h2
        · rw [h2] at hg; cases hg
        · exact h2 (hg.trans e.symm)
  · intro j l y z hy hz hjl
    have sub : ∀ (j : Nat) (y : Nat × Value), (L.set i (x.1, rv))[j]? = some y → ∃ y0, L[j]? = some y0 ∧ y0.1 = y.1 ∧ (j ≠ i → y0 = y) ∧ (j = i → y.2 = rv) := fun j y hy => by
      simp only [List.getElem?_set] at hy
      by_cases hj : i = j
      · subst hj
        rw [if_pos rfl, if_pos hil] at hy
        obtain rfl := Option.some.inj hy
        exact ⟨x, hx, rfl, fun e => absurd rfl e, fun _ => rfl⟩
      · rw [if_neg hj] at hy
        exact ⟨y, hy, rfl, fun _ => rfl, fun e => absurd e.symm hj⟩
    obtain ⟨y0, a1, a2, a3, a4⟩ := sub j y hy
    obtain ⟨z0, b1, b2, b3, b4⟩ := sub l z hz
    have f0 := h.files.far j l y0 z0 a1 b1 hjl
    refine ⟨by rw [← a2, ← b2]; exact f0.1, ?_⟩
    have old : ∀ (j : Nat) (y : Nat × Value), L[j]? = some y → ∀ b, y.2.ownBlock = some b → b < w.heap.size := fun j y hj b hb => by
      have hjl := (List.getElem?_eq_some_iff.1 hj).1
      have hjf : j < D.files.length := by have := h.files.len; omega
      obtain ⟨inner2, how2⟩ := own_of (h.files.each j y D.files[j] hj (List.getElem?_eq_getElem hjf)).opn
      exact own_lt how2 b hb
    by_cases e1 : j = i
    · have e2 : l ≠ i := fun e => hjl (e1.trans e.symm)
      obtain rfl := b3 e2
      have ey := a4 e1
      subst e1
      obtain rfl : x = y0 := Option.some.inj (hx.symm.trans a1)
      rw [ey]
      rcases hr with hr | hr | ⟨b, hr, hb⟩
      · exact .inl hr
      · rw [hr]; exact f0.2
      · right
        rw [hr]
        intro e
        have := old l _ b1 b e.symm
        omega
    · obtain rfl := a3 e1
      by_cases e2 : l = i
      · have ez := b4 e2
        subst e2
        obtain rfl : x = z0 := Option.some.inj (hx.symm.trans b1)
        rw [ez]
        rcases hr with hr | hr | ⟨b, hr, hb⟩
        · rw [hr]
          cases hh : y0.2.ownBlock with
          | none => exact .inl rfl
          | some b => exact .inr (by simp)
        · rw [hr]; exact f0.2
        · cases hh : y0.2.ownBlock with
          | none => exact .inl rfl
          | some c =>
            right
            rw [hr]
            intro e
            have := old j _ a1 c hh
            have : c = b := Option.some.inj e
            omega
      · obtain rfl := b3 e2
        exact f0.2
end Go.Proofs.YtpcfnkmljchiiaaDoor.DAt
