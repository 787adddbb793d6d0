/- Steps towards RDiskAll: DRcp. -/
import Derived.Test.YtpcfnkmljchiiaaGreatDoorZ36
import Derived.Test.YtpcfnkmljchiiaaGreatDoorZ17
set_option linter.unusedVariables false
set_option linter.unusedSimpArgs false
/- The document's loss of power: plainly; what its walk carries. -/
namespace Go.Proofs.YtpcfnkmljchiiaaGreatDoor.DRcp
open Go Go.RowKit Go.Maps Go.Proofs.YtpcfnkmljchiiaaGreatDoorW.PrintWords Go.Proofs.YtpcfnkmljchiiaaGreatDoorW.PrintLast DPl DAt DRn DRd DRl DRt DRdp DRnw DRak DRlm DRx DCra DCrc
theorem fits_pre : ∀ (l : List Chg) (b : List Int) (j : Nat), fits b l → fits b (l.take j)
  | [], b, j, _ => by simp [fits]
  | d :: r, b, 0, _ => by simp [fits]
  | d :: r, b, j + 1, h => ⟨h.1, fits_pre r (d.go b) j h.2⟩
/-- A file with a part of its steps. -/
theorem stay_ok {f : Fil} {n : Int} (h : f.Ok n) (k j : Nat) (s : List Chg) (hs : s = f.opn.take k ∨ ∃ c, f.opn[k]? = some c ∧ s = f.opn.take k ++ [partC c j]) : (⟨chgAll f.sure s, f.sure, s⟩ : Fil).Ok n := by
  have hl := len_take f.opn f.sure h.sureL h.opnL k
  rcases hs with rfl | ⟨c, hc, rfl⟩
  · refine ⟨rfl, fits_pre _ _ _ h.fits, h.sureL, fun c hc => h.opnL c (List.mem_of_mem_take hc), hl, ?_⟩
    have := h.cnt
    show ((f.opn.take k).length : Int) ≤ n
    rw [List.length_take]
    omega
  · have hb := h.opnL c (List.mem_of_getElem? hc)
    have hp : (partC c j).pos + (partC c j).b.length ≤ 1073741824 := by
      show c.pos + (c.b.take j).length ≤ _
      rw [List.length_take]
      omega
    have hkl := (List.getElem?_eq_some_iff.1 hc).1
    refine ⟨rfl, (fits_snoc _ _ _).2 ⟨fits_pre _ _ _ h.fits, fits_take f.opn f.sure h.fits k c hc⟩, h.sureL, fun c' hc' => ?_, ?_, ?_⟩
    · rcases List.mem_append.1 hc' with h1 | h1
      · exact h.opnL c' (List.mem_of_mem_take h1)
      · rw [List.mem_singleton.1 h1]
        exact hp
    · show (chgAll f.sure (f.opn.take k ++ [partC c j])).length ≤ _
      rw [chgAll_snoc]
      exact chg_len _ _ _ hl hp
    · have := h.cnt
      show ((f.opn.take k ++ [partC c j]).length : Int) ≤ n
      simp only [List.length_append, List.length_take, List.length_singleton]
      omega
theorem crash_part {f : Fil} {kp : List Int} {c : Chg} (hc : f.opn[ofK kp f.opn.length]? = some c) (hcut : c.cut = false) : crashF f kp = (chgAll f.sure (f.opn.take (ofK kp f.opn.length) ++ [partC c (ofK kp.tail c.b.length)]), kp.tail.tail) := by
  unfold crashF
  simp only [hc, hcut, Bool.false_eq_true, if_false]
  rw [chgAll_snoc]
theorem crash_whole {f : Fil} {kp : List Int} (h : f.opn[ofK kp f.opn.length]? = none ∨ ∃ c, f.opn[ofK kp f.opn.length]? = some c ∧ c.cut = true) : crashF f kp = (chgAll f.sure (f.opn.take (ofK kp f.opn.length)), kp.tail) := by
  unfold crashF
  rcases h with h | ⟨c, h, h2⟩
  · simp only [h]
  · simp only [h, h2, if_true]
/-- The box that holds the place in the row of numbers. -/
def AtI (l : List Int) (kb : Nat) (kp : List Int) (U : World) : Prop := ∃ i : Nat, i ≤ l.length ∧ U.heap[kb]? = some (.cells #[.int .i64 (i : Int)] 3 (0, 0)) ∧ kp = l.drop i
theorem next_calls (A : Option Addr) (c kb n : Nat) (l kp : List Int) (U : World) (hr : ReadsInt U .i64 A l.length l) (h : AtI l kb kp U) (hn : n ≤ 1100000000000) :
    Calls Tryz.prog 104 #[.slice A l.length c, .pointer (some ⟨kb, 0, none⟩), .int .i64 (n : Int)] U fun e w' => e = .returned (.int .i64 (ofK kp n : Nat)) ∧ AtI l kb kp.tail w' ∧ But U w' (some kb) ∧ (w'.os = U.os ∧ w'.tape = U.tape ∧ w'.output = U.output) := by
  obtain ⟨i, hi, ho, rfl⟩ := h
  refine (rnext_calls A c kb i n l U hr ho hi hn).mono ?_
  rintro e w' ⟨rfl, rfl⟩
  refine ⟨rfl, ?_, ?_, ?_⟩
  · by_cases hlt : i < l.length
    · rw [if_pos hlt]
      exact ⟨i + 1, hlt, blk_put ho 0 _ rfl, by rw [List.tail_drop]⟩
    · rw [if_neg hlt]
      exact ⟨i, hi, ho, by rw [List.drop_eq_nil_of_le (by omega)]; rfl⟩
  · by_cases hlt : i < l.length
    · rw [if_pos hlt]
      exact But.setCell U ⟨kb, 0, none⟩ _
    · rw [if_neg hlt]
      exact ⟨Nat.le_refl _, fun _ _ _ => rfl⟩
  · by_cases hlt : i < l.length
    · rw [if_pos hlt]
      exact ⟨rfl, rfl, rfl⟩
    · rw [if_neg hlt]
      exact ⟨rfl, rfl, rfl⟩
theorem _root_.Go.Proofs.YtpcfnkmljchiiaaGreatDoor.DRd.RTurn.but {B kb : Nat} {a U V : World} (h : RTurn B a U) (hk : But U V (some kb)) (hkb : a.heap.size ≤ kb) (hq : V.os = U.os ∧ V.tape = U.tape ∧ V.output = U.output) : RTurn B a V :=
  ⟨hq.1.trans h.os, hq.2.1.trans h.tape, hq.2.2.trans h.output, Nat.le_trans h.size hk.1, fun k h1 h2 => (hk.2 k (Nat.lt_of_lt_of_le h2 h.size) (fun e => by have := Option.some.inj e; omega)).trans (h.low k h1 h2), fun k o ho hd => (hk.2 k (Nat.lt_of_lt_of_le (blk_lt ho) h.size) (fun e => by have h8 := blk_lt ho; have h9 : k = kb := Option.some.inj e; omega)).trans (h.kind k o ho hd)⟩
/-- What the loops carry. -/
structure CR (B : Nat) (w : World) (p : Nat) (l : List Int) (D : Dsk) (L : List (Nat × Value)) (fv nv iv ov : Value) (kp : List Int) (U : World) : Prop where
  lies : RLies B U p D L fv nv iv ov
  at_ : AtI l w.heap.size kp U
  turn : RTurn B w U
  nb : iv.ownBlock ≠ some w.heap.size
section
variable {B p : Nat} {D : Dsk} {w U V : World} {L : List (Nat × Value)} {fv nv iv ov : Value} {l kp : List Int}
theorem AtI.but {kb : Nat} {row : Option Nat} (h : AtI l kb kp U) (hk : But U V row) (hne : some kb ≠ row) : AtI l kb kp V := by
  obtain ⟨i, hi, ho, e⟩ := h
  exact ⟨i, hi, hk.obj ho hne, e⟩
theorem CR.below (h : CR B w p l D L fv nv iv ov kp U) (hb : Below U.heap.size U V) : CR B w p l D L fv nv iv ov kp V := ⟨same h.lies hb, h.at_.but (But.of_below (row := none) hb) (by simp), h.turn.below hb, h.nb⟩
/-- A block of numbers that is not the names' row has turned. -/
theorem foreignI (h : RLies B U p D L fv nv iv ov) {g : Nat} {cs : Array Value} {m : Nat × Nat} (hg : U.heap[g]? = some (.cells cs 3 m)) (hne : iv.ownBlock ≠ some g) (hk : But U V (some g)) : RLies B V p D L fv nv iv ov := by
  have nt : ∀ qs : List Nat, 3 ∉ qs → Not U (some g) qs := fun qs hq => Not.cells (t := 3) (fun g' hg' => by obtain rfl := Option.some.inj hg'; exact ⟨_, _, hg⟩) (fun q hq2 e => hq (e ▸ hq2))
  refine ⟨hk.obj h.obj (fun e => ?_), h.lop, R_row h.names hk (nt _ (by decide)), ?_, R_row h.ptrs hk (nt _ (by decide)), R_row h.opn hk (nt _ (by decide)), RFilesAt.row h.files hk (nt _ (by decide))⟩
  · obtain rfl := Option.some.inj e
    rw [h.obj] at hg
    cases hg
  · obtain ⟨h0, inner, how, hrp⟩ := h.nums
    exact ⟨h0, inner, own_move how (fun k hk2 => hk.2 k (own_lt how k hk2) (fun e => hne (hk2.trans e))), hrp⟩
theorem CR.next (h : CR B w p l D L fv nv iv ov kp U) (ha : AtI l w.heap.size kp.tail V) (hk : But U V (some w.heap.size)) (hq : V.os = U.os ∧ V.tape = U.tape ∧ V.output = U.output) : CR B w p l D L fv nv iv ov kp.tail V := by
  obtain ⟨i, hi, ho, _⟩ := h.at_
  exact ⟨foreignI h.lies ho h.nb hk, ha, h.turn.but hk (Nat.le_refl _) hq, h.nb⟩
/-- Other names are sure. -/
theorem CR.names (h : CR B w p l D L fv nv iv ov kp U) {n2 i2 : Value} {N : Nms} (hN : NmsAt B U n2 i2 N) (hi : i2.ownBlock ≠ some w.heap.size) : CR B w p l { D with sure := N } L fv n2 i2 ov kp ((U.setCell ⟨p, 1, none⟩ n2).setCell ⟨p, 2, none⟩ i2) := by
  have o1 := blk_put h.lies.obj 1 n2 rfl
  have o2 := blk_put o1 2 i2 rfl
  have hk := (But.setCell U ⟨p, 1, none⟩ n2).trans (But.setCell (U.setCell ⟨p, 1, none⟩ n2) ⟨p, 2, none⟩ i2)
  have hb : some w.heap.size ≠ some p := fun e => by
    obtain ⟨i, _, ho, _⟩ := h.at_
    have e := Option.some.inj e
    rw [e, h.lies.obj] at ho
    cases ho
  exact ⟨⟨o2, h.lies.lop, R_row hN.rn hk (notp h.lies _ (by decide)), R_row hN.ri hk (notp h.lies _ (by decide)), R_row h.lies.ptrs hk (notp h.lies _ (by decide)), R_row h.lies.opn hk (notp h.lies _ (by decide)), RFilesAt.row h.lies.files hk (notp h.lies _ (by decide))⟩, h.at_.but hk hb, (h.turn.setCell h.lies.obj rfl h.lies.lop 1 n2).setCell o1 rfl h.lies.lop 2 i2, hi⟩
/-- The struct's own cells from 3 on. -/
theorem CR.struct (h : CR B w p l D L fv nv iv ov kp U) {ov2 : Value} {es : List Ent} {q ar st : Int} {off : Bool} (hk : But U V (some p)) (ho : V.heap[p]? = some (rdO fv nv iv ov2 q ar off st)) (hE : REntsAt B V ov2 es) (ht : RTurn B U V) : CR B w p l ⟨D.files, D.now, D.sure, es, q, ar, off, st⟩ L fv nv iv ov2 kp V := by
  have hb : some w.heap.size ≠ some p := fun e => by
    obtain ⟨i, _, ho, _⟩ := h.at_
    have e := Option.some.inj e
    rw [e, h.lies.obj] at ho
    cases ho
  exact ⟨⟨ho, h.lies.lop, R_row h.lies.names hk (notp h.lies _ (by decide)), R_row h.lies.nums hk (notp h.lies _ (by decide)), R_row h.lies.ptrs hk (notp h.lies _ (by decide)), hE, RFilesAt.row h.lies.files hk (notp h.lies _ (by decide))⟩, h.at_.but hk hb, h.turn.trans ht, h.nb⟩
/-- A file's row of steps is another one, in new memory. -/
theorem CR.stay (h : CR B w p l D L fv nv iv ov kp U) (i : Nat) (x : Nat × Value) (f : Fil) (hx : L[i]? = some x) (hf : D.files[i]? = some f) {v1 : Value} {s : List Chg} {b : List Int} (hE : StpsAt B U v1 s):
    RFileAt B (U.setCell ⟨x.1, 1, none⟩ v1) x.1 v1 ⟨b, f.sure, s⟩ := by
  obtain ⟨ho, hop⟩ := h.lies.files.each i x f hx hf
  have hs := But.setCell U ⟨x.1, 1, none⟩ v1
  have nx : ∀ qs : List Nat, tRF ∉ qs → Not U (some x.1) qs := fun qs hq => Not.cells (t := tRF) (fun g hg => by obtain rfl := Option.some.inj hg; exact ⟨_, _, ho⟩) (fun q hq2 e => hq (e ▸ hq2))
  exact ⟨blk_put ho 1 v1 rfl, R_row hE hs (nx _ (by decide))⟩
/-- A file is done: its bytes sure, its steps forgotten. -/
theorem CR.done (h : CR B w p l D L fv nv iv ov kp U) (i : Nat) (x : Nat × Value) (f : Fil) (hx : L[i]? = some x) (hf : D.files[i]? = some f) (v1 : Value) (hV : Below U.heap.size (U.setCell ⟨x.1, 1, none⟩ v1) V) (b : List Int) :
    CR B w p l { D with files := D.files.set i ⟨b, b, []⟩ } (L.set i (x.1, .slice none 0 0)) fv nv iv ov kp ((V.setCell ⟨x.1, 0, none⟩ (.string (strOfNums b))).setCell ⟨x.1, 1, none⟩ (.slice none 0 0)) := by
  obtain ⟨ho, hop⟩ := h.lies.files.each i x f hx hf
  have lo := h.lies.files.lo x (List.mem_of_getElem? hx)
  have hs := But.setCell U ⟨x.1, 1, none⟩ v1
  have hbv : But (U.setCell ⟨x.1, 1, none⟩ v1) V none := ⟨hV.size, fun k hk _ => hV.block k (Nat.lt_of_lt_of_le hk (by simp [World.setCell]))⟩
  have o1 := blk_put ho 1 v1 rfl
  have o2 := hbv.obj o1 (by simp)
  have o3 := blk_put o2 0 (.string (strOfNums b)) rfl
  have o4 := blk_put o3 1 (.slice none 0 0) rfl
  have k1 := (But.setCell V ⟨x.1, 0, none⟩ (.string (strOfNums b))).trans (But.setCell (V.setCell ⟨x.1, 0, none⟩ (.string (strOfNums b))) ⟨x.1, 1, none⟩ (.slice none 0 0))
  have kall : But U ((V.setCell ⟨x.1, 0, none⟩ (.string (strOfNums b))).setCell ⟨x.1, 1, none⟩ (.slice none 0 0)) (some x.1) :=
    hs.trans (But.trans (show But (U.setCell ⟨x.1, 1, none⟩ v1) V (some x.1) from ⟨hbv.1, fun k hk _ => hbv.2 k hk (by simp)⟩) k1)
  refine ⟨refile h.lies i x f hx hf kall.1 (fun j hj h2 h3 => kall.2 j hj (fun e => h2 (Option.some.inj e))) (.slice none 0 0) ⟨b, b, []⟩ ⟨o4, Kd.R_nil _ _ _ _ _⟩ (.inl rfl), h.at_.but kall (fun e => ?_), (((h.turn.setCell ho rfl lo 1 v1).trans ⟨hV.os, hV.tape, hV.output, hV.size, fun k _ h2 => hbv.2 k h2 (by simp), fun k o hko _ => (hbv.2 k (blk_lt hko) (by simp)).trans hko⟩).setCell o2 rfl lo 0 _).setCell o3 rfl lo 1 _, h.nb⟩
  obtain ⟨i, _, ho2, _⟩ := h.at_
  have e := Option.some.inj e
  rw [e, ho] at ho2
  cases ho2
end
end Go.Proofs.YtpcfnkmljchiiaaGreatDoor.DRcp
