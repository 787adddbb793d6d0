/- path.dotted, path.Local, path.Domain: parts with dots between. -/
import Derived.Test.YtjggdkcfpdhoaaaGreatDoorSeq
import Derived.Test.YtjggdkcfpdhoaaaGreatDoorPath
import Derived.Test.YtjggdkcfpdhoaaaGreatDoorRBox
import Derived.RangeFuncNested
namespace Go.Proofs.YtjggdkcfpdhoaaaGreatDoor.Dotted
open Go Go.RowKit Go.Shelf Go.Proofs.YtjggdkcfpdhoaaaGreatDoorW.PrintWords Go.Proofs.YtjggdkcfpdhoaaaGreatDoor.Dots Go.Proofs.YtjggdkcfpdhoaaaGreatDoor.RBox Go.Proofs.YtjggdkcfpdhoaaaGreatDoor.Seq Go.Proofs.YtjggdkcfpdhoaaaGreatDoor.Path
set_option linter.unusedVariables false
set_option linter.unusedSimpArgs false
/-- strings.SplitSeq: a closure over three places. -/
theorem splitSeq_calls (s sep : ByteArray) (w : World) : Calls Tryz.prog 77 #[.string s, .string sep] w fun e w' =>
    e = .returned (.func (.func 112) #[] #[.pointer (some ⟨w.heap.size + 1, 0, none⟩), .pointer (some ⟨w.heap.size, 0, none⟩), .pointer (some ⟨w.heap.size + 2, 0, none⟩)]) ∧
    w' = ((w.alloc (.cells #[.string s] 9 (0, 0))).alloc (.cells #[.string sep] 9 (0, 0))).alloc (.cells #[.int .i64 0] 3 (0, 0)) := by
  have h1 : Calls Tryz.prog 99 #[.string s, .string sep, .int .i64 0] w fun e w' =>
      e = .returned (.func (.func 112) #[] #[.pointer (some ⟨w.heap.size + 1, 0, none⟩), .pointer (some ⟨w.heap.size, 0, none⟩), .pointer (some ⟨w.heap.size + 2, 0, none⟩)]) ∧
      w' = ((w.alloc (.cells #[.string s] 9 (0, 0))).alloc (.cells #[.string sep] 9 (0, 0))).alloc (.cells #[.int .i64 0] 3 (0, 0)) := by
    go_enter Tryz.func99, Tryz.ntmps99
    go_wp2
    go_ret
    exact ⟨rfl, rfl⟩
  have H1 := Aside0.mk h1
  clear h1
  go_enter Tryz.func77, Tryz.ntmps77
  go_wp2_with (go_at_call 99; refine H1.out.mono ?_; rintro e w' ⟨rfl, rfl⟩)
  go_ret
  exact ⟨rfl, rfl⟩
def partOK (is : List Int → Bool) (l : List Int) : Bool := !l.isEmpty && is l
def dottedL (most : Nat) (is : List Int → Bool) (l : List Int) : Bool := decide (l.length ≤ most) && (cuts 46 l).all (partOK is)
attribute [local go_sem] Oper.semAt_some
set_option maxRecDepth 100000 in
set_option maxHeartbeats 2000000 in
theorem dotted_calls (s : ByteArray) (most : Nat) (hm : most ≤ 1000) (g : Nat) (is : List Int → Bool) (hs : s.size ≤ 1000000) (eg : ∀ args w, (callFunc g args).run Tryz.prog w = .ok (.enter g args) w)
    (hcl : ∀ p : ByteArray, 1 ≤ p.size → p.size ≤ 1000000 → ∀ W, Calls Tryz.prog g #[.string p] W fun e w' => e = .returned (.bool (is (bytesOf p))) ∧ w' = W) (w : World) :
    Calls Tryz.prog 51 #[.string s, .int .i64 most, .func (.func g) #[] #[]] w fun e w' => e = .returned (.bool (dottedL most is (bytesOf s))) ∧ Below w.heap.size w w' := by
  have HCL := Aside0.mk hcl
  obtain ⟨r, hr⟩ : ∃ r, r = dottedL most is (bytesOf s) := ⟨_, rfl⟩
  rw [← hr]
  by_cases hlt : most < s.size
  · have hrf : r = false := by rw [hr, dottedL, bytesOf_length, decide_eq_false (by omega), Bool.false_and]
    rw [hrf]
    clear hr hcl
    have t1 : decide ((most : Int) < (s.size : Int)) = true := decide_eq_true (by omega)
    go_enter Tryz.func51, Tryz.ntmps51
    go_wp2
    refine bodyPost_ret (v := .bool false) (by simp [results, Tryz.results51, go_sem]) rfl ⟨rfl, ?_⟩
    exact ((Below.refl _ w).alloc (Nat.le_refl _) _).alloc (by simp) _
  · have HR := Aside0.mk hr
    clear hr hcl
    have t1 : decide ((most : Int) < (s.size : Int)) = false := decide_eq_false (by omega)
    have HSP := Aside0.mk (splitSeq_calls s ⟨#[46]⟩)
    refine (callsIn_wide (n := 5)).1 ?_
    refine callsIn_of_wp_marks Tryz.func51 rfl trivial ?_ rfl
    simp only [Tryz.ntmps51, List.size_toArray, List.length_cons, List.length_nil, Nat.reduceAdd, Nat.reduceSub, Array.replicate_succ, Array.replicate_zero, List.push_toArray, List.append_toArray, List.nil_append, List.cons_append]
    gi_wp2_with (refine ⟨trivial, ?_⟩; gi_at_call 77; refine (callsIn_wide.2 (HSP.out _)).mono ?_; rintro e w' ⟨rfl, rfl⟩)
    obtain ⟨W0, hW0⟩ : ∃ W0, W0 = ((((w.alloc (Obj.cells #[Value.func (Fn.func g) #[] #[]] 32 (0, 0))).alloc (Obj.cells #[Value.bool false] 4 (0, 0))).alloc (Obj.cells #[Value.string s] 9 (0, 0))).alloc (Obj.cells #[Value.string { data := #[46] }] 9 (0, 0))).alloc (Obj.cells #[Value.int IntKind.i64 0] 3 (0, 0)) := ⟨_, rfl⟩
    have hz : W0.heap.size = w.heap.size + 5 := by rw [hW0]; simp only [World.size_alloc]
    have hc0 : W0.cell? ⟨w.heap.size, 0, none⟩ = some (.func (.func g) #[] #[]) := by
      rw [hW0, World.cell?_alloc_past _ _ _ (by simp only [World.size_alloc]; omega), World.cell?_alloc_past _ _ _ (by simp only [World.size_alloc]; omega), World.cell?_alloc_past _ _ _ (by simp only [World.size_alloc]; omega), World.cell?_alloc_past _ _ _ (by simp only [World.size_alloc]; omega), World.cell?_alloc_new]
      rfl
    have hc1 : W0.cell? ⟨w.heap.size + 1, 0, none⟩ = some (.bool false) := by rw [hW0]; simp [World.cell?_alloc_at, World.cell?_alloc_past, World.frozen?_alloc_at, World.frozen?_alloc_past]
    have hf1 : W0.frozen? ⟨w.heap.size + 1, 0, none⟩ = false := by rw [hW0]; simp [World.cell?_alloc_at, World.cell?_alloc_past, World.frozen?_alloc_at, World.frozen?_alloc_past]
    have hc2 : W0.cell? ⟨w.heap.size + 1 + 1, 0, none⟩ = some (.string s) := by rw [hW0]; simp [World.cell?_alloc_at, World.cell?_alloc_past, World.frozen?_alloc_at, World.frozen?_alloc_past]
    have hf2 : W0.frozen? ⟨w.heap.size + 1 + 1, 0, none⟩ = false := by rw [hW0]; simp [World.cell?_alloc_at, World.cell?_alloc_past, World.frozen?_alloc_at, World.frozen?_alloc_past]
    have hc3 : W0.cell? ⟨w.heap.size + 1 + 1 + 1, 0, none⟩ = some (.string ⟨#[46]⟩) := by rw [hW0]; simp [World.cell?_alloc_at, World.cell?_alloc_past, World.frozen?_alloc_at, World.frozen?_alloc_past]
    have hc4 : W0.cell? ⟨w.heap.size + 1 + 1 + 2, 0, none⟩ = some (.int .i64 0) := by rw [hW0]; simp [World.cell?_alloc_at, World.cell?_alloc_past, World.frozen?_alloc_at, World.frozen?_alloc_past]
    have hB0 : Below w.heap.size w W0 := by rw [hW0]; exact (((((Below.refl _ w).alloc (by simp) _).alloc (by simp) _).alloc (by simp; omega) _).alloc (by simp; omega) _).alloc (by simp; omega) _
    rw [← hW0]
    clear hW0 HSP
    refine range_box (F := Fence.wide) (n := 5) rfl (by omega) (gf := 112) (lb := #[.pointer (some ⟨w.heap.size + 1 + 1 + 1, 0, none⟩), .pointer (some ⟨w.heap.size + 1 + 1, 0, none⟩), .pointer (some ⟨w.heap.size + 1 + 1 + 2, 0, none⟩)]) rfl trivial
      (enters_of Tryz.func112 (by kernel_rfl) rfl) (by rw [hz]; omega) (by simp; omega) (split1_box (5 - 1) (by omega) 46 _ _ _ s hs W0 hc3 hc2 hf2 hc4 (by omega) (by omega)) (Below.refl _ _) (fun _ => rfl)
      (fun pre W => ((W.cell? ⟨w.heap.size, 0, none⟩ = some (.func (.func g) #[] #[]) ∧ W.cell? ⟨w.heap.size + 1, 0, none⟩ = some (.bool false) ∧ W.frozen? ⟨w.heap.size + 1, 0, none⟩ = false) ∧ (pre.map bT).all (partOK is) = true) ∧ Below w.heap.size w W)
      (fun c pre W => ((W.cell? ⟨w.heap.size + 1, 0, none⟩ = some (.bool false)) ∧ c = .ret ∧ (pre.map bT).all (partOK is) = false) ∧ Below w.heap.size w W)
      ?hI ?hIx ?hIb ⟨⟨⟨hc0, hc1, hf1⟩, rfl⟩, hB0⟩
      (fun x : Txt => { tmps := #[Value.string s, Value.int IntKind.i64 most, Value.func (Fn.func g) #[] #[], undef, undef, Value.pointer (some { block := w.heap.size, off := 0 }), Value.pointer (some { block := w.heap.size + 1, off := 0 }), Value.string x.1, Value.string s,
          Value.int IntKind.i64 s.size, Value.int IntKind.i64 most, Value.bool false, Value.string s, Value.func (Fn.func 112) #[] #[Value.pointer (some { block := w.heap.size + 1 + 1 + 1, off := 0 }), Value.pointer (some { block := w.heap.size + 1 + 1, off := 0 }), Value.pointer (some { block := w.heap.size + 1 + 1 + 2, off := 0 })],
          Value.string x.1, undef, undef, undef, undef, undef, undef, undef, undef], defers := [] }) ?assign ?body ?done ?stop
    case hI =>
      exact OwnFrom.and (Own.from (fun s A B row hs hg hr => ⟨⟨cell_kept hs.1.1 hg hr, cell_kept hs.1.2.1 hg hr, (frozen_kept hs.1.2.1 hg hr).trans hs.1.2.2⟩, hs.2⟩) _) (ownFrom_below (Nat.le_refl _) (by rw [hz]; omega))
    case hIx =>
      intro c
      exact OwnFrom.and (Own.from (fun s A B row hs hg hr => ⟨cell_kept hs.1 hg hr, hs.2⟩) _) (ownFrom_below (Nat.le_refl _) (by rw [hz]; omega))
    case hIb =>
      rintro pre W v ⟨⟨⟨h1, h2, h3⟩, h4⟩, h5⟩
      exact ⟨⟨⟨(World.cell?_setCell_other _ _ _ _ (by simp)).trans h1, (World.cell?_setCell_other _ _ _ _ (by simp)).trans h2, by rw [World.frozen?_setCell]; exact h3⟩, h4⟩, h5.setCell (p := ⟨_, 0, none⟩) (by simp; omega) _⟩
    case assign =>
      intro l x W K hK
      gi_wp2
      exact hK
    case body =>
      rintro l pre ⟨x, hxs⟩ W ⟨⟨⟨h1, h2, h3⟩, h4⟩, h5⟩ hlen
      dsimp only
      have hd : 1 ≤ 5 - 1 - 1 := by omega
      have hxe : x.toList.isEmpty = (bytesOf x).isEmpty := by rw [toList_data, bytesOf, List.isEmpty_map]
      have hsn : ∀ b : Bool, partOK is (bytesOf x) = b → (((pre ++ [(⟨x, hxs⟩ : Txt)]).map bT).all (partOK is) = b) := fun b hb => by rw [List.map_append, List.all_append, h4, Bool.true_and]; simpa [bT] using hb
      have HSN := Aside0.mk hsn
      clear hsn
      cases hx : x.toList.isEmpty with
      | true =>
        have HP := Aside0.mk (HSN.out false (by rw [partOK, ← hxe, hx]; rfl))
        clear hxe
        gi_wp2
        refine ⟨fun _ h => (by cases h), ?_⟩
        gi_wp2
        exact ⟨KeepsOthers.setCell _ _ _, ⟨World.cell?_setCell_same' _ _ _ (by rw [h2]; rfl), rfl, HP.out⟩, h5.setCell (p := ⟨_, 0, none⟩) (by simp) _⟩
      | false =>
        have hx0 : 1 ≤ x.size := by
          rw [hxe] at hx
          have h9 := bytesOf_length x
          cases h8 : bytesOf x with
          | nil => rw [h8] at hx; simp at hx
          | cons a l => rw [h8] at h9; simp at h9; omega
        have HC := Aside0.mk (HCL.out x hx0 hxs W)
        cases hb : is (bytesOf x) with
        | true =>
          rw [hb] at HC
          have HP := Aside0.mk (HSN.out true (by rw [partOK, ← hxe, hx, hb]; rfl))
          clear hxe hx0
          gi_wp2_with (refine ⟨trivial, ?_⟩; refine (CallsIn.inRound l (callsIn_wide.2 HC.out)).mono ?_; rintro e w' ⟨rfl, rfl⟩)
          exact ⟨(KeepsOthers.refl _), fun _ _ => rfl, ⟨⟨h1, h2, h3⟩, HP.out⟩, h5⟩
        | false =>
          rw [hb] at HC
          have HP := Aside0.mk (HSN.out false (by rw [partOK, ← hxe, hx, hb]; rfl))
          clear hxe hx0
          gi_wp2_with (refine ⟨trivial, ?_⟩; refine (CallsIn.inRound l (callsIn_wide.2 HC.out)).mono ?_; rintro e w' ⟨rfl, rfl⟩)
          exact ⟨KeepsOthers.setCell _ _ _, ⟨World.cell?_setCell_same' _ _ _ (by rw [h2]; rfl), rfl, HP.out⟩, h5.setCell (p := ⟨_, 0, none⟩) (by simp) _⟩
    case done =>
      rintro D xs W hD hxs ⟨⟨⟨h1, h2, h3⟩, h4⟩, h5⟩ hK
      gi_wp2
      have hx2 : xs.map bT = cuts 46 (bytesOf s) := hxs
      have hr1 : r = true := by rw [HR.out, dottedL, bytesOf_length, decide_eq_true (by omega), Bool.true_and, ← hx2]; exact h4
      refine ⟨by simp, .inl ⟨_, _, rfl, run_takeDeferred ((KeepsOthers.setCell _ _ _).same D _ hK rfl), ?_⟩⟩
      have hc9 : (W.setCell ⟨w.heap.size + 1, 0, none⟩ (.bool true)).cell? ⟨w.heap.size + 1, 0, none⟩ = some (.bool true) := World.cell?_setCell_same' _ _ _ (by rw [h2]; rfl)
      have hc8 := cell_kept hc9 (grownBy_putObj' _ D (.deferred none)) (fun r e => by cases e; exact ⟨_, (KeepsOthers.setCell _ _ _).same D _ hK rfl, rfl⟩)
      exact ⟨.bool true, by simp [results, Tryz.results51, go_sem, hc8], by rw [hr1], (h5.setCell (p := ⟨_, 0, none⟩) (by simp) _).trans (belowK_b (w := w) (Nat.le_refl _) _ D _ _ (by omega) ((KeepsOthers.setCell _ _ _).same D _ hK rfl) rfl rfl)⟩
    case stop =>
      rintro D c pre W hD hpre ⟨⟨h1, rfl, h4⟩, h5⟩ hK
      gi_wp2
      have hr1 : r = false := by
        rw [HR.out, dottedL, Bool.and_eq_false_iff]
        right
        obtain ⟨t, ht⟩ := hpre
        have ht : pre.map bT ++ t = cuts 46 (bytesOf s) := ht
        rw [← ht, List.all_append, h4, Bool.false_and]
      refine ⟨by simp, .inl ⟨_, _, rfl, run_takeDeferred hK, ?_⟩⟩
      have hc8 := cell_kept h1 (grownBy_putObj' _ D (.deferred none)) (fun r e => by cases e; exact ⟨_, hK, rfl⟩)
      exact ⟨.bool false, by simp [results, Tryz.results51, go_sem, hc8], by rw [hr1], h5.trans (belowK_b (w := w) (Nat.le_refl _) W D _ _ (by omega) hK rfl rfl)⟩
def atomL (l : List Int) : Bool := l.all atomC
def labelL (l : List Int) : Bool := l.all labelC && (l.getD 0 0 != 45 && l.getD (l.length - 1) 0 != 45)
def localB (s : ByteArray) : Bool := dottedL 64 atomL (bytesOf s)
def domainB (s : ByteArray) : Bool := dottedL 100 labelL (bytesOf s)
theorem labelB_eq (p : ByteArray) (h1 : 1 ≤ p.size) : labelB p = labelL (bytesOf p) := by
  have e0 := btD_at p 0 (by omega)
  have e1 := btD_at p (p.size - 1) (by omega)
  have e2 : ((p.size : Int) - 1) = ((p.size - 1 : Nat) : Int) := by omega
  rw [labelB, labelL, bytesOf_length, e2, e1, ← e0]
  rfl
theorem local_calls (s : ByteArray) (hs : s.size ≤ 1000000) (w : World) : Calls Tryz.prog 81 #[.string s] w fun e w' => e = .returned (.bool (localB s)) ∧ Below w.heap.size w w' := by
  have HD := Aside0.mk (dotted_calls s 64 (by omega) 100 atomL hs (enters_of Tryz.func100 (by kernel_rfl) rfl) (fun p h1 h2 W => atom_calls p h2 W) w)
  go_enter Tryz.func81, Tryz.ntmps81
  go_wp2_with (go_at_call 51; refine HD.out.mono ?_; rintro e w' ⟨rfl, hB⟩)
  go_ret
  exact ⟨rfl, hB⟩
theorem domain_calls (s : ByteArray) (hs : s.size ≤ 1000000) (w : World) : Calls Tryz.prog 37 #[.string s] w fun e w' => e = .returned (.bool (domainB s)) ∧ Below w.heap.size w w' := by
  have HD := Aside0.mk (dotted_calls s 100 (by omega) 52 labelL hs (enters_of Tryz.func52 (by kernel_rfl) rfl) (fun p h1 h2 W => by rw [← labelB_eq p h1]; exact label_calls p h2 h1 W) w)
  go_enter Tryz.func37, Tryz.ntmps37
  go_wp2_with (go_at_call 51; refine HD.out.mono ?_; rintro e w' ⟨rfl, hB⟩)
  go_ret
  exact ⟨rfl, hB⟩
end Go.Proofs.YtjggdkcfpdhoaaaGreatDoor.Dotted
