/- smtp's Command in its place; option: one of MAIL's options. -/
import Derived.Test.YtjggdkcfpdhoaaaGreatDoorNumber
import Derived.Test.YtjggdkcfpdhoaaaGreatDoorWKept
namespace Go.Proofs.YtjggdkcfpdhoaaaGreatDoor.Opt
open Go Go.RowKit Go.Proofs.YtjggdkcfpdhoaaaGreatDoorW.PrintWords Go.Proofs.YtjggdkcfpdhoaaaGreatDoor.Large Go.Proofs.YtjggdkcfpdhoaaaGreatDoor.Take Go.Proofs.YtjggdkcfpdhoaaaGreatDoor.Number
set_option linter.unusedVariables false
set_option linter.unusedSimpArgs false
structure CmdR where
  v : ByteArray
  l : ByteArray
  d : ByteArray
  a : ByteArray
  n : Int
  b : ByteArray
/-- A command lies in block B. -/
structure CmdAt (B : Nat) (c : CmdR) (W : World) : Prop where
  c0 : W.cell? ⟨B, 0, none⟩ = some (.string c.v)
  c1 : W.cell? ⟨B, 1, none⟩ = some (.string c.l)
  c2 : W.cell? ⟨B, 2, none⟩ = some (.string c.d)
  c3 : W.cell? ⟨B, 3, none⟩ = some (.string c.a)
  c4 : W.cell? ⟨B, 4, none⟩ = some (.int .i64 c.n)
  c5 : W.cell? ⟨B, 5, none⟩ = some (.string c.b)
  fr : ∀ i, W.frozen? ⟨B, i, none⟩ = false
theorem CmdAt.lt {B : Nat} {c : CmdR} {W : World} (h : CmdAt B c W) : B < W.heap.size := World.block_lt_of_cell? W _ h.c0
theorem CmdAt.heap {B : Nat} {c : CmdR} {W W' : World} (h : CmdAt B c W) (hk : W'.heap[B]? = W.heap[B]?) : CmdAt B c W' := by
  have hc : ∀ i v, W.cell? ⟨B, i, none⟩ = some v → W'.cell? ⟨B, i, none⟩ = some v := fun i v hv => by simpa [World.cell?, hk] using hv
  exact ⟨hc _ _ h.c0, hc _ _ h.c1, hc _ _ h.c2, hc _ _ h.c3, hc _ _ h.c4, hc _ _ h.c5, fun i => by have := h.fr i; simpa [World.frozen?, hk] using this⟩
theorem CmdAt.below {B : Nat} {c : CmdR} {W W' : World} (h : CmdAt B c W) (hb : Below W.heap.size W W') : CmdAt B c W' := h.heap (hb.block B h.lt)
theorem CmdAt.setN {B : Nat} {c : CmdR} {W : World} (h : CmdAt B c W) (n : Int) : CmdAt B { c with n := n } (W.setCell ⟨B, 4, none⟩ (.int .i64 n)) := by
  refine ⟨?_, ?_, ?_, ?_, World.cell?_setCell_same' _ _ _ (by rw [h.c4]; rfl), ?_, fun i => by rw [World.frozen?_setCell]; exact h.fr i⟩
  · exact (World.cell?_setCell_other _ _ _ _ (by simp)).trans h.c0
  · exact (World.cell?_setCell_other _ _ _ _ (by simp)).trans h.c1
  · exact (World.cell?_setCell_other _ _ _ _ (by simp)).trans h.c2
  · exact (World.cell?_setCell_other _ _ _ _ (by simp)).trans h.c3
  · exact (World.cell?_setCell_other _ _ _ _ (by simp)).trans h.c5
theorem CmdAt.setB {B : Nat} {c : CmdR} {W : World} (h : CmdAt B c W) (b : ByteArray) : CmdAt B { c with b := b } (W.setCell ⟨B, 5, none⟩ (.string b)) := by
  refine ⟨?_, ?_, ?_, ?_, ?_, World.cell?_setCell_same' _ _ _ (by rw [h.c5]; rfl), fun i => by rw [World.frozen?_setCell]; exact h.fr i⟩
  · exact (World.cell?_setCell_other _ _ _ _ (by simp)).trans h.c0
  · exact (World.cell?_setCell_other _ _ _ _ (by simp)).trans h.c1
  · exact (World.cell?_setCell_other _ _ _ _ (by simp)).trans h.c2
  · exact (World.cell?_setCell_other _ _ _ _ (by simp)).trans h.c3
  · exact (World.cell?_setCell_other _ _ _ _ (by simp)).trans h.c4
theorem CmdAt.setA {B : Nat} {c : CmdR} {W : World} (h : CmdAt B c W) (a : ByteArray) : CmdAt B { c with a := a } (W.setCell ⟨B, 3, none⟩ (.string a)) := by
  refine ⟨?_, ?_, ?_, World.cell?_setCell_same' _ _ _ (by rw [h.c3]; rfl), ?_, ?_, fun i => by rw [World.frozen?_setCell]; exact h.fr i⟩
  · exact (World.cell?_setCell_other _ _ _ _ (by simp)).trans h.c0
  · exact (World.cell?_setCell_other _ _ _ _ (by simp)).trans h.c1
  · exact (World.cell?_setCell_other _ _ _ _ (by simp)).trans h.c2
  · exact (World.cell?_setCell_other _ _ _ _ (by simp)).trans h.c4
  · exact (World.cell?_setCell_other _ _ _ _ (by simp)).trans h.c5
theorem CmdAt.setP {B : Nat} {c : CmdR} {W : World} (h : CmdAt B c W) (l d : ByteArray) : CmdAt B { c with l := l, d := d } ((W.setCell ⟨B, 1, none⟩ (.string l)).setCell ⟨B, 2, none⟩ (.string d)) := by
  refine ⟨?_, ?_, ?_, ?_, ?_, ?_, fun i => by rw [World.frozen?_setCell, World.frozen?_setCell]; exact h.fr i⟩
  · exact (World.cell?_setCell_other _ _ _ _ (by simp)).trans ((World.cell?_setCell_other _ _ _ _ (by simp)).trans h.c0)
  · exact (World.cell?_setCell_other _ _ _ _ (by simp)).trans (World.cell?_setCell_same' _ _ _ (by rw [h.c1]; rfl))
  · exact World.cell?_setCell_same' _ _ _ (by rw [World.cell?_setCell_other _ _ _ _ (by simp), h.c2]; rfl)
  · exact (World.cell?_setCell_other _ _ _ _ (by simp)).trans ((World.cell?_setCell_other _ _ _ _ (by simp)).trans h.c3)
  · exact (World.cell?_setCell_other _ _ _ _ (by simp)).trans ((World.cell?_setCell_other _ _ _ _ (by simp)).trans h.c4)
  · exact (World.cell?_setCell_other _ _ _ _ (by simp)).trans ((World.cell?_setCell_other _ _ _ _ (by simp)).trans h.c5)
/-- One of MAIL's options, read into a command. -/
def optC (c : CmdR) (s : ByteArray) : Option CmdR :=
  if ((largeB (cutA s 61)).toList == ([83, 73, 90, 69] : List UInt8)) = true then
    if numF (cutB s 61) = true then if 0 ≤ c.n then none else some { c with n := numV (cutB s 61) } else none
  else if ((largeB (cutA s 61)).toList == ([66, 79, 68, 89] : List UInt8)) = true then
    if c.b.toList.isEmpty = true then
      if ((largeB (cutB s 61)).toList == ([55, 66, 73, 84] : List UInt8) || (largeB (cutB s 61)).toList == ([56, 66, 73, 84, 77, 73, 77, 69] : List UInt8)) = true then some { c with b := largeB (cutB s 61) } else none
    else none
  else none
/-- What a call that writes block B keeps. -/
structure KB (B : Nat) (w W : World) : Prop where
  os : W.os = w.os
  tape : W.tape = w.tape
  output : W.output = w.output
  size : w.heap.size ≤ W.heap.size
  block : ∀ i, i < w.heap.size → i ≠ B → W.heap[i]? = w.heap[i]?
theorem KB.refl (B : Nat) (w : World) : KB B w w := ⟨rfl, rfl, rfl, Nat.le_refl _, fun _ _ _ => rfl⟩
theorem KB.then_ {B : Nat} {w W W2 : World} (h : KB B w W) (k : KB B W W2) : KB B w W2 :=
  ⟨k.os.trans h.os, k.tape.trans h.tape, k.output.trans h.output, Nat.le_trans h.size k.size, fun i hi hn => (k.block i (Nat.lt_of_lt_of_le hi h.size) hn).trans (h.block i hi hn)⟩
theorem kept_below {B : Nat} {w W : World} (h : Below w.heap.size w W) : KB B w W := ⟨h.os, h.tape, h.output, h.size, fun i hi _ => h.block i hi⟩
theorem KB.below {B : Nat} {w W W2 : World} (h : KB B w W) (hb : Below W.heap.size W W2) : KB B w W2 := h.then_ (kept_below hb)
theorem KB.setCell {B : Nat} {w W : World} (h : KB B w W) {p : Addr} (hp : p.block = B ∨ w.heap.size ≤ p.block) (u : Value) : KB B w (W.setCell p u) :=
  ⟨h.os, h.tape, h.output, by rw [World.size_setCell]; exact h.size, fun i hi hn => (Below.heap_setCell W p u i (by omega)).trans (h.block i hi hn)⟩
theorem KB.toBelow {B : Nat} {w W : World} (h : KB B w W) (n : Nat) (hn : n ≤ B) (hw : n ≤ w.heap.size) : Below n w W := ⟨h.os, h.tape, h.output, h.size, fun k hk => h.block k (by omega) (by omega)⟩
theorem kept_drew {B n : Nat} {w W : World} (h : Below (w.drewN n).heap.size (w.drewN n) W) : KB B w W := ⟨h.os, h.tape, h.output, h.size, fun i hi _ => h.block i hi⟩
theorem size_upd (s : ByteArray) (hs : s.size ≤ 1000000) : (cutA s 61).size ≤ 1000000 ∧ (cutB s 61).size ≤ 1000000 := ⟨Nat.le_trans (cutA_size s 61) hs, Nat.le_trans (cutB_size s 61) hs⟩
set_option maxHeartbeats 2000000 in
theorem option_calls (B : Nat) (c : CmdR) (s : ByteArray) (hs : s.size ≤ 1000000) (w : World) (h : CmdAt B c w) :
    Calls Tryz.prog 56 #[.pointer (some ⟨B, 0, none⟩), .string s] w fun e w' => e = .returned (.bool (optC c s).isSome) ∧ CmdAt B ((optC c s).getD c) w' ∧ KB B w w' := by
  obtain ⟨r, hr⟩ : ∃ r, r = optC c s := ⟨_, rfl⟩
  rw [← hr]
  unfold optC at hr
  obtain ⟨k1, k2⟩ := size_upd s hs
  have HC := Aside0.mk (fun W => cut_calls s 61 hs W)
  have HL := Aside0.mk (fun W => large_calls (cutA s 61) k1 W)
  have HV := Aside0.mk (fun W => large_calls (cutB s 61) k2 W)
  have HN := Aside0.mk (fun W => number_calls (cutB s 61) k2 W)
  obtain ⟨nm, hnm⟩ : ∃ x, x = cutA s 61 := ⟨_, rfl⟩
  obtain ⟨va, hva⟩ : ∃ x, x = cutB s 61 := ⟨_, rfl⟩
  rw [← hnm] at hr HC HL
  rw [← hva] at hr HC HV HN
  obtain ⟨u, hu⟩ : ∃ x, x = largeB nm := ⟨_, rfl⟩
  obtain ⟨uv, huv⟩ : ∃ x, x = largeB va := ⟨_, rfl⟩
  rw [← hu] at hr HL
  rw [← huv] at hr HV
  obtain ⟨nf, hnf⟩ : ∃ x, x = numF va := ⟨_, rfl⟩
  obtain ⟨nv, hnv⟩ : ∃ x, x = numV va := ⟨_, rfl⟩
  rw [← hnf] at hr HN
  rw [← hnv] at hr HN
  have HCA := Aside0.mk h
  clear hu huv hnf hnv hnm hva k1 k2 h
  cases b1 : u.toList == [83, 73, 90, 69] with
  | true =>
    rw [b1] at hr
    cases b2 : nf with
    | true =>
      rw [b2] at hr HN
      by_cases b3 : 0 ≤ c.n
      · have t1 : decide (0 ≤ c.n) = true := decide_eq_true b3
        rw [if_pos rfl, if_pos rfl, if_pos b3] at hr
        subst hr
        go_enter Tryz.func56, Tryz.ntmps56
        go_wp2_with (first
          | (go_at_call 15; refine (HC.out _).mono ?_; rintro e w' ⟨rfl, n1, rfl⟩)
          | (go_at_call 16; first | (with_reducible refine (HL.out _).mono ?_; rintro e w1 ⟨rfl, hb1⟩; have HB1 := Aside0.mk hb1; have HC1 := Aside0.mk ((HCA.out.heap (W' := w.drewN n1) rfl).below hb1); clear hb1; have x4 := HC1.out.c4; have x5 := HC1.out.c5; have y4 := HC1.out.fr 4; have y5 := HC1.out.fr 5) | (with_reducible refine (HV.out _).mono ?_; rintro e w2 ⟨rfl, hb2⟩; have HB2 := Aside0.mk (HB1.out.trans (hb2.mono HB1.out.size)); have HC2 := Aside0.mk (HC1.out.below hb2); clear hb2; have x4 := HC2.out.c4; have x5 := HC2.out.c5; have y4 := HC2.out.fr 4; have y5 := HC2.out.fr 5))
          | (go_at_call 32; refine (HN.out _).mono ?_; rintro e w2 ⟨rfl, hb2⟩; have HB2 := Aside0.mk (HB1.out.trans (hb2.mono HB1.out.size)); have HC2 := Aside0.mk (HC1.out.below hb2); clear hb2; have x4 := HC2.out.c4; have x5 := HC2.out.c5; have y4 := HC2.out.fr 4; have y5 := HC2.out.fr 5))
        go_ret
        exact ⟨rfl, HC2.out, kept_drew HB2.out⟩
      · have t1 : decide (0 ≤ c.n) = false := decide_eq_false b3
        rw [if_pos rfl, if_pos rfl, if_neg b3] at hr
        subst hr
        go_enter Tryz.func56, Tryz.ntmps56
        go_wp2_with (first
          | (go_at_call 15; refine (HC.out _).mono ?_; rintro e w' ⟨rfl, n1, rfl⟩)
          | (go_at_call 16; first | (with_reducible refine (HL.out _).mono ?_; rintro e w1 ⟨rfl, hb1⟩; have HB1 := Aside0.mk hb1; have HC1 := Aside0.mk ((HCA.out.heap (W' := w.drewN n1) rfl).below hb1); clear hb1; have x4 := HC1.out.c4; have x5 := HC1.out.c5; have y4 := HC1.out.fr 4; have y5 := HC1.out.fr 5) | (with_reducible refine (HV.out _).mono ?_; rintro e w2 ⟨rfl, hb2⟩; have HB2 := Aside0.mk (HB1.out.trans (hb2.mono HB1.out.size)); have HC2 := Aside0.mk (HC1.out.below hb2); clear hb2; have x4 := HC2.out.c4; have x5 := HC2.out.c5; have y4 := HC2.out.fr 4; have y5 := HC2.out.fr 5))
          | (go_at_call 32; refine (HN.out _).mono ?_; rintro e w2 ⟨rfl, hb2⟩; have HB2 := Aside0.mk (HB1.out.trans (hb2.mono HB1.out.size)); have HC2 := Aside0.mk (HC1.out.below hb2); clear hb2; have x4 := HC2.out.c4; have x5 := HC2.out.c5; have y4 := HC2.out.fr 4; have y5 := HC2.out.fr 5))
        go_ret
        exact ⟨rfl, HC2.out.setN _, (kept_drew HB2.out).setCell (p := ⟨B, 4, none⟩) (.inl rfl) _⟩
    | false =>
      rw [b2] at hr HN
      rw [if_pos rfl, if_neg (by simp)] at hr
      subst hr
      go_enter Tryz.func56, Tryz.ntmps56
      go_wp2_with (first
        | (go_at_call 15; refine (HC.out _).mono ?_; rintro e w' ⟨rfl, n1, rfl⟩)
        | (go_at_call 16; first | (with_reducible refine (HL.out _).mono ?_; rintro e w1 ⟨rfl, hb1⟩; have HB1 := Aside0.mk hb1; have HC1 := Aside0.mk ((HCA.out.heap (W' := w.drewN n1) rfl).below hb1); clear hb1; have x4 := HC1.out.c4; have x5 := HC1.out.c5; have y4 := HC1.out.fr 4; have y5 := HC1.out.fr 5) | (with_reducible refine (HV.out _).mono ?_; rintro e w2 ⟨rfl, hb2⟩; have HB2 := Aside0.mk (HB1.out.trans (hb2.mono HB1.out.size)); have HC2 := Aside0.mk (HC1.out.below hb2); clear hb2; have x4 := HC2.out.c4; have x5 := HC2.out.c5; have y4 := HC2.out.fr 4; have y5 := HC2.out.fr 5))
        | (go_at_call 32; refine (HN.out _).mono ?_; rintro e w2 ⟨rfl, hb2⟩; have HB2 := Aside0.mk (HB1.out.trans (hb2.mono HB1.out.size)); have HC2 := Aside0.mk (HC1.out.below hb2); clear hb2; have x4 := HC2.out.c4; have x5 := HC2.out.c5; have y4 := HC2.out.fr 4; have y5 := HC2.out.fr 5))
      go_ret
      exact ⟨rfl, HC2.out, kept_drew HB2.out⟩
  | false =>
    rw [b1] at hr
    cases b2 : u.toList == [66, 79, 68, 89] with
    | false =>
      rw [b2] at hr
      rw [if_neg (by simp), if_neg (by simp)] at hr
      subst hr
      go_enter Tryz.func56, Tryz.ntmps56
      go_wp2_with (first
        | (go_at_call 15; refine (HC.out _).mono ?_; rintro e w' ⟨rfl, n1, rfl⟩)
        | (go_at_call 16; first | (with_reducible refine (HL.out _).mono ?_; rintro e w1 ⟨rfl, hb1⟩; have HB1 := Aside0.mk hb1; have HC1 := Aside0.mk ((HCA.out.heap (W' := w.drewN n1) rfl).below hb1); clear hb1; have x4 := HC1.out.c4; have x5 := HC1.out.c5; have y4 := HC1.out.fr 4; have y5 := HC1.out.fr 5) | (with_reducible refine (HV.out _).mono ?_; rintro e w2 ⟨rfl, hb2⟩; have HB2 := Aside0.mk (HB1.out.trans (hb2.mono HB1.out.size)); have HC2 := Aside0.mk (HC1.out.below hb2); clear hb2; have x4 := HC2.out.c4; have x5 := HC2.out.c5; have y4 := HC2.out.fr 4; have y5 := HC2.out.fr 5))
        | (go_at_call 32; refine (HN.out _).mono ?_; rintro e w2 ⟨rfl, hb2⟩; have HB2 := Aside0.mk (HB1.out.trans (hb2.mono HB1.out.size)); have HC2 := Aside0.mk (HC1.out.below hb2); clear hb2; have x4 := HC2.out.c4; have x5 := HC2.out.c5; have y4 := HC2.out.fr 4; have y5 := HC2.out.fr 5))
      go_ret
      exact ⟨rfl, HC1.out, kept_drew HB1.out⟩
    | true =>
      rw [b2] at hr
      cases b3 : c.b.toList.isEmpty with
      | false =>
        rw [b3] at hr
        rw [if_neg (by simp), if_pos rfl, if_neg (by simp)] at hr
        subst hr
        go_enter Tryz.func56, Tryz.ntmps56
        go_wp2_with (first
          | (go_at_call 15; refine (HC.out _).mono ?_; rintro e w' ⟨rfl, n1, rfl⟩)
          | (go_at_call 16; first | (with_reducible refine (HL.out _).mono ?_; rintro e w1 ⟨rfl, hb1⟩; have HB1 := Aside0.mk hb1; have HC1 := Aside0.mk ((HCA.out.heap (W' := w.drewN n1) rfl).below hb1); clear hb1; have x4 := HC1.out.c4; have x5 := HC1.out.c5; have y4 := HC1.out.fr 4; have y5 := HC1.out.fr 5) | (with_reducible refine (HV.out _).mono ?_; rintro e w2 ⟨rfl, hb2⟩; have HB2 := Aside0.mk (HB1.out.trans (hb2.mono HB1.out.size)); have HC2 := Aside0.mk (HC1.out.below hb2); clear hb2; have x4 := HC2.out.c4; have x5 := HC2.out.c5; have y4 := HC2.out.fr 4; have y5 := HC2.out.fr 5))
          | (go_at_call 32; refine (HN.out _).mono ?_; rintro e w2 ⟨rfl, hb2⟩; have HB2 := Aside0.mk (HB1.out.trans (hb2.mono HB1.out.size)); have HC2 := Aside0.mk (HC1.out.below hb2); clear hb2; have x4 := HC2.out.c4; have x5 := HC2.out.c5; have y4 := HC2.out.fr 4; have y5 := HC2.out.fr 5))
        go_ret
        exact ⟨rfl, HC2.out, kept_drew HB2.out⟩
      | true =>
        rw [b3] at hr
        cases b4 : uv.toList == [55, 66, 73, 84] with
        | true =>
          rw [b4] at hr
          rw [if_neg (by simp), if_pos rfl, if_pos rfl, if_pos (by simp)] at hr
          subst hr
          go_enter Tryz.func56, Tryz.ntmps56
          go_wp2_with (first
            | (go_at_call 15; refine (HC.out _).mono ?_; rintro e w' ⟨rfl, n1, rfl⟩)
            | (go_at_call 16; first | (with_reducible refine (HL.out _).mono ?_; rintro e w1 ⟨rfl, hb1⟩; have HB1 := Aside0.mk hb1; have HC1 := Aside0.mk ((HCA.out.heap (W' := w.drewN n1) rfl).below hb1); clear hb1; have x4 := HC1.out.c4; have x5 := HC1.out.c5; have y4 := HC1.out.fr 4; have y5 := HC1.out.fr 5) | (with_reducible refine (HV.out _).mono ?_; rintro e w2 ⟨rfl, hb2⟩; have HB2 := Aside0.mk (HB1.out.trans (hb2.mono HB1.out.size)); have HC2 := Aside0.mk (HC1.out.below hb2); clear hb2; have x4 := HC2.out.c4; have x5 := HC2.out.c5; have y4 := HC2.out.fr 4; have y5 := HC2.out.fr 5))
            | (go_at_call 32; refine (HN.out _).mono ?_; rintro e w2 ⟨rfl, hb2⟩; have HB2 := Aside0.mk (HB1.out.trans (hb2.mono HB1.out.size)); have HC2 := Aside0.mk (HC1.out.below hb2); clear hb2; have x4 := HC2.out.c4; have x5 := HC2.out.c5; have y4 := HC2.out.fr 4; have y5 := HC2.out.fr 5))
          go_ret
          exact ⟨rfl, HC2.out.setB _, (kept_drew HB2.out).setCell (p := ⟨B, 5, none⟩) (.inl rfl) _⟩
        | false =>
          rw [b4] at hr
          cases b5 : uv.toList == [56, 66, 73, 84, 77, 73, 77, 69] with
          | true =>
            rw [b5] at hr
            rw [if_neg (by simp), if_pos rfl, if_pos rfl, if_pos (by simp)] at hr
            subst hr
            go_enter Tryz.func56, Tryz.ntmps56
            go_wp2_with (first
              | (go_at_call 15; refine (HC.out _).mono ?_; rintro e w' ⟨rfl, n1, rfl⟩)
              | (go_at_call 16; first | (with_reducible refine (HL.out _).mono ?_; rintro e w1 ⟨rfl, hb1⟩; have HB1 := Aside0.mk hb1; have HC1 := Aside0.mk ((HCA.out.heap (W' := w.drewN n1) rfl).below hb1); clear hb1; have x4 := HC1.out.c4; have x5 := HC1.out.c5; have y4 := HC1.out.fr 4; have y5 := HC1.out.fr 5) | (with_reducible refine (HV.out _).mono ?_; rintro e w2 ⟨rfl, hb2⟩; have HB2 := Aside0.mk (HB1.out.trans (hb2.mono HB1.out.size)); have HC2 := Aside0.mk (HC1.out.below hb2); clear hb2; have x4 := HC2.out.c4; have x5 := HC2.out.c5; have y4 := HC2.out.fr 4; have y5 := HC2.out.fr 5))
              | (go_at_call 32; refine (HN.out _).mono ?_; rintro e w2 ⟨rfl, hb2⟩; have HB2 := Aside0.mk (HB1.out.trans (hb2.mono HB1.out.size)); have HC2 := Aside0.mk (HC1.out.below hb2); clear hb2; have x4 := HC2.out.c4; have x5 := HC2.out.c5; have y4 := HC2.out.fr 4; have y5 := HC2.out.fr 5))
            go_ret
            exact ⟨rfl, HC2.out.setB _, (kept_drew HB2.out).setCell (p := ⟨B, 5, none⟩) (.inl rfl) _⟩
          | false =>
            rw [b5] at hr
            rw [if_neg (by simp), if_pos rfl, if_pos rfl, if_neg (by simp)] at hr
            subst hr
            go_enter Tryz.func56, Tryz.ntmps56
            go_wp2_with (first
              | (go_at_call 15; refine (HC.out _).mono ?_; rintro e w' ⟨rfl, n1, rfl⟩)
              | (go_at_call 16; first | (with_reducible refine (HL.out _).mono ?_; rintro e w1 ⟨rfl, hb1⟩; have HB1 := Aside0.mk hb1; have HC1 := Aside0.mk ((HCA.out.heap (W' := w.drewN n1) rfl).below hb1); clear hb1; have x4 := HC1.out.c4; have x5 := HC1.out.c5; have y4 := HC1.out.fr 4; have y5 := HC1.out.fr 5) | (with_reducible refine (HV.out _).mono ?_; rintro e w2 ⟨rfl, hb2⟩; have HB2 := Aside0.mk (HB1.out.trans (hb2.mono HB1.out.size)); have HC2 := Aside0.mk (HC1.out.below hb2); clear hb2; have x4 := HC2.out.c4; have x5 := HC2.out.c5; have y4 := HC2.out.fr 4; have y5 := HC2.out.fr 5))
              | (go_at_call 32; refine (HN.out _).mono ?_; rintro e w2 ⟨rfl, hb2⟩; have HB2 := Aside0.mk (HB1.out.trans (hb2.mono HB1.out.size)); have HC2 := Aside0.mk (HC1.out.below hb2); clear hb2; have x4 := HC2.out.c4; have x5 := HC2.out.c5; have y4 := HC2.out.fr 4; have y5 := HC2.out.fr 5))
            go_ret
            exact ⟨rfl, HC2.out, kept_drew HB2.out⟩
end Go.Proofs.YtjggdkcfpdhoaaaGreatDoor.Opt
