/- smtp.Parse: the command of a text, or its code. -/
import Derived.Test.YtjggdkcfpdhoaaaGreatDoorRead
namespace Go.Proofs.YtjggdkcfpdhoaaaGreatDoor.Parse
open Go Go.RowKit Go.Proofs.YtjggdkcfpdhoaaaGreatDoorW.PrintWords Go.Proofs.YtjggdkcfpdhoaaaGreatDoor.Large Go.Proofs.YtjggdkcfpdhoaaaGreatDoor.Take Go.Proofs.YtjggdkcfpdhoaaaGreatDoor.Number Go.Proofs.YtjggdkcfpdhoaaaGreatDoor.Opt Go.Proofs.YtjggdkcfpdhoaaaGreatDoor.Mail Go.Proofs.YtjggdkcfpdhoaaaGreatDoor.Read
set_option linter.unusedVariables false
set_option linter.unusedSimpArgs false
def verbsL : List ByteArray := [⟨#[72, 69, 76, 79]⟩, ⟨#[69, 72, 76, 79]⟩, ⟨#[77, 65, 73, 76]⟩, ⟨#[82, 67, 80, 84]⟩, ⟨#[68, 65, 84, 65]⟩, ⟨#[82, 83, 69, 84]⟩, ⟨#[78, 79, 79, 80]⟩, ⟨#[81, 85, 73, 84]⟩, ⟨#[86, 82, 70, 89]⟩]
def emptyC : CmdR := ⟨emptyB, emptyB, emptyB, emptyB, 0, emptyB⟩
/-- A command as a value. -/
def cmdV (c : CmdR) : Value := .agg #[.string c.v, .string c.l, .string c.d, .string c.a, .int .i64 c.n, .string c.b]
/-- The command of a text, and its code. -/
def parseC (s : ByteArray) : CmdR × Int :=
  if Lib.containsS verbsL (largeB (cutA s 32)) = false then (emptyC, 500)
  else match readO { emptyC with v := largeB (cutA s 32) } (cutB s 32) (cutF s 32) with
    | none => (emptyC, 501)
    | some c => (c, 0)
theorem verbs_calls (w : World) : Calls Tryz.prog 18 #[] w fun e w' =>
    e = .returned (.slice (some ⟨w.heap.size, 0, none⟩) 9 9) ∧ w' = w.alloc (.cells ((verbsL.map Value.string).toArray) 9) := by
  go_enter Tryz.func18, Tryz.ntmps18
  go_wp2
  go_ret
  exact ⟨rfl, rfl⟩
theorem verbs_cells (w1 w2 : World) (hw : w2 = w1.alloc (.cells ((verbsL.map Value.string).toArray) 9)) : ∀ j, j < verbsL.length → w2.cell? ⟨w1.heap.size, 0 + j, none⟩ = some (.string (verbsL.getD j ByteArray.empty)) := by
  intro j hj
  rw [hw, World.cell?_alloc_new, Nat.zero_add]
  have h9 : verbsL.length = 9 := rfl
  rw [h9] at hj
  match j, hj with
  | 0, _ => rfl
  | 1, _ => rfl
  | 2, _ => rfl
  | 3, _ => rfl
  | 4, _ => rfl
  | 5, _ => rfl
  | 6, _ => rfl
  | 7, _ => rfl
  | 8, _ => rfl
def cmdO (c : CmdR) : Obj := .cells #[.string c.v, .string c.l, .string c.d, .string c.a, .int .i64 c.n, .string c.b] 26
theorem cmdAt_new (w : World) (c : CmdR) : CmdAt w.heap.size c (w.alloc (cmdO c)) :=
  ⟨World.cell?_alloc_at _ _ _ _ rfl, World.cell?_alloc_at _ _ _ _ rfl, World.cell?_alloc_at _ _ _ _ rfl, World.cell?_alloc_at _ _ _ _ rfl, World.cell?_alloc_at _ _ _ _ rfl, World.cell?_alloc_at _ _ _ _ rfl, fun i => World.frozen?_alloc_at _ _ _ _ rfl⟩
/-- What lies there while a text is parsed: the result's place, the command's. -/
structure PW (w : World) (Q : Nat) (c : CmdR) (t : Nat) (pv : Value) (W : World) : Prop where
  r0 : CmdAt w.heap.size emptyC W
  cq : CmdAt Q c W
  e : W.cell? ⟨1, 0, none⟩ = some (.iface t pv)
  lt : w.heap.size < Q
  bel : Below w.heap.size w W
theorem PW.below {w W W2 : World} {Q t : Nat} {c : CmdR} {pv : Value} (h : PW w Q c t pv W) (hb : Below W.heap.size W W2) : PW w Q c t pv W2 :=
  ⟨h.r0.below hb, h.cq.below hb, (hb.cell (p := ⟨1, 0, none⟩) (World.block_lt_of_cell? W _ h.e)).trans h.e, h.lt, h.bel.trans (hb.mono h.bel.size)⟩
theorem PW.start (w w1 : World) (n : Nat) (v : ByteArray) (t : Nat) (pv : Value) (hE : w.cell? ⟨1, 0, none⟩ = some (.iface t pv))
    (hb : Below ((w.alloc (cmdO emptyC)).drewN n).heap.size ((w.alloc (cmdO emptyC)).drewN n) w1) : PW w w1.heap.size { emptyC with v := v } t pv (w1.alloc (cmdO { emptyC with v := v })) := by
  have hlt := World.block_lt_of_cell? w _ hE
  have e1 : ((w.alloc (cmdO emptyC)).drewN n).heap.size = w.heap.size + 1 := World.size_alloc _ _
  have h0 : CmdAt w.heap.size emptyC ((w.alloc (cmdO emptyC)).drewN n) := (cmdAt_new w emptyC).heap rfl
  have hb0 : Below w.heap.size w ((w.alloc (cmdO emptyC)).drewN n) := pw_below_drewN ((Below.refl _ w).alloc (Nat.le_refl _) _) n
  have hb1 : Below w.heap.size w w1 := hb0.trans (hb.mono hb0.size)
  have h1 := h0.below hb
  have hz := hb.size
  have hb2 : Below w1.heap.size w1 (w1.alloc (cmdO { emptyC with v := v })) := (Below.refl _ w1).alloc (Nat.le_refl _) _
  have hb3 : Below w.heap.size w (w1.alloc (cmdO { emptyC with v := v })) := hb1.trans (hb2.mono hb1.size)
  exact ⟨h1.below hb2, cmdAt_new w1 _, (hb3.cell (p := ⟨1, 0, none⟩) hlt).trans hE, by omega, hb3⟩
theorem PW.read {w W W2 : World} {Q t : Nat} {c c2 : CmdR} {pv : Value} (h : PW w Q c t pv W) (hc : CmdAt Q c2 W2) (hk : KB Q W W2) : PW w Q c2 t pv W2 := by
  have h1 := h.lt
  have h2 := h.r0.lt
  have h3 := World.block_lt_of_cell? W _ h.e
  have hlt : 1 < W.heap.size := h3
  have hg : 1 ≠ Q → W2.cell? ⟨1, 0, none⟩ = some (.iface t pv) := fun hn => by
    have h9 := hk.block 1 hlt hn
    have h8 := h.e
    simpa [World.cell?, h9] using h8
  refine ⟨h.r0.heap (hk.block _ h2 (by omega)), hc, hg (fun e => ?_), h.lt, h.bel.trans (hk.toBelow _ (by omega) h.bel.size)⟩
  have h8 := h.e
  have h7 := h.cq.c0
  rw [e] at h8
  rw [h7] at h8
  cases h8
set_option maxRecDepth 100000 in
set_option maxHeartbeats 4000000 in
theorem parse_calls (s : ByteArray) (hs : s.size ≤ 1000000) (t : Nat) (pv : Value) (w : World) (hE : w.cell? ⟨1, 0, none⟩ = some (.iface t pv)) :
    Calls Tryz.prog 7 #[.string s] w fun e w' => e = .returned (.tuple #[cmdV (parseC s).1, .int .i64 (parseC s).2]) ∧ Below w.heap.size w w' := by
  obtain ⟨r, hr⟩ : ∃ r, r = parseC s := ⟨_, rfl⟩
  rw [← hr]
  unfold parseC at hr
  have z1 := cutA_size s 32
  have z2 := cutB_size s 32
  have HC := Aside0.mk (fun W => cut_calls s 32 hs W)
  have HL := Aside0.mk (fun W => large_calls (cutA s 32) (by omega) W)
  obtain ⟨q, hq⟩ : ∃ x, x = cutB s 32 := ⟨_, rfl⟩
  obtain ⟨f, hf⟩ : ∃ x, x = cutF s 32 := ⟨_, rfl⟩
  obtain ⟨a, ha⟩ : ∃ x, x = cutA s 32 := ⟨_, rfl⟩
  obtain ⟨v, hv⟩ : ∃ x, x = largeB (cutA s 32) := ⟨_, rfl⟩
  rw [← hv] at hr HL
  rw [← hq] at hr HC z2
  rw [← hf] at hr HC
  rw [← ha] at HC HL
  have HR := Aside0.mk (fun B W (h : CmdAt B { emptyC with v := v } W) (hE : W.cell? ⟨1, 0, none⟩ = some (.iface t pv)) => read_calls B { emptyC with v := v } q f (by omega) t pv W hE h)
  have HE := Aside0.mk hE
  clear hq hf ha hv z1 z2 hE
  go_enter Tryz.func7, Tryz.ntmps7
  go_upto_region 3 with (first
    | (go_at_call 15; refine (HC.out _).mono ?_; rintro e w' ⟨rfl, n1, rfl⟩)
    | (go_at_call 16; refine (HL.out _).mono ?_; rintro e w1 ⟨rfl, hb1⟩; have HB1 := Aside0.mk hb1; clear hb1))
  obtain ⟨W, hW⟩ : ∃ W, W = w1.alloc (cmdO { emptyC with v := v }) := ⟨_, rfl⟩
  have HW := Aside0.mk (PW.start w w1 n1 v t pv HE.out HB1.out)
  obtain ⟨Q, hQ⟩ : ∃ Q, Q = w1.heap.size := ⟨_, rfl⟩
  rw [← hW, ← hQ] at HW
  have hW2 : w1.alloc (Obj.cells #[Value.string v, Value.string ⟨#[]⟩, Value.string ⟨#[]⟩, Value.string ⟨#[]⟩, Value.int IntKind.i64 0, Value.string ⟨#[]⟩] 26) = W := hW.symm
  rw [hW2, ← hQ]
  clear hW hW2 HB1 HC HL hQ
  have hv0 := HW.out.cq.c0
  have HVS := Aside0.mk verbs_calls
  obtain ⟨ok, hok⟩ : ∃ x, x = Lib.containsS verbsL v := ⟨_, rfl⟩
  have HCN := Aside0.mk (fun b W (hc : ∀ j, j < verbsL.length → W.cell? ⟨b, 0 + j, none⟩ = some (.string (verbsL.getD j ByteArray.empty))) => Tryz.slices_Contains_string b 0 9 9 verbsL v W (by decide) (by decide) hc)
  have HCN : Aside0 (∀ b W, (∀ j, j < verbsL.length → W.cell? ⟨b, 0 + j, none⟩ = some (.string (verbsL.getD j ByteArray.empty))) → Calls Tryz.prog 17 #[.slice (some ⟨b, 0, none⟩) 9 9, .string v] W fun e w' => e = .returned (.bool ok) ∧ w' = W) := ⟨fun b W hc => by rw [hok]; exact HCN.out b W hc⟩
  rw [← hok] at hr
  clear hok
  go_region_with (first
    | (go_at_call 18; refine (HVS.out _).mono ?_; rintro e w2 ⟨rfl, hw2⟩; have HL2 := Aside0.mk (verbs_cells _ w2 hw2); have HW2 := Aside0.mk (HW.out.below (show Below W.heap.size W w2 by rw [hw2]; exact ((Below.refl _ W).drew).alloc (Nat.le_refl _) _)); have hv2 := HW2.out.cq.c0; clear hw2)
    | (go_at_call 17; refine (HCN.out _ _ HL2.out).mono ?_; rintro e w' ⟨rfl, rfl⟩))
  all_goals clear hv2 hv0 HL2 HVS HCN HE HW
  all_goals
    cases ok with
    | false =>
      have hr2 : r = (emptyC, 500) := hr
      clear hr HR
      subst hr2
      have HB := Aside0.mk HW2.out.bel
      have m0 := HW2.out.r0.c0; have m1 := HW2.out.r0.c1; have m2 := HW2.out.r0.c2; have m3 := HW2.out.r0.c3; have m4 := HW2.out.r0.c4; have m5 := HW2.out.r0.c5
      have mf := HW2.out.r0.fr
      simp only [emptyC, emptyB] at m0 m1 m2 m3 m4 m5
      go_wp2
      refine bodyPost_ret (v := .tuple #[cmdV emptyC, .int .i64 500]) (by simp [results, Tryz.results7, go_sem, cmdV, emptyC, emptyB, m0, m1, m2, m3, m4, m5]) rfl ⟨rfl, ((((((HW2.out.bel.setCell (p := ⟨w.heap.size, 0, none⟩) (Nat.le_refl _) _).setCell (p := ⟨w.heap.size, 1, none⟩) (Nat.le_refl _) _).setCell (p := ⟨w.heap.size, 2, none⟩) (Nat.le_refl _) _).setCell (p := ⟨w.heap.size, 3, none⟩) (Nat.le_refl _) _).setCell (p := ⟨w.heap.size, 4, none⟩) (Nat.le_refl _) _).setCell (p := ⟨w.heap.size, 5, none⟩) (Nat.le_refl _) _)⟩
    | true =>
      have HRD := Aside0.mk (HR.out Q w' HW2.out.cq HW2.out.e)
      obtain ⟨ro, hro⟩ : ∃ x, x = readO { emptyC with v := v } q f := ⟨_, rfl⟩
      rw [← hro] at hr HRD
      clear hro HR
      cases ro with
      | none =>
        have hr2 : r = (emptyC, 501) := hr
        clear hr
        subst hr2
        go_wp2_with (go_at_call 19; refine HRD.out.mono ?_; rintro e w3 ⟨rfl, hp1, hp2⟩; obtain ⟨c2, hc2, _⟩ := hp1; have HW3 := Aside0.mk (HW2.out.read hc2 hp2); clear hc2 hp2; have m0 := HW3.out.r0.c0; have m1 := HW3.out.r0.c1; have m2 := HW3.out.r0.c2; have m3 := HW3.out.r0.c3; have m4 := HW3.out.r0.c4; have m5 := HW3.out.r0.c5; have mf := HW3.out.r0.fr; simp only [emptyC, emptyB] at m0 m1 m2 m3 m4 m5)
        refine bodyPost_ret (v := .tuple #[cmdV emptyC, .int .i64 501]) (by simp [results, Tryz.results7, go_sem, cmdV, emptyC, emptyB, m0, m1, m2, m3, m4, m5]) rfl ⟨rfl, ((((((HW3.out.bel.setCell (p := ⟨w.heap.size, 0, none⟩) (Nat.le_refl _) _).setCell (p := ⟨w.heap.size, 1, none⟩) (Nat.le_refl _) _).setCell (p := ⟨w.heap.size, 2, none⟩) (Nat.le_refl _) _).setCell (p := ⟨w.heap.size, 3, none⟩) (Nat.le_refl _) _).setCell (p := ⟨w.heap.size, 4, none⟩) (Nat.le_refl _) _).setCell (p := ⟨w.heap.size, 5, none⟩) (Nat.le_refl _) _)⟩
      | some c =>
        have hr2 : r = (c, 0) := hr
        clear hr
        subst hr2
        go_wp2_with (go_at_call 19; refine HRD.out.mono ?_; rintro e w3 ⟨rfl, hp1, hp2⟩; obtain ⟨c2, hc2, hc3⟩ := hp1; have hc4 := hc3 c rfl; subst hc4; have HW3 := Aside0.mk (HW2.out.read hc2 hp2); clear hc2 hp2 hc3; have m0 := HW3.out.r0.c0; have m1 := HW3.out.r0.c1; have m2 := HW3.out.r0.c2; have m3 := HW3.out.r0.c3; have m4 := HW3.out.r0.c4; have m5 := HW3.out.r0.c5; have mf := HW3.out.r0.fr; simp only [emptyC, emptyB] at m0 m1 m2 m3 m4 m5; have n0 := HW3.out.cq.c0; have n1 := HW3.out.cq.c1; have n2 := HW3.out.cq.c2; have n3 := HW3.out.cq.c3; have n4 := HW3.out.cq.c4; have n5 := HW3.out.cq.c5)
        refine bodyPost_ret (v := .tuple #[cmdV c2, .int .i64 0]) (by simp [results, Tryz.results7, go_sem, cmdV, emptyC, emptyB, m0, m1, m2, m3, m4, m5]) rfl ⟨rfl, ((((((HW3.out.bel.setCell (p := ⟨w.heap.size, 0, none⟩) (Nat.le_refl _) _).setCell (p := ⟨w.heap.size, 1, none⟩) (Nat.le_refl _) _).setCell (p := ⟨w.heap.size, 2, none⟩) (Nat.le_refl _) _).setCell (p := ⟨w.heap.size, 3, none⟩) (Nat.le_refl _) _).setCell (p := ⟨w.heap.size, 4, none⟩) (Nat.le_refl _) _).setCell (p := ⟨w.heap.size, 5, none⟩) (Nat.le_refl _) _)⟩
end Go.Proofs.YtjggdkcfpdhoaaaGreatDoor.Parse
