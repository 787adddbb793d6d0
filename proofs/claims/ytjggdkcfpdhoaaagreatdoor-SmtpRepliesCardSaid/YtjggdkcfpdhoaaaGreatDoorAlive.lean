/- The law's alive: the chapter's examples. -/
import Derived.Test.YtjggdkcfpdhoaaaGreatDoorBase
import Derived.Test.YtjggdkcfpdhoaaaGreatDoorReply
import Derived.KernelRfl
import Derived.Shelf.Strings.SlTrimAscii
namespace Go.Proofs.YtjggdkcfpdhoaaaGreatDoor.Alive
open Go Go.RowKit Go.Proofs.YtjggdkcfpdhoaaaGreatDoorW.PrintWords Go.Proofs.YtjggdkcfpdhoaaaGreatDoor.Take Go.Proofs.YtjggdkcfpdhoaaaGreatDoor.Number Go.Proofs.YtjggdkcfpdhoaaaGreatDoor.Opt Go.Proofs.YtjggdkcfpdhoaaaGreatDoor.Parse Go.Proofs.YtjggdkcfpdhoaaaGreatDoor.Bld Go.Proofs.YtjggdkcfpdhoaaaGreatDoor.Reply
set_option linter.unusedVariables false
set_option linter.unusedSimpArgs false
/-- What the examples meet: the sentinel, the library's table. -/
structure AW (ev : Value) (W : World) : Prop where
  e : W.cell? ⟨1, 0, none⟩ = some ev
  tab : TabW W
theorem AW.below {ev : Value} {W W2 : World} (h : AW ev W) (hb : Below W.heap.size W W2) : AW ev W2 :=
  ⟨(hb.cell (p := ⟨1, 0, none⟩) (World.block_lt_of_cell? W _ h.e)).trans h.e, tab_below h.tab hb⟩
def mailS : ByteArray := ⟨#[109, 97, 105, 108, 32, 102, 114, 111, 109, 58, 60, 97, 64, 98, 62, 32, 115, 105, 122, 101, 61, 55]⟩
theorem parse_mail : parseC mailS = (⟨⟨#[77, 65, 73, 76]⟩, ⟨#[97]⟩, ⟨#[98]⟩, ⟨#[]⟩, 7, ⟨#[]⟩⟩, 0) := by kernel_rfl
theorem parse_hello : parseC ⟨#[72, 69, 76, 76, 79, 32, 120]⟩ = (emptyC, 500) := by kernel_rfl
theorem reply_ab : replyB 250 [⟨#[97]⟩, ⟨#[98]⟩] = ⟨#[50, 53, 48, 45, 97, 13, 10, 50, 53, 48, 32, 98, 13, 10]⟩ := by kernel_rfl
def mailC : CmdR := ⟨⟨#[77, 65, 73, 76]⟩, ⟨#[97]⟩, ⟨#[98]⟩, ⟨#[]⟩, 7, ⟨#[]⟩⟩
def abL : List ByteArray := [⟨#[97]⟩, ⟨#[98]⟩]
structure AL (w : World) (Q : Nat) (ev : Value) (W : World) : Prop where
  cq : CmdAt Q mailC W
  aw : AW ev W
  bel : Below w.heap.size w W
theorem AL.below {w W W2 : World} {Q : Nat} {ev : Value} (h : AL w Q ev W) (hb : Below W.heap.size W W2) : AL w Q ev W2 := ⟨h.cq.below hb, h.aw.below hb, h.bel.trans (hb.mono h.bel.size)⟩
theorem has_a (W : World) : Calls Tryz.prog 26 #[.string ⟨#[97]⟩, .string ⟨#[13, 10]⟩] W fun e w' => e = .returned (.bool false) ∧ Below W.heap.size W w' :=
  Tryz.strings_ContainsAny_laid ⟨#[97]⟩ ⟨#[13, 10]⟩ W (by decide) (by decide) (ascii_of_all (by decide)) (ascii_of_all (by decide))
theorem has_b (W : World) : Calls Tryz.prog 26 #[.string ⟨#[98]⟩, .string ⟨#[13, 10]⟩] W fun e w' => e = .returned (.bool false) ∧ Below W.heap.size W w' :=
  Tryz.strings_ContainsAny_laid ⟨#[98]⟩ ⟨#[13, 10]⟩ W (by decide) (by decide) (ascii_of_all (by decide)) (ascii_of_all (by decide))
theorem itoa_250 : (Lib.itoa 250).length ≤ 20 := by decide +kernel
theorem reply_abL (ev : Value) (b : Nat) (W : World) (h : RW W b 0 abL ev W) : Calls Tryz.prog 9 #[.int .i64 250, .slice (some ⟨b, 0, none⟩) 2 2] W fun e w' =>
    e = .returned (.tuple #[.string ⟨#[50, 53, 48, 45, 97, 13, 10, 50, 53, 48, 32, 98, 13, 10]⟩, .nilIface]) ∧ Below W.heap.size W w' := by
  have h1 := reply_calls 250 (by decide) (by decide) itoa_250 abL (by decide) (by decide) (by decide) b 0 2 ev (fun _ => false) (fun j hj => by
    match j, hj with
    | 0, _ => exact has_a
    | 1, _ => exact has_b) W h
  have h2 : replyB 250 abL = ⟨#[50, 53, 48, 45, 97, 13, 10, 50, 53, 48, 32, 98, 13, 10]⟩ := reply_ab
  rw [h2] at h1
  exact h1
set_option maxRecDepth 100000 in
set_option maxHeartbeats 4000000 in
/-- The chapter's examples come out as told. -/
theorem alive_calls (t : Nat) (pv : Value) (w : World) (hA : AW (.iface t pv) w) : Calls Tryz.prog 6 #[] w fun e w' => e = .returned (.bool true) ∧ Below w.heap.size w w' := by
  have HP1 := Aside0.mk (fun W hW => parse_calls mailS (by decide) t pv W hW)
  have HP2 := Aside0.mk (fun W hW => parse_calls ⟨#[72, 69, 76, 76, 79, 32, 120]⟩ (by decide) t pv W hW)
  rw [parse_mail] at HP1
  rw [parse_hello] at HP2
  simp only [cmdV, emptyC, emptyB, mailS] at HP1 HP2
  have HA := Aside0.mk hA
  clear hA
  go_enter Tryz.func6, Tryz.ntmps6
  go_upto_region 3 with (go_at_call 7; first
    | (with_reducible refine (HP1.out _ HA.out.e).mono ?_; rintro e w1 ⟨rfl, hb1⟩; have HA1 := Aside0.mk (HA.out.below hb1); have HB1 := Aside0.mk hb1; clear hb1)
    | (with_reducible refine (HP2.out _ (AW.e (ev := .iface t pv) (HA1.out.below ((Below.refl _ w1).alloc (Nat.le_refl _) _)))).mono ?_; rintro e w2 ⟨rfl, hb2⟩; have HB2 := Aside0.mk hb2; clear hb2))
  have hA0 : Below w1.heap.size w1 (w1.alloc (cmdO mailC)) := (Below.refl _ w1).alloc (Nat.le_refl _) _
  have hL1 : AL w w1.heap.size (.iface t pv) (w1.alloc (cmdO mailC)) := ⟨cmdAt_new w1 mailC, HA1.out.below hA0, HB1.out.trans (hA0.mono HB1.out.size)⟩
  have hL2 := hL1.below HB2.out
  have hL3 := hL2.below ((Below.refl _ w2).alloc (Nat.le_refl _) (cmdO emptyC))
  obtain ⟨W, hW⟩ : ∃ W, W = w2.alloc (cmdO emptyC) := ⟨_, rfl⟩
  obtain ⟨Q, hQ⟩ : ∃ Q, Q = w1.heap.size := ⟨_, rfl⟩
  obtain ⟨Q2, hQ2⟩ : ∃ Q, Q = w2.heap.size := ⟨_, rfl⟩
  have hW2 : w2.alloc (Obj.cells #[Value.string ⟨#[]⟩, Value.string ⟨#[]⟩, Value.string ⟨#[]⟩, Value.string ⟨#[]⟩, Value.int IntKind.i64 0, Value.string ⟨#[]⟩] 26) = W := hW.symm
  rw [hW2, ← hQ, ← hQ2]
  rw [← hW, ← hQ] at hL3
  have HL := Aside0.mk hL3
  clear hA0 hL1 hL2 hL3 hW hW2 hQ hQ2 HB1 HB2 HA HA1 HP1 HP2
  have hcell : ∀ W2, W2 = W.alloc (Obj.cells #[Value.string ⟨#[97]⟩, Value.string ⟨#[98]⟩] 9) → ∀ j, j < abL.length → W2.cell? ⟨W.heap.size, 0 + j, none⟩ = some (.string (abL.getD j ByteArray.empty)) := fun W2 h j hj => by
    rw [h, World.cell?_alloc_new, Nat.zero_add]
    match j, hj with
    | 0, _ => rfl
    | 1, _ => rfl
  have HCE := Aside0.mk (hcell _ rfl)
  have HRA := Aside0.mk (HL.out.below ((Below.refl _ W).alloc (Nat.le_refl _) (Obj.cells #[Value.string ⟨#[97]⟩, Value.string ⟨#[98]⟩] 9)))
  have HRP := Aside0.mk (reply_abL (.iface t pv) W.heap.size _ ⟨HCE.out, HRA.out.aw.e, HRA.out.aw.tab, Below.refl _ _⟩)
  clear hcell
  go_wp2_with (go_at_call 9; refine HRP.out.mono ?_; rintro e w3 ⟨rfl, hb3⟩; have HL3 := Aside0.mk (HRA.out.below hb3); clear hb3; have m0 := HL3.out.cq.c0; have m1 := HL3.out.cq.c1; have m2 := HL3.out.cq.c2; have m3 := HL3.out.cq.c3; have m4 := HL3.out.cq.c4; have m5 := HL3.out.cq.c5; simp only [mailC] at m0 m1 m2 m3 m4 m5)
  go_ret
  exact ⟨rfl, HL3.out.bel⟩
end Go.Proofs.YtjggdkcfpdhoaaaGreatDoor.Alive
